/- Laid together by wip/tools/shake.py from texts of this claim: PBellowslaw12Few0. -/
import Derived.Test.YtapdchapjpnceaaGreatDoorZ4
section
namespace Go.Proofs.YtapdchapjpnceaaGreatDoor.P
open Go.RowKit Go.Proofs.YtapdchapjpnceaaGreatDoorW.PrintWords Go.Proofs.YtapdchapjpnceaaGreatDoorW.PrintLast Go.Proofs.YtapdchapjpnceaaGreatDoorW.PrintMore
attribute [local go_sem] max2_int min2_int max_two min_two max_three min_three max_four min_four
set_option linter.unusedVariables false
set_option linter.unusedSimpArgs false
mutual
def bellowslaw12_few.j0 : Nat → Bool → List (S38) → List ByteArray → Option (Bool)
  | 0, _, _, _ => none
  | k + 1, x16, x102000, x102001 => if x16 = true then (some false) else ((some (([] : List ByteArray) : List ByteArray)).bind fun y102 => (if y102.length + x102001.length < 8796093022208 then (bellowslaw12_few.l0 k (y102 ++ x102001) 0 x102000 x102001) else (none)))
def bellowslaw12_few.l0 : Nat → List ByteArray → Int → List (S38) → List ByteArray → Option (Bool)
  | 0, _, _, _, _ => none
  | k + 1, x3, x4, x102000, x102001 => if x4 < (x102000.length : Int) then (if 0 ≤ x4 then (if (((rd_T38 x102000 x4).f0).length : Int) > 10 then (some false) else (if (((rd_T38 x102000 x4).f1).length : Int) > 10 then (some false) else (if (((rd_T38 x102000 x4).f2).length : Int) > 10 then (some false) else (if (((rd_T38 x102000 x4).f3).length : Int) > 10 then (some false) else (if (((rd_T38 x102000 x4).f4).size : Int) > 300 then (some false) else (if (((rd_T38 x102000 x4).f5).size : Int) > 200 then (some false) else (if x3.length + ((rd_T38 x102000 x4).f0).length < 8796093022208 then ((some (x3 ++ ((rd_T38 x102000 x4).f0) : List ByteArray)).bind fun y110 => (if y110.length + ((rd_T38 x102000 x4).f1).length < 8796093022208 then ((some (y110 ++ ((rd_T38 x102000 x4).f1) : List ByteArray)).bind fun y113 => (if y113.length + ((rd_T38 x102000 x4).f2).length < 8796093022208 then ((some (y113 ++ ((rd_T38 x102000 x4).f2) : List ByteArray)).bind fun y116 => (if y116.length + ((rd_T38 x102000 x4).f3).length < 8796093022208 then (bellowslaw12_few.l0 k (y116 ++ ((rd_T38 x102000 x4).f3)) (wrap64 (x4 + 1)) x102000 x102001) else (none))) else (none))) else (none))) else (none)))))))) else (none)) else (bellowslaw12_few.l1 k x3 0)
def bellowslaw12_few.l1 : Nat → List ByteArray → Int → Option (Bool)
  | 0, _, _ => none
  | k + 1, x3, x6 => if x6 < (x3.length : Int) then (if 0 ≤ x6 then (if ((rdOf ByteArray.empty x3 x6).size : Int) > 200 then (some false) else (bellowslaw12_few.l1 k x3 (wrap64 (x6 + 1)))) else (none)) else (some true)
end
def bellowslaw12_few.f (k : Nat) (l0_0 : List (S38)) (l0_1 : List ByteArray) : Option (Bool) := if (l0_0.length : Int) > 30 then (bellowslaw12_few.j0 k true l0_0 l0_1) else (bellowslaw12_few.j0 k (decide ((l0_1.length : Int) > 20)) l0_0 l0_1)
theorem bellowslaw12_few.mono_l : ∀ k, (∀ y0 y1 y2, LeO (bellowslaw12_few.j0 k y0 y1 y2) (bellowslaw12_few.j0 (k + 1) y0 y1 y2)) ∧ (∀ y0 y1 y2 y3, LeO (bellowslaw12_few.l0 k y0 y1 y2 y3) (bellowslaw12_few.l0 (k + 1) y0 y1 y2 y3)) ∧ (∀ y0 y1, LeO (bellowslaw12_few.l1 k y0 y1) (bellowslaw12_few.l1 (k + 1) y0 y1))
  | 0 => ⟨fun _ _ _ r h => by simp [bellowslaw12_few.j0] at h, fun _ _ _ _ r h => by simp [bellowslaw12_few.l0] at h, fun _ _ r h => by simp [bellowslaw12_few.l1] at h⟩
  | k + 1 => by
    obtain ⟨ih0, ih1, ih2⟩ := bellowslaw12_few.mono_l k
    refine ⟨?_, ?_, ?_⟩
    · intro y0 y1 y2
      unfold bellowslaw12_few.j0
      repeat' first
      | (with_reducible exact ih0 _ _ _)
      | (with_reducible exact ih1 _ _ _ _)
      | (with_reducible exact ih2 _ _)
      | (with_reducible exact LeO.refl _)
      | (with_reducible exact LeO.none _)
      | (with_reducible refine LeO.ite ?_ ?_)
      | (with_reducible refine LeO.bind ?_ (fun _ => ?_))
      | exact ih0 _ _ _
      | exact ih1 _ _ _ _
      | exact ih2 _ _
      | exact LeO.none _
      | refine LeO.ite ?_ ?_
      | refine LeO.bind ?_ (fun _ => ?_)
    · intro y0 y1 y2 y3
      unfold bellowslaw12_few.l0
      repeat' first
      | (with_reducible exact ih0 _ _ _)
      | (with_reducible exact ih1 _ _ _ _)
      | (with_reducible exact ih2 _ _)
      | (with_reducible exact LeO.refl _)
      | (with_reducible exact LeO.none _)
      | (with_reducible refine LeO.ite ?_ ?_)
      | (with_reducible refine LeO.bind ?_ (fun _ => ?_))
      | exact ih0 _ _ _
      | exact ih1 _ _ _ _
      | exact ih2 _ _
      | exact LeO.none _
      | refine LeO.ite ?_ ?_
      | refine LeO.bind ?_ (fun _ => ?_)
    · intro y0 y1
      unfold bellowslaw12_few.l1
      repeat' first
      | (with_reducible exact ih0 _ _ _)
      | (with_reducible exact ih1 _ _ _ _)
      | (with_reducible exact ih2 _ _)
      | (with_reducible exact LeO.refl _)
      | (with_reducible exact LeO.none _)
      | (with_reducible refine LeO.ite ?_ ?_)
      | (with_reducible refine LeO.bind ?_ (fun _ => ?_))
      | exact ih0 _ _ _
      | exact ih1 _ _ _ _
      | exact ih2 _ _
      | exact LeO.none _
      | refine LeO.ite ?_ ?_
      | refine LeO.bind ?_ (fun _ => ?_)
theorem bellowslaw12_few.mono : ∀ a0 a1 k, LeO (bellowslaw12_few.f k a0 a1) (bellowslaw12_few.f (k + 1) a0 a1) := by
  intro a0 a1 k
  obtain ⟨ih0, ih1, ih2⟩ := bellowslaw12_few.mono_l k
  unfold bellowslaw12_few.f
  repeat' first
      | (with_reducible exact ih0 _ _ _)
      | (with_reducible exact ih1 _ _ _ _)
      | (with_reducible exact ih2 _ _)
      | (with_reducible exact LeO.refl _)
      | (with_reducible exact LeO.none _)
      | (with_reducible refine LeO.ite ?_ ?_)
      | (with_reducible refine LeO.bind ?_ (fun _ => ?_))
      | exact ih0 _ _ _
      | exact ih1 _ _ _ _
      | exact ih2 _ _
      | exact LeO.none _
      | refine LeO.ite ?_ ?_
      | refine LeO.bind ?_ (fun _ => ?_)
def bellowslaw12_few.T10 : Bool × List (List Nat × List Nat) := (true, [([], []), ([], []), ([1], [1]), ([0, 2], [0, 2]), ([], []), ([4], [4]), ([3, 5, 3], [3, 5]), ([], []), ([7], [7]), ([6, 8, 6], [6, 8]), ([], []), ([10], [10]), ([9, 11, 9], [9, 11]), ([12, 12, 0, 1, 2, 3, 4, 5, 6, 7, 8, 9, 10, 11, 12], [0, 12])])
def bellowslaw12_few.B10 : List Nat := [0, 0, 2, 7, 0, 16, 63, 0, 128, 511, 0, 1024, 4095, 8191]
theorem bellowslaw12_few.tab10 : rtab .any (opsOf Tryz.f4 10) = bellowslaw12_few.T10 := by kernel_rfl
theorem bellowslaw12_few.bits10 : waitsOk bellowslaw12_few.T10.2 bellowslaw12_few.B10 = true := by kernel_rfl
set_option maxHeartbeats 8000000 in
set_option maxRecDepth 100000 in
theorem bellowslaw12_few.calls (k : Nat) (A0_0 : Option Addr) (c0_0 : Nat) (l0_0 : List (S38)) (A0_1 : Option Addr) (c0_1 : Nat) (l0_1 : List ByteArray) (r : Bool) (w : World) (hr0_0 : Kd.C k38 w A0_0 l0_0.length l0_0) (hc0_0 : l0_0.length ≤ c0_0) (hr0_1 : Kd.C Kd.string w A0_1 l0_1.length l0_1) (hc0_1 : l0_1.length ≤ c0_1) (h : bellowslaw12_few.f k l0_0 l0_1 = some r) :
    Calls Tryz.prog 4 #[.agg #[.slice A0_0 l0_0.length c0_0, .slice A0_1 l0_1.length c0_1]] w fun e w' => e = .returned (.bool r) ∧ Below w.heap.size w w' := by
  have hu25 := Tryz.underlying25
  have hu38 := Tryz.underlying38
  have HR0_0 := Aside0.mk hr0_0
  have HC0_0 := Aside0.mk hc0_0
  clear hr0_0 hc0_0
  have HR0_1 := Aside0.mk hr0_1
  have HC0_1 := Aside0.mk hc0_1
  clear hr0_1 hc0_1
  have HB := Aside0.mk (Below.refl w.heap.size w)
  have H : (if (l0_0.length : Int) > 30 then (bellowslaw12_few.j0 k true l0_0 l0_1) else (bellowslaw12_few.j0 k (decide ((l0_1.length : Int) > 20)) l0_0 l0_1)) = some r := h
  clear h
  have HC2 := Aside0.mk H
  clear H
  go_enter Tryz.func4, Tryz.ntmps4
  go_upto_region 1 with (first | ((with_reducible refine gate_dst (N := 1) rfl ?_); (try (refine gate_guard (by rfl) ?_; dsimp only)); refine box_event ?hg (N := 1) ?hd (cs := #[.slice A0_0 l0_0.length c0_0, .slice A0_1 l0_1.length c0_1]) (t := 25) ?hr ?_; (case hd => rfl); (case hg => rfl); (case hr => first | (go_simp; done) | (go_simp; rfl)); intro gb101 hg w3 hbox hb; have n0_ := Aside0.mk (below_step (by repeat (first | (with_reducible first | exact HB.out | apply below_alloc | apply pw_below_drewN | apply below_drew1) | exact HB.out)) hb); have n1_ := Aside0.mk (hbox); have n2_ := Aside0.mk ((by rw [hg]; exact (below_size (by repeat (first | (with_reducible first | exact HB.out | apply below_alloc | apply pw_below_drewN | apply below_drew1) | exact HB.out))) : w.heap.size ≤ gb101)); have n3_ := Aside0.mk ((by rw [hg]; exact (below_size (by repeat (first | (with_reducible first | exact HB.out | apply below_alloc | apply pw_below_drewN | apply below_drew1) | exact HB.out))) : w.heap.size ≤ gb101)); clear HB; have HB := n0_; have BK101 := n1_; have GW101 := n2_; have GE101 := n3_; clear n0_ n1_ n2_ n3_; clear hb hbox hg))
  (try simp only [Act.put, List.setIfInBounds_toArray, List.set_cons_zero, List.set_cons_succ])
  go_cut [16] (fun v16 wc => ∃ (kq : Nat) (x16_1 : Bool), v16 = .bool x16_1 ∧ Aside0 (bellowslaw12_few.j0 kq x16_1 l0_0 l0_1 = some r) ∧ Aside0 (kq ≤ k) ∧ Aside0 (wc.heap[gb101]? = some (.cells #[(.slice A0_0 l0_0.length c0_0), (.slice A0_1 l0_1.length c0_1)] 25 (0, 0))) ∧ Aside0 (Below w.heap.size w wc))
  case first =>
    have H := HC2.out
    clear HC2
    by_cases c4 : (l0_0.length : Int) > 30
    · rw [if_pos c4] at H
      have c4b0 : decide (30 < (l0_0.length : Int)) = true := decide_eq_true c4
      have c4b1 : decide (30 < l0_0.length) = true := decide_eq_true (by omega)
      clear c4
      (first | rw [c4b0] | (simp only [i64_w, i32_w]; rw [c4b0]) | skip)
      have H' := Aside0.mk H
      clear H
      have hcz5_0 : w3.cell? ⟨gb101, 0, none⟩ = some (.slice A0_0 l0_0.length c0_0) := (blk_cell BK101.out 0).trans rfl
      have hcz5_1 : w3.cell? ⟨gb101, 1, none⟩ = some (.slice A0_1 l0_1.length c0_1) := (blk_cell BK101.out 1).trans rfl
      have hfz5_0 := blk_frozen BK101.out 0
      have hfz5_1 := blk_frozen BK101.out 1
      go_wp2
      go_meet
      case rel => exact ⟨_, (true), (by first | rfl | (simp; done) | (simp [*]; done)), H', ⟨by first | omega | exact Nat.le_refl _⟩, ⟨by (with_reducible repeat (first | refine blk_drewN ?_ _ | refine blk_drew ?_ | refine blk_alloc ?_ _)); exact BK101.out⟩, ⟨by repeat (first | (with_reducible first | exact HB.out | apply below_alloc | apply pw_below_drewN | apply below_drew1 | refine below_set ?_ GE101.out) | exact HB.out)⟩⟩
    · rw [if_neg c4] at H
      have c4b0 : decide (30 < (l0_0.length : Int)) = false := decide_eq_false c4
      have c4b1 : decide (30 < l0_0.length) = false := decide_eq_false (by omega)
      clear c4
      (first | rw [c4b0] | (simp only [i64_w, i32_w]; rw [c4b0]) | skip)
      have H' := Aside0.mk H
      clear H
      have hcz6_0 : w3.cell? ⟨gb101, 0, none⟩ = some (.slice A0_0 l0_0.length c0_0) := (blk_cell BK101.out 0).trans rfl
      have hcz6_1 : w3.cell? ⟨gb101, 1, none⟩ = some (.slice A0_1 l0_1.length c0_1) := (blk_cell BK101.out 1).trans rfl
      have hfz6_0 := blk_frozen BK101.out 0
      have hfz6_1 := blk_frozen BK101.out 1
      go_wp2
      go_meet
      case rel => exact ⟨_, (decide ((l0_1.length : Int) > 20)), (by first | rfl | (simp; done) | (simp [*]; done)), H', ⟨by first | omega | exact Nat.le_refl _⟩, ⟨by (with_reducible repeat (first | refine blk_drewN ?_ _ | refine blk_drew ?_ | refine blk_alloc ?_ _)); exact BK101.out⟩, ⟨by repeat (first | (with_reducible first | exact HB.out | apply below_alloc | apply pw_below_drewN | apply below_drew1 | refine below_set ?_ GE101.out) | exact HB.out)⟩⟩
  case rest =>
    clear HC2
    try clear p2
    try clear c4
    try clear c4b0
    try clear c4b1
    try clear hcz5_0
    try clear hcz5_1
    try clear hcz6_0
    try clear hcz6_1
    try clear hfz5_0
    try clear hfz5_1
    try clear hfz6_0
    try clear hfz6_1
    obtain ⟨kq, x16_1, rfl, HA, HJ1, BK101, HB⟩ := hcut
    cases kq with
    | zero => exact absurd HA.out (by simp [bellowslaw12_few.j0])
    | succ kj1 =>
      have H := HA.out
      clear HA
      simp only [bellowslaw12_few.j0] at H
      by_cases c7 : x16_1 = true
      · subst c7
        have H1 : (some false) = some r := by rw [if_pos rfl] at H; exact H
        clear H
        have H := H1
        clear H1
        obtain rfl := Option.some.inj H
        go_wp2
        go_ret
        exact ⟨by first | rfl | (simp [errW_none, errW_some] <;> rfl) | (simp [*, errW_none, errW_some] <;> rfl), by repeat (first | (with_reducible first | exact HB.out | apply below_alloc | apply pw_below_drewN | apply below_drew1 | refine below_set ?_ GE101.out) | exact HB.out)⟩
      · replace c7 := Bool.eq_false_iff.mpr c7
        subst c7
        have H1 : ((some (([] : List ByteArray) : List ByteArray)).bind fun y102 => (if y102.length + l0_1.length < 8796093022208 then (bellowslaw12_few.l0 kj1 (y102 ++ l0_1) 0 l0_0 l0_1) else (none))) = some r := by rw [if_neg (show ¬ (false = true) by decide)] at H; exact H
        clear H
        have H := H1
        clear H1
        obtain ⟨y102, hy102⟩ : ∃ y_ : List ByteArray, y_ = (([] : List ByteArray)) := ⟨_, rfl⟩
        replace H : (if y102.length + l0_1.length < 8796093022208 then (bellowslaw12_few.l0 kj1 (y102 ++ l0_1) 0 l0_0 l0_1) else (none)) = some r := by first | (rw [hy102]; with_reducible exact H) | (have H2_ := (Option.bind_some _ _).symm.trans H; rw [hy102]; with_reducible exact H2_) | (have H2_ := (Option.bind_some _ _).symm.trans H; with_reducible exact H2_) | with_reducible exact H | (rw [hy102]; exact H) | exact H
        have Ny102 := Aside0.mk hy102
        clear hy102
        by_cases c8 : y102.length + l0_1.length < 8796093022208
        · rw [if_pos c8] at H
          have LMc8 := Aside0.mk c8
          clear c8
          obtain ⟨y105, hy105⟩ : ∃ y_ : List ByteArray, y_ = (y102 ++ l0_1) := ⟨_, rfl⟩
          replace H : (bellowslaw12_few.l0 kj1 y105 0 l0_0 l0_1) = some r := by first | (rw [hy105]; with_reducible exact H) | (have H2_ := (Option.bind_some _ _).symm.trans H; rw [hy105]; with_reducible exact H2_) | (have H2_ := (Option.bind_some _ _).symm.trans H; with_reducible exact H2_) | with_reducible exact H | (rw [hy105]; exact H) | exact H
          have Ny105 := Aside0.mk hy105
          clear hy105
          have H' := Aside0.mk H
          clear H
          go_wp2_with (first | ((with_reducible refine gate_dst (N := 17) rfl ?_); (try (refine gate_guard (by rfl) ?_; dsimp only)); refine Kd.R_lit Kd.string _ 9 ?hg (N := 17) ?hd (xs := ([] : List ByteArray)) (inner := []) (ok := fun _ => True) (okp := fun _ => True) ?hr ?hp (fun _ hk => hk) trivial (Below.refl _ _) (Nat.le_refl _) (by simp) ?_; (case hd => rfl); (case hg => rfl); (case hr => first | (go_simp; done) | (go_simp; rfl)); (case hp => exact (Reps.none _ _)); intro v103 w9 ho10 hb hg_ hnew_; clear hg_ hnew_; (first | rw [← Ny102.out] at ho10 | (simp only [Int.reduceToNat] at ho10; rw [← Ny102.out] at ho10)); have n0_ := Aside0.mk (Kd.R_lower ho10 (below_size (by repeat (first | (with_reducible first | exact HB.out | apply below_alloc | apply pw_below_drewN | apply below_drew1 | refine below_set ?_ GE101.out) | exact HB.out)))); have n1_ := Aside0.mk (blk_below (g := gb101) (o := .cells #[.slice A0_0 l0_0.length c0_0, .slice A0_1 l0_1.length c0_1] 25 (0, 0)) (by (with_reducible repeat (first | refine blk_drewN ?_ _ | refine blk_drew ?_ | refine blk_alloc ?_ _)); exact BK101.out) hb); have n2_ := Aside0.mk (below_step (by repeat (first | (with_reducible first | exact HB.out | apply below_alloc | apply pw_below_drewN | apply below_drew1 | refine below_set ?_ GE101.out) | exact HB.out)) hb); clear BK101; clear HB; have HO104 := n0_; have BK101 := n1_; have HB := n2_; clear n0_ n1_ n2_; clear hb ho10; have hcz11_0 : w9.cell? ⟨gb101, 0, none⟩ = some (.slice A0_0 l0_0.length c0_0) := (blk_cell BK101.out 0).trans rfl; have hcz11_1 : w9.cell? ⟨gb101, 1, none⟩ = some (.slice A0_1 l0_1.length c0_1) := (blk_cell BK101.out 1).trans rfl; have hfz11_0 := blk_frozen BK101.out 0; have hfz11_1 := blk_frozen BK101.out 1) | ((with_reducible refine gate_builtin (b := .append) (xs := #[.tmp 17, .tmp 19]) rfl ?_); (try (refine gate_guard (by rfl) ?_; dsimp only)); at_builtin; refine Kd.R_append_rows Kd.string (w0 := w) w.heap.size rfl (.tmp 17) (.tmp 19) 23 9 (.string ⟨#[]⟩) 16 rfl Tryz.underlying23 info9 rfl (by decide) (by omega) v103 y102 l0_1 _ _ _ (fun _ => True) (fun _ => False) rfl rfl ?aO ?aR (fun _ _ h => h) (fun _ h => h.elim) ?aF ?aB ?aS ?aL ?_; (case aR => repeat (first | exact (Kd.C_below HR0_1.out HB.out) | (with_reducible refine Kd.C_alloc ?_ _) | (with_reducible refine Kd.C_drewN ?_ _) | (with_reducible refine Kd.C_drew ?_))); (case aB => exact (by repeat (first | (with_reducible first | exact HB.out | apply below_alloc | apply pw_below_drewN | apply below_drew1 | refine below_set ?_ GE101.out) | exact HB.out))); (case aF => exact (fun _ _ => trivial)); (case aO => exact (by (with_reducible repeat (first | apply Kd.R_alloc | apply Kd.R_drewN | apply Kd.R_drew)); exact HO104.out)); (case aS => exact (below_size (by repeat (first | (with_reducible first | exact HB.out | apply below_alloc | apply pw_below_drewN | apply below_drew1 | refine below_set ?_ GE101.out) | exact HB.out)))); (case aL => have := LMc8.out; omega); intro v106 w12 ho hb hg hat; rw [← Ny105.out] at ho; have n0_ := Aside0.mk (blk_grown (g := gb101) (o := .cells #[.slice A0_0 l0_0.length c0_0, .slice A0_1 l0_1.length c0_1] 25 (0, 0)) (by (with_reducible repeat (first | refine blk_drewN ?_ _ | refine blk_drew ?_ | refine blk_alloc ?_ _)); exact BK101.out) hg (Kd.R_ne HO104.out BK101.out (by decide))); have n1_ := Aside0.mk (hb); have n2_ := Aside0.mk (ho); clear BK101; clear HB; clear HO104; have BK101 := n0_; have HB := n1_; have HO107 := n2_; clear n0_ n1_ n2_; clear ho hb hg hat))
          go_loopg [3, 4] kj1 (fun kq v3 v4 w' => ∃ (x3_2 : List ByteArray) (x4_2 : Int), v4 = .int .i64 x4_2 ∧ Aside0 (bellowslaw12_few.l0 kq x3_2 x4_2 l0_0 l0_1 = some r) ∧ Aside0 (kq ≤ kj1) ∧ Aside0 (Kd.R Kd.string 9 w' w.heap.size (fun _ => True) v3 x3_2) ∧ Aside0 (w'.heap[gb101]? = some (.cells #[(.slice A0_0 l0_0.length c0_0), (.slice A0_1 l0_1.length c0_1)] 25 (0, 0))) ∧ Aside0 (Below w.heap.size w w'))
          case atStart => exact ⟨(y105), (0), (by first | rfl | (simp; done) | (simp [*]; done)), H', ⟨Nat.le_refl _⟩, ⟨by (with_reducible repeat (first | apply Kd.R_alloc | apply Kd.R_drewN | apply Kd.R_drew)); exact HO107.out⟩, ⟨by (with_reducible repeat (first | refine blk_drewN ?_ _ | refine blk_drew ?_ | refine blk_alloc ?_ _)); exact BK101.out⟩, ⟨by repeat (first | (with_reducible first | exact HB.out | apply below_alloc | apply pw_below_drewN | apply below_drew1 | refine below_set ?_ GE101.out) | exact HB.out)⟩⟩
          case round =>
            clear H'
            try clear p2
            try clear c4
            try clear c4b0
            try clear c4b1
            try clear c7
            try clear c8
            try clear hcz11_0
            try clear hcz11_1
            try clear hcz5_0
            try clear hcz5_1
            try clear hcz6_0
            try clear hcz6_1
            try clear hfz11_0
            try clear hfz11_1
            try clear hfz5_0
            try clear hfz5_1
            try clear hfz6_0
            try clear hfz6_1
            try clear p2
            obtain ⟨x3_2, x4_2, rfl, HA, HK2, HO_3, BK101, HB⟩ := hrel
            cases gk with
            | zero => exact absurd HA.out (by simp [bellowslaw12_few.l0])
            | succ k2 =>
              have H := HA.out
              clear HA
              simp only [bellowslaw12_few.l0] at H
              by_cases c13 : x4_2 < (l0_0.length : Int)
              · rw [if_pos c13] at H
                have c13b0 : decide (x4_2 < (l0_0.length : Int)) = true := decide_eq_true c13
                clear c13
                by_cases c14 : 0 ≤ x4_2
                · rw [if_pos c14] at H
                  have c14b0 : decide (0 ≤ x4_2) = true := decide_eq_true c14
                  clear c14
                  by_cases c15 : (((rd_T38 l0_0 x4_2).f0).length : Int) > 10
                  · rw [if_pos c15] at H
                    have c15b0 : decide (10 < (((rd_T38 l0_0 x4_2).f0).length : Int)) = true := decide_eq_true c15
                    have c15b1 : decide (10 < ((rd_T38 l0_0 x4_2).f0).length) = true := decide_eq_true (by omega)
                    clear c15
                    obtain rfl := Option.some.inj H
                    have hcz16_0 : wr.cell? ⟨gb101, 0, none⟩ = some (.slice A0_0 l0_0.length c0_0) := (blk_cell BK101.out 0).trans rfl
                    have hcz16_1 : wr.cell? ⟨gb101, 1, none⟩ = some (.slice A0_1 l0_1.length c0_1) := (blk_cell BK101.out 1).trans rfl
                    have hfz16_0 := blk_frozen BK101.out 0
                    have hfz16_1 := blk_frozen BK101.out 1
                    have p108 : 0 ≤ (x4_2 : Int) := of_decide_eq_true (by first | (with_reducible assumption) | assumption)
                    have q108 : x4_2 < (l0_0.length : Int) := of_decide_eq_true (by first | (with_reducible assumption) | assumption)
                    obtain ⟨ad108, A108_0, c108_0, A108_1, c108_1, A108_2, c108_2, A108_3, c108_3, e108, hx108_0, hx108_1, hx108_2, hx108_3, hx108_4, hx108_5, hl108_0, hi108_0, hl108_1, hi108_1, hl108_2, hi108_2, hl108_3, hi108_3⟩ := at_T38 HR0_0.out x4_2 p108 q108
                    cases e108
                    replace hx108_0 := (HB.out.cell (World.block_lt_of_cell? w _ hx108_0)).trans hx108_0
                    replace hx108_1 := (HB.out.cell (World.block_lt_of_cell? w _ hx108_1)).trans hx108_1
                    replace hx108_2 := (HB.out.cell (World.block_lt_of_cell? w _ hx108_2)).trans hx108_2
                    replace hx108_3 := (HB.out.cell (World.block_lt_of_cell? w _ hx108_3)).trans hx108_3
                    replace hx108_4 := (HB.out.cell (World.block_lt_of_cell? w _ hx108_4)).trans hx108_4
                    replace hx108_5 := (HB.out.cell (World.block_lt_of_cell? w _ hx108_5)).trans hx108_5
                    have HR108_0 := Aside0.mk hi108_0
                    have HC108_0 := Aside0.mk hl108_0
                    clear hi108_0 hl108_0
                    have HR108_1 := Aside0.mk hi108_1
                    have HC108_1 := Aside0.mk hl108_1
                    clear hi108_1 hl108_1
                    have HR108_2 := Aside0.mk hi108_2
                    have HC108_2 := Aside0.mk hl108_2
                    clear hi108_2 hl108_2
                    have HR108_3 := Aside0.mk hi108_3
                    have HC108_3 := Aside0.mk hl108_3
                    clear hi108_3 hl108_3
                    replace p108 := eq_true p108
                    replace q108 := eq_true q108
                    go_wp2_with (first | ((with_reducible refine gate_dst (N := 5) rfl ?_); (try (refine gate_guard (by rfl) ?_; dsimp only)); refine box_event ?hg (N := 5) ?hd (cs := #[.slice none 0 0, .slice none 0 0, .slice none 0 0, .slice none 0 0, .string (⟨#[]⟩ : ByteArray), .string (⟨#[]⟩ : ByteArray)]) (t := 38) ?hr ?_; (case hd => rfl); (case hg => rfl); (case hr => first | (go_simp; done) | (go_simp; rfl)); intro gb109 hg w17 hbox hb; have n0_ := Aside0.mk (Kd.R_below (by (with_reducible repeat (first | apply Kd.R_alloc | apply Kd.R_drewN | apply Kd.R_drew)); exact HO_3.out) hb); have n1_ := Aside0.mk (blk_below (g := gb101) (o := .cells #[.slice (some ad108) l0_0.length c0_0, .slice A0_1 l0_1.length c0_1] 25 (0, 0)) (by (with_reducible repeat (first | refine blk_drewN ?_ _ | refine blk_drew ?_ | refine blk_alloc ?_ _)); exact BK101.out) hb); have n2_ := Aside0.mk (below_step (by repeat (first | (with_reducible first | exact HB.out | apply below_alloc | apply pw_below_drewN | apply below_drew1 | refine below_set ?_ GE101.out) | exact HB.out)) hb); have n3_ := Aside0.mk (hbox); have n4_ := Aside0.mk ((by rw [hg]; exact (below_size (by repeat (first | (with_reducible first | exact HB.out | apply below_alloc | apply pw_below_drewN | apply below_drew1 | refine below_set ?_ GE101.out) | exact HB.out))) : w.heap.size ≤ gb109)); have n5_ := Aside0.mk ((by rw [hg]; exact (below_size (by repeat (first | (with_reducible first | exact HB.out | apply below_alloc | apply pw_below_drewN | apply below_drew1 | refine below_set ?_ GE101.out) | exact HB.out))) : w.heap.size ≤ gb109)); have n6_ := Aside0.mk ((by rw [hg]; exact Nat.ne_of_lt (blk_lt (g := gb101) (o := .cells #[.slice (some ad108) l0_0.length c0_0, .slice A0_1 l0_1.length c0_1] 25 (0, 0)) (by (with_reducible repeat (first | refine blk_drewN ?_ _ | refine blk_drew ?_ | refine blk_alloc ?_ _)); exact BK101.out)) : gb101 ≠ gb109)); have n7_ := Aside0.mk ((by rw [hg]; exact Nat.ne_of_gt (blk_lt (g := gb101) (o := .cells #[.slice (some ad108) l0_0.length c0_0, .slice A0_1 l0_1.length c0_1] 25 (0, 0)) (by (with_reducible repeat (first | refine blk_drewN ?_ _ | refine blk_drew ?_ | refine blk_alloc ?_ _)); exact BK101.out)) : gb109 ≠ gb101)); clear HO_3; clear BK101; clear HB; have HO_3 := n0_; have BK101 := n1_; have HB := n2_; have BK109 := n3_; have GW109 := n4_; have GE109 := n5_; have NB101_109 := n6_; have NB109_101 := n7_; clear n0_ n1_ n2_ n3_ n4_ n5_ n6_ n7_; clear hb hbox hg; have hnb18 := NB109_101.out; have hnc18 := NB101_109.out; have hcz19_0 : w17.cell? ⟨gb109, 0, none⟩ = some (.slice none 0 0) := (blk_cell BK109.out 0).trans rfl; have hcz19_1 : w17.cell? ⟨gb109, 1, none⟩ = some (.slice none 0 0) := (blk_cell BK109.out 1).trans rfl; have hcz19_2 : w17.cell? ⟨gb109, 2, none⟩ = some (.slice none 0 0) := (blk_cell BK109.out 2).trans rfl; have hcz19_3 : w17.cell? ⟨gb109, 3, none⟩ = some (.slice none 0 0) := (blk_cell BK109.out 3).trans rfl; have hcz19_4 : w17.cell? ⟨gb109, 4, none⟩ = some (.string (⟨#[]⟩ : ByteArray)) := (blk_cell BK109.out 4).trans rfl; have hcz19_5 : w17.cell? ⟨gb109, 5, none⟩ = some (.string (⟨#[]⟩ : ByteArray)) := (blk_cell BK109.out 5).trans rfl; have hfz19_0 := blk_frozen BK109.out 0; have hfz19_1 := blk_frozen BK109.out 1; have hfz19_2 := blk_frozen BK109.out 2; have hfz19_3 := blk_frozen BK109.out 3; have hfz19_4 := blk_frozen BK109.out 4; have hfz19_5 := blk_frozen BK109.out 5))
                    go_ret
                    exact ⟨by first | rfl | (simp [errW_none, errW_some] <;> rfl) | (simp [*, errW_none, errW_some] <;> rfl), by repeat (first | (with_reducible first | exact HB.out | apply below_alloc | apply pw_below_drewN | apply below_drew1 | refine below_set ?_ GE101.out | refine below_set ?_ GE109.out) | exact HB.out)⟩
                  · rw [if_neg c15] at H
                    have c15b0 : decide (10 < (((rd_T38 l0_0 x4_2).f0).length : Int)) = false := decide_eq_false c15
                    have c15b1 : decide (10 < ((rd_T38 l0_0 x4_2).f0).length) = false := decide_eq_false (by omega)
                    clear c15
                    by_cases c20 : (((rd_T38 l0_0 x4_2).f1).length : Int) > 10
                    · rw [if_pos c20] at H
                      have c20b0 : decide (10 < (((rd_T38 l0_0 x4_2).f1).length : Int)) = true := decide_eq_true c20
                      have c20b1 : decide (10 < ((rd_T38 l0_0 x4_2).f1).length) = true := decide_eq_true (by omega)
                      clear c20
                      obtain rfl := Option.some.inj H
                      have hcz21_0 : wr.cell? ⟨gb101, 0, none⟩ = some (.slice A0_0 l0_0.length c0_0) := (blk_cell BK101.out 0).trans rfl
                      have hcz21_1 : wr.cell? ⟨gb101, 1, none⟩ = some (.slice A0_1 l0_1.length c0_1) := (blk_cell BK101.out 1).trans rfl
                      have hfz21_0 := blk_frozen BK101.out 0
                      have hfz21_1 := blk_frozen BK101.out 1
                      have p108 : 0 ≤ (x4_2 : Int) := of_decide_eq_true (by first | (with_reducible assumption) | assumption)
                      have q108 : x4_2 < (l0_0.length : Int) := of_decide_eq_true (by first | (with_reducible assumption) | assumption)
                      obtain ⟨ad108, A108_0, c108_0, A108_1, c108_1, A108_2, c108_2, A108_3, c108_3, e108, hx108_0, hx108_1, hx108_2, hx108_3, hx108_4, hx108_5, hl108_0, hi108_0, hl108_1, hi108_1, hl108_2, hi108_2, hl108_3, hi108_3⟩ := at_T38 HR0_0.out x4_2 p108 q108
                      cases e108
                      replace hx108_0 := (HB.out.cell (World.block_lt_of_cell? w _ hx108_0)).trans hx108_0
                      replace hx108_1 := (HB.out.cell (World.block_lt_of_cell? w _ hx108_1)).trans hx108_1
                      replace hx108_2 := (HB.out.cell (World.block_lt_of_cell? w _ hx108_2)).trans hx108_2
                      replace hx108_3 := (HB.out.cell (World.block_lt_of_cell? w _ hx108_3)).trans hx108_3
                      replace hx108_4 := (HB.out.cell (World.block_lt_of_cell? w _ hx108_4)).trans hx108_4
                      replace hx108_5 := (HB.out.cell (World.block_lt_of_cell? w _ hx108_5)).trans hx108_5
                      have HR108_0 := Aside0.mk hi108_0
                      have HC108_0 := Aside0.mk hl108_0
                      clear hi108_0 hl108_0
                      have HR108_1 := Aside0.mk hi108_1
                      have HC108_1 := Aside0.mk hl108_1
                      clear hi108_1 hl108_1
                      have HR108_2 := Aside0.mk hi108_2
                      have HC108_2 := Aside0.mk hl108_2
                      clear hi108_2 hl108_2
                      have HR108_3 := Aside0.mk hi108_3
                      have HC108_3 := Aside0.mk hl108_3
                      clear hi108_3 hl108_3
                      replace p108 := eq_true p108
                      replace q108 := eq_true q108
                      go_wp2_with (first | ((with_reducible refine gate_dst (N := 5) rfl ?_); (try (refine gate_guard (by rfl) ?_; dsimp only)); refine box_event ?hg (N := 5) ?hd (cs := #[.slice none 0 0, .slice none 0 0, .slice none 0 0, .slice none 0 0, .string (⟨#[]⟩ : ByteArray), .string (⟨#[]⟩ : ByteArray)]) (t := 38) ?hr ?_; (case hd => rfl); (case hg => rfl); (case hr => first | (go_simp; done) | (go_simp; rfl)); intro gb109 hg w22 hbox hb; have n0_ := Aside0.mk (Kd.R_below (by (with_reducible repeat (first | apply Kd.R_alloc | apply Kd.R_drewN | apply Kd.R_drew)); exact HO_3.out) hb); have n1_ := Aside0.mk (blk_below (g := gb101) (o := .cells #[.slice (some ad108) l0_0.length c0_0, .slice A0_1 l0_1.length c0_1] 25 (0, 0)) (by (with_reducible repeat (first | refine blk_drewN ?_ _ | refine blk_drew ?_ | refine blk_alloc ?_ _)); exact BK101.out) hb); have n2_ := Aside0.mk (below_step (by repeat (first | (with_reducible first | exact HB.out | apply below_alloc | apply pw_below_drewN | apply below_drew1 | refine below_set ?_ GE101.out) | exact HB.out)) hb); have n3_ := Aside0.mk (hbox); have n4_ := Aside0.mk ((by rw [hg]; exact (below_size (by repeat (first | (with_reducible first | exact HB.out | apply below_alloc | apply pw_below_drewN | apply below_drew1 | refine below_set ?_ GE101.out) | exact HB.out))) : w.heap.size ≤ gb109)); have n5_ := Aside0.mk ((by rw [hg]; exact (below_size (by repeat (first | (with_reducible first | exact HB.out | apply below_alloc | apply pw_below_drewN | apply below_drew1 | refine below_set ?_ GE101.out) | exact HB.out))) : w.heap.size ≤ gb109)); have n6_ := Aside0.mk ((by rw [hg]; exact Nat.ne_of_lt (blk_lt (g := gb101) (o := .cells #[.slice (some ad108) l0_0.length c0_0, .slice A0_1 l0_1.length c0_1] 25 (0, 0)) (by (with_reducible repeat (first | refine blk_drewN ?_ _ | refine blk_drew ?_ | refine blk_alloc ?_ _)); exact BK101.out)) : gb101 ≠ gb109)); have n7_ := Aside0.mk ((by rw [hg]; exact Nat.ne_of_gt (blk_lt (g := gb101) (o := .cells #[.slice (some ad108) l0_0.length c0_0, .slice A0_1 l0_1.length c0_1] 25 (0, 0)) (by (with_reducible repeat (first | refine blk_drewN ?_ _ | refine blk_drew ?_ | refine blk_alloc ?_ _)); exact BK101.out)) : gb109 ≠ gb101)); clear HO_3; clear BK101; clear HB; have HO_3 := n0_; have BK101 := n1_; have HB := n2_; have BK109 := n3_; have GW109 := n4_; have GE109 := n5_; have NB101_109 := n6_; have NB109_101 := n7_; clear n0_ n1_ n2_ n3_ n4_ n5_ n6_ n7_; clear hb hbox hg; have hnb23 := NB109_101.out; have hnc23 := NB101_109.out; have hcz24_0 : w22.cell? ⟨gb109, 0, none⟩ = some (.slice none 0 0) := (blk_cell BK109.out 0).trans rfl; have hcz24_1 : w22.cell? ⟨gb109, 1, none⟩ = some (.slice none 0 0) := (blk_cell BK109.out 1).trans rfl; have hcz24_2 : w22.cell? ⟨gb109, 2, none⟩ = some (.slice none 0 0) := (blk_cell BK109.out 2).trans rfl; have hcz24_3 : w22.cell? ⟨gb109, 3, none⟩ = some (.slice none 0 0) := (blk_cell BK109.out 3).trans rfl; have hcz24_4 : w22.cell? ⟨gb109, 4, none⟩ = some (.string (⟨#[]⟩ : ByteArray)) := (blk_cell BK109.out 4).trans rfl; have hcz24_5 : w22.cell? ⟨gb109, 5, none⟩ = some (.string (⟨#[]⟩ : ByteArray)) := (blk_cell BK109.out 5).trans rfl; have hfz24_0 := blk_frozen BK109.out 0; have hfz24_1 := blk_frozen BK109.out 1; have hfz24_2 := blk_frozen BK109.out 2; have hfz24_3 := blk_frozen BK109.out 3; have hfz24_4 := blk_frozen BK109.out 4; have hfz24_5 := blk_frozen BK109.out 5))
                      go_ret
                      exact ⟨by first | rfl | (simp [errW_none, errW_some] <;> rfl) | (simp [*, errW_none, errW_some] <;> rfl), by repeat (first | (with_reducible first | exact HB.out | apply below_alloc | apply pw_below_drewN | apply below_drew1 | refine below_set ?_ GE101.out | refine below_set ?_ GE109.out) | exact HB.out)⟩
                    · rw [if_neg c20] at H
                      have c20b0 : decide (10 < (((rd_T38 l0_0 x4_2).f1).length : Int)) = false := decide_eq_false c20
                      have c20b1 : decide (10 < ((rd_T38 l0_0 x4_2).f1).length) = false := decide_eq_false (by omega)
                      clear c20
                      by_cases c25 : (((rd_T38 l0_0 x4_2).f2).length : Int) > 10
                      · rw [if_pos c25] at H
                        have c25b0 : decide (10 < (((rd_T38 l0_0 x4_2).f2).length : Int)) = true := decide_eq_true c25
                        have c25b1 : decide (10 < ((rd_T38 l0_0 x4_2).f2).length) = true := decide_eq_true (by omega)
                        clear c25
                        obtain rfl := Option.some.inj H
                        have hcz26_0 : wr.cell? ⟨gb101, 0, none⟩ = some (.slice A0_0 l0_0.length c0_0) := (blk_cell BK101.out 0).trans rfl
                        have hcz26_1 : wr.cell? ⟨gb101, 1, none⟩ = some (.slice A0_1 l0_1.length c0_1) := (blk_cell BK101.out 1).trans rfl
                        have hfz26_0 := blk_frozen BK101.out 0
                        have hfz26_1 := blk_frozen BK101.out 1
                        have p108 : 0 ≤ (x4_2 : Int) := of_decide_eq_true (by first | (with_reducible assumption) | assumption)
                        have q108 : x4_2 < (l0_0.length : Int) := of_decide_eq_true (by first | (with_reducible assumption) | assumption)
                        obtain ⟨ad108, A108_0, c108_0, A108_1, c108_1, A108_2, c108_2, A108_3, c108_3, e108, hx108_0, hx108_1, hx108_2, hx108_3, hx108_4, hx108_5, hl108_0, hi108_0, hl108_1, hi108_1, hl108_2, hi108_2, hl108_3, hi108_3⟩ := at_T38 HR0_0.out x4_2 p108 q108
                        cases e108
                        replace hx108_0 := (HB.out.cell (World.block_lt_of_cell? w _ hx108_0)).trans hx108_0
                        replace hx108_1 := (HB.out.cell (World.block_lt_of_cell? w _ hx108_1)).trans hx108_1
                        replace hx108_2 := (HB.out.cell (World.block_lt_of_cell? w _ hx108_2)).trans hx108_2
                        replace hx108_3 := (HB.out.cell (World.block_lt_of_cell? w _ hx108_3)).trans hx108_3
                        replace hx108_4 := (HB.out.cell (World.block_lt_of_cell? w _ hx108_4)).trans hx108_4
                        replace hx108_5 := (HB.out.cell (World.block_lt_of_cell? w _ hx108_5)).trans hx108_5
                        have HR108_0 := Aside0.mk hi108_0
                        have HC108_0 := Aside0.mk hl108_0
                        clear hi108_0 hl108_0
                        have HR108_1 := Aside0.mk hi108_1
                        have HC108_1 := Aside0.mk hl108_1
                        clear hi108_1 hl108_1
                        have HR108_2 := Aside0.mk hi108_2
                        have HC108_2 := Aside0.mk hl108_2
                        clear hi108_2 hl108_2
                        have HR108_3 := Aside0.mk hi108_3
                        have HC108_3 := Aside0.mk hl108_3
                        clear hi108_3 hl108_3
                        replace p108 := eq_true p108
                        replace q108 := eq_true q108
                        go_wp2_with (first | ((with_reducible refine gate_dst (N := 5) rfl ?_); (try (refine gate_guard (by rfl) ?_; dsimp only)); refine box_event ?hg (N := 5) ?hd (cs := #[.slice none 0 0, .slice none 0 0, .slice none 0 0, .slice none 0 0, .string (⟨#[]⟩ : ByteArray), .string (⟨#[]⟩ : ByteArray)]) (t := 38) ?hr ?_; (case hd => rfl); (case hg => rfl); (case hr => first | (go_simp; done) | (go_simp; rfl)); intro gb109 hg w27 hbox hb; have n0_ := Aside0.mk (Kd.R_below (by (with_reducible repeat (first | apply Kd.R_alloc | apply Kd.R_drewN | apply Kd.R_drew)); exact HO_3.out) hb); have n1_ := Aside0.mk (blk_below (g := gb101) (o := .cells #[.slice (some ad108) l0_0.length c0_0, .slice A0_1 l0_1.length c0_1] 25 (0, 0)) (by (with_reducible repeat (first | refine blk_drewN ?_ _ | refine blk_drew ?_ | refine blk_alloc ?_ _)); exact BK101.out) hb); have n2_ := Aside0.mk (below_step (by repeat (first | (with_reducible first | exact HB.out | apply below_alloc | apply pw_below_drewN | apply below_drew1 | refine below_set ?_ GE101.out) | exact HB.out)) hb); have n3_ := Aside0.mk (hbox); have n4_ := Aside0.mk ((by rw [hg]; exact (below_size (by repeat (first | (with_reducible first | exact HB.out | apply below_alloc | apply pw_below_drewN | apply below_drew1 | refine below_set ?_ GE101.out) | exact HB.out))) : w.heap.size ≤ gb109)); have n5_ := Aside0.mk ((by rw [hg]; exact (below_size (by repeat (first | (with_reducible first | exact HB.out | apply below_alloc | apply pw_below_drewN | apply below_drew1 | refine below_set ?_ GE101.out) | exact HB.out))) : w.heap.size ≤ gb109)); have n6_ := Aside0.mk ((by rw [hg]; exact Nat.ne_of_lt (blk_lt (g := gb101) (o := .cells #[.slice (some ad108) l0_0.length c0_0, .slice A0_1 l0_1.length c0_1] 25 (0, 0)) (by (with_reducible repeat (first | refine blk_drewN ?_ _ | refine blk_drew ?_ | refine blk_alloc ?_ _)); exact BK101.out)) : gb101 ≠ gb109)); have n7_ := Aside0.mk ((by rw [hg]; exact Nat.ne_of_gt (blk_lt (g := gb101) (o := .cells #[.slice (some ad108) l0_0.length c0_0, .slice A0_1 l0_1.length c0_1] 25 (0, 0)) (by (with_reducible repeat (first | refine blk_drewN ?_ _ | refine blk_drew ?_ | refine blk_alloc ?_ _)); exact BK101.out)) : gb109 ≠ gb101)); clear HO_3; clear BK101; clear HB; have HO_3 := n0_; have BK101 := n1_; have HB := n2_; have BK109 := n3_; have GW109 := n4_; have GE109 := n5_; have NB101_109 := n6_; have NB109_101 := n7_; clear n0_ n1_ n2_ n3_ n4_ n5_ n6_ n7_; clear hb hbox hg; have hnb28 := NB109_101.out; have hnc28 := NB101_109.out; have hcz29_0 : w27.cell? ⟨gb109, 0, none⟩ = some (.slice none 0 0) := (blk_cell BK109.out 0).trans rfl; have hcz29_1 : w27.cell? ⟨gb109, 1, none⟩ = some (.slice none 0 0) := (blk_cell BK109.out 1).trans rfl; have hcz29_2 : w27.cell? ⟨gb109, 2, none⟩ = some (.slice none 0 0) := (blk_cell BK109.out 2).trans rfl; have hcz29_3 : w27.cell? ⟨gb109, 3, none⟩ = some (.slice none 0 0) := (blk_cell BK109.out 3).trans rfl; have hcz29_4 : w27.cell? ⟨gb109, 4, none⟩ = some (.string (⟨#[]⟩ : ByteArray)) := (blk_cell BK109.out 4).trans rfl; have hcz29_5 : w27.cell? ⟨gb109, 5, none⟩ = some (.string (⟨#[]⟩ : ByteArray)) := (blk_cell BK109.out 5).trans rfl; have hfz29_0 := blk_frozen BK109.out 0; have hfz29_1 := blk_frozen BK109.out 1; have hfz29_2 := blk_frozen BK109.out 2; have hfz29_3 := blk_frozen BK109.out 3; have hfz29_4 := blk_frozen BK109.out 4; have hfz29_5 := blk_frozen BK109.out 5))
                        go_ret
                        exact ⟨by first | rfl | (simp [errW_none, errW_some] <;> rfl) | (simp [*, errW_none, errW_some] <;> rfl), by repeat (first | (with_reducible first | exact HB.out | apply below_alloc | apply pw_below_drewN | apply below_drew1 | refine below_set ?_ GE101.out | refine below_set ?_ GE109.out) | exact HB.out)⟩
                      · rw [if_neg c25] at H
                        have c25b0 : decide (10 < (((rd_T38 l0_0 x4_2).f2).length : Int)) = false := decide_eq_false c25
                        have c25b1 : decide (10 < ((rd_T38 l0_0 x4_2).f2).length) = false := decide_eq_false (by omega)
                        clear c25
                        by_cases c30 : (((rd_T38 l0_0 x4_2).f3).length : Int) > 10
                        · rw [if_pos c30] at H
                          have c30b0 : decide (10 < (((rd_T38 l0_0 x4_2).f3).length : Int)) = true := decide_eq_true c30
                          have c30b1 : decide (10 < ((rd_T38 l0_0 x4_2).f3).length) = true := decide_eq_true (by omega)
                          clear c30
                          obtain rfl := Option.some.inj H
                          have hcz31_0 : wr.cell? ⟨gb101, 0, none⟩ = some (.slice A0_0 l0_0.length c0_0) := (blk_cell BK101.out 0).trans rfl
                          have hcz31_1 : wr.cell? ⟨gb101, 1, none⟩ = some (.slice A0_1 l0_1.length c0_1) := (blk_cell BK101.out 1).trans rfl
                          have hfz31_0 := blk_frozen BK101.out 0
                          have hfz31_1 := blk_frozen BK101.out 1
                          have p108 : 0 ≤ (x4_2 : Int) := of_decide_eq_true (by first | (with_reducible assumption) | assumption)
                          have q108 : x4_2 < (l0_0.length : Int) := of_decide_eq_true (by first | (with_reducible assumption) | assumption)
                          obtain ⟨ad108, A108_0, c108_0, A108_1, c108_1, A108_2, c108_2, A108_3, c108_3, e108, hx108_0, hx108_1, hx108_2, hx108_3, hx108_4, hx108_5, hl108_0, hi108_0, hl108_1, hi108_1, hl108_2, hi108_2, hl108_3, hi108_3⟩ := at_T38 HR0_0.out x4_2 p108 q108
                          cases e108
                          replace hx108_0 := (HB.out.cell (World.block_lt_of_cell? w _ hx108_0)).trans hx108_0
                          replace hx108_1 := (HB.out.cell (World.block_lt_of_cell? w _ hx108_1)).trans hx108_1
                          replace hx108_2 := (HB.out.cell (World.block_lt_of_cell? w _ hx108_2)).trans hx108_2
                          replace hx108_3 := (HB.out.cell (World.block_lt_of_cell? w _ hx108_3)).trans hx108_3
                          replace hx108_4 := (HB.out.cell (World.block_lt_of_cell? w _ hx108_4)).trans hx108_4
                          replace hx108_5 := (HB.out.cell (World.block_lt_of_cell? w _ hx108_5)).trans hx108_5
                          have HR108_0 := Aside0.mk hi108_0
                          have HC108_0 := Aside0.mk hl108_0
                          clear hi108_0 hl108_0
                          have HR108_1 := Aside0.mk hi108_1
                          have HC108_1 := Aside0.mk hl108_1
                          clear hi108_1 hl108_1
                          have HR108_2 := Aside0.mk hi108_2
                          have HC108_2 := Aside0.mk hl108_2
                          clear hi108_2 hl108_2
                          have HR108_3 := Aside0.mk hi108_3
                          have HC108_3 := Aside0.mk hl108_3
                          clear hi108_3 hl108_3
                          replace p108 := eq_true p108
                          replace q108 := eq_true q108
                          go_wp2_with (first | ((with_reducible refine gate_dst (N := 5) rfl ?_); (try (refine gate_guard (by rfl) ?_; dsimp only)); refine box_event ?hg (N := 5) ?hd (cs := #[.slice none 0 0, .slice none 0 0, .slice none 0 0, .slice none 0 0, .string (⟨#[]⟩ : ByteArray), .string (⟨#[]⟩ : ByteArray)]) (t := 38) ?hr ?_; (case hd => rfl); (case hg => rfl); (case hr => first | (go_simp; done) | (go_simp; rfl)); intro gb109 hg w32 hbox hb; have n0_ := Aside0.mk (Kd.R_below (by (with_reducible repeat (first | apply Kd.R_alloc | apply Kd.R_drewN | apply Kd.R_drew)); exact HO_3.out) hb); have n1_ := Aside0.mk (blk_below (g := gb101) (o := .cells #[.slice (some ad108) l0_0.length c0_0, .slice A0_1 l0_1.length c0_1] 25 (0, 0)) (by (with_reducible repeat (first | refine blk_drewN ?_ _ | refine blk_drew ?_ | refine blk_alloc ?_ _)); exact BK101.out) hb); have n2_ := Aside0.mk (below_step (by repeat (first | (with_reducible first | exact HB.out | apply below_alloc | apply pw_below_drewN | apply below_drew1 | refine below_set ?_ GE101.out) | exact HB.out)) hb); have n3_ := Aside0.mk (hbox); have n4_ := Aside0.mk ((by rw [hg]; exact (below_size (by repeat (first | (with_reducible first | exact HB.out | apply below_alloc | apply pw_below_drewN | apply below_drew1 | refine below_set ?_ GE101.out) | exact HB.out))) : w.heap.size ≤ gb109)); have n5_ := Aside0.mk ((by rw [hg]; exact (below_size (by repeat (first | (with_reducible first | exact HB.out | apply below_alloc | apply pw_below_drewN | apply below_drew1 | refine below_set ?_ GE101.out) | exact HB.out))) : w.heap.size ≤ gb109)); have n6_ := Aside0.mk ((by rw [hg]; exact Nat.ne_of_lt (blk_lt (g := gb101) (o := .cells #[.slice (some ad108) l0_0.length c0_0, .slice A0_1 l0_1.length c0_1] 25 (0, 0)) (by (with_reducible repeat (first | refine blk_drewN ?_ _ | refine blk_drew ?_ | refine blk_alloc ?_ _)); exact BK101.out)) : gb101 ≠ gb109)); have n7_ := Aside0.mk ((by rw [hg]; exact Nat.ne_of_gt (blk_lt (g := gb101) (o := .cells #[.slice (some ad108) l0_0.length c0_0, .slice A0_1 l0_1.length c0_1] 25 (0, 0)) (by (with_reducible repeat (first | refine blk_drewN ?_ _ | refine blk_drew ?_ | refine blk_alloc ?_ _)); exact BK101.out)) : gb109 ≠ gb101)); clear HO_3; clear BK101; clear HB; have HO_3 := n0_; have BK101 := n1_; have HB := n2_; have BK109 := n3_; have GW109 := n4_; have GE109 := n5_; have NB101_109 := n6_; have NB109_101 := n7_; clear n0_ n1_ n2_ n3_ n4_ n5_ n6_ n7_; clear hb hbox hg; have hnb33 := NB109_101.out; have hnc33 := NB101_109.out; have hcz34_0 : w32.cell? ⟨gb109, 0, none⟩ = some (.slice none 0 0) := (blk_cell BK109.out 0).trans rfl; have hcz34_1 : w32.cell? ⟨gb109, 1, none⟩ = some (.slice none 0 0) := (blk_cell BK109.out 1).trans rfl; have hcz34_2 : w32.cell? ⟨gb109, 2, none⟩ = some (.slice none 0 0) := (blk_cell BK109.out 2).trans rfl; have hcz34_3 : w32.cell? ⟨gb109, 3, none⟩ = some (.slice none 0 0) := (blk_cell BK109.out 3).trans rfl; have hcz34_4 : w32.cell? ⟨gb109, 4, none⟩ = some (.string (⟨#[]⟩ : ByteArray)) := (blk_cell BK109.out 4).trans rfl; have hcz34_5 : w32.cell? ⟨gb109, 5, none⟩ = some (.string (⟨#[]⟩ : ByteArray)) := (blk_cell BK109.out 5).trans rfl; have hfz34_0 := blk_frozen BK109.out 0; have hfz34_1 := blk_frozen BK109.out 1; have hfz34_2 := blk_frozen BK109.out 2; have hfz34_3 := blk_frozen BK109.out 3; have hfz34_4 := blk_frozen BK109.out 4; have hfz34_5 := blk_frozen BK109.out 5))
                          go_ret
                          exact ⟨by first | rfl | (simp [errW_none, errW_some] <;> rfl) | (simp [*, errW_none, errW_some] <;> rfl), by repeat (first | (with_reducible first | exact HB.out | apply below_alloc | apply pw_below_drewN | apply below_drew1 | refine below_set ?_ GE101.out | refine below_set ?_ GE109.out) | exact HB.out)⟩
                        · rw [if_neg c30] at H
                          have c30b0 : decide (10 < (((rd_T38 l0_0 x4_2).f3).length : Int)) = false := decide_eq_false c30
                          have c30b1 : decide (10 < ((rd_T38 l0_0 x4_2).f3).length) = false := decide_eq_false (by omega)
                          clear c30
                          by_cases c35 : (((rd_T38 l0_0 x4_2).f4).size : Int) > 300
                          · rw [if_pos c35] at H
                            have c35b0 : decide (300 < (((rd_T38 l0_0 x4_2).f4).size : Int)) = true := decide_eq_true c35
                            have c35b1 : decide (300 < ((rd_T38 l0_0 x4_2).f4).size) = true := decide_eq_true (by omega)
                            clear c35
                            obtain rfl := Option.some.inj H
                            have hcz36_0 : wr.cell? ⟨gb101, 0, none⟩ = some (.slice A0_0 l0_0.length c0_0) := (blk_cell BK101.out 0).trans rfl
                            have hcz36_1 : wr.cell? ⟨gb101, 1, none⟩ = some (.slice A0_1 l0_1.length c0_1) := (blk_cell BK101.out 1).trans rfl
                            have hfz36_0 := blk_frozen BK101.out 0
                            have hfz36_1 := blk_frozen BK101.out 1
                            have p108 : 0 ≤ (x4_2 : Int) := of_decide_eq_true (by first | (with_reducible assumption) | assumption)
                            have q108 : x4_2 < (l0_0.length : Int) := of_decide_eq_true (by first | (with_reducible assumption) | assumption)
                            obtain ⟨ad108, A108_0, c108_0, A108_1, c108_1, A108_2, c108_2, A108_3, c108_3, e108, hx108_0, hx108_1, hx108_2, hx108_3, hx108_4, hx108_5, hl108_0, hi108_0, hl108_1, hi108_1, hl108_2, hi108_2, hl108_3, hi108_3⟩ := at_T38 HR0_0.out x4_2 p108 q108
                            cases e108
                            replace hx108_0 := (HB.out.cell (World.block_lt_of_cell? w _ hx108_0)).trans hx108_0
                            replace hx108_1 := (HB.out.cell (World.block_lt_of_cell? w _ hx108_1)).trans hx108_1
                            replace hx108_2 := (HB.out.cell (World.block_lt_of_cell? w _ hx108_2)).trans hx108_2
                            replace hx108_3 := (HB.out.cell (World.block_lt_of_cell? w _ hx108_3)).trans hx108_3
                            replace hx108_4 := (HB.out.cell (World.block_lt_of_cell? w _ hx108_4)).trans hx108_4
                            replace hx108_5 := (HB.out.cell (World.block_lt_of_cell? w _ hx108_5)).trans hx108_5
                            have HR108_0 := Aside0.mk hi108_0
                            have HC108_0 := Aside0.mk hl108_0
                            clear hi108_0 hl108_0
                            have HR108_1 := Aside0.mk hi108_1
                            have HC108_1 := Aside0.mk hl108_1
                            clear hi108_1 hl108_1
                            have HR108_2 := Aside0.mk hi108_2
                            have HC108_2 := Aside0.mk hl108_2
                            clear hi108_2 hl108_2
                            have HR108_3 := Aside0.mk hi108_3
                            have HC108_3 := Aside0.mk hl108_3
                            clear hi108_3 hl108_3
                            replace p108 := eq_true p108
                            replace q108 := eq_true q108
                            go_wp2_with (first | ((with_reducible refine gate_dst (N := 5) rfl ?_); (try (refine gate_guard (by rfl) ?_; dsimp only)); refine box_event ?hg (N := 5) ?hd (cs := #[.slice none 0 0, .slice none 0 0, .slice none 0 0, .slice none 0 0, .string (⟨#[]⟩ : ByteArray), .string (⟨#[]⟩ : ByteArray)]) (t := 38) ?hr ?_; (case hd => rfl); (case hg => rfl); (case hr => first | (go_simp; done) | (go_simp; rfl)); intro gb109 hg w37 hbox hb; have n0_ := Aside0.mk (Kd.R_below (by (with_reducible repeat (first | apply Kd.R_alloc | apply Kd.R_drewN | apply Kd.R_drew)); exact HO_3.out) hb); have n1_ := Aside0.mk (blk_below (g := gb101) (o := .cells #[.slice (some ad108) l0_0.length c0_0, .slice A0_1 l0_1.length c0_1] 25 (0, 0)) (by (with_reducible repeat (first | refine blk_drewN ?_ _ | refine blk_drew ?_ | refine blk_alloc ?_ _)); exact BK101.out) hb); have n2_ := Aside0.mk (below_step (by repeat (first | (with_reducible first | exact HB.out | apply below_alloc | apply pw_below_drewN | apply below_drew1 | refine below_set ?_ GE101.out) | exact HB.out)) hb); have n3_ := Aside0.mk (hbox); have n4_ := Aside0.mk ((by rw [hg]; exact (below_size (by repeat (first | (with_reducible first | exact HB.out | apply below_alloc | apply pw_below_drewN | apply below_drew1 | refine below_set ?_ GE101.out) | exact HB.out))) : w.heap.size ≤ gb109)); have n5_ := Aside0.mk ((by rw [hg]; exact (below_size (by repeat (first | (with_reducible first | exact HB.out | apply below_alloc | apply pw_below_drewN | apply below_drew1 | refine below_set ?_ GE101.out) | exact HB.out))) : w.heap.size ≤ gb109)); have n6_ := Aside0.mk ((by rw [hg]; exact Nat.ne_of_lt (blk_lt (g := gb101) (o := .cells #[.slice (some ad108) l0_0.length c0_0, .slice A0_1 l0_1.length c0_1] 25 (0, 0)) (by (with_reducible repeat (first | refine blk_drewN ?_ _ | refine blk_drew ?_ | refine blk_alloc ?_ _)); exact BK101.out)) : gb101 ≠ gb109)); have n7_ := Aside0.mk ((by rw [hg]; exact Nat.ne_of_gt (blk_lt (g := gb101) (o := .cells #[.slice (some ad108) l0_0.length c0_0, .slice A0_1 l0_1.length c0_1] 25 (0, 0)) (by (with_reducible repeat (first | refine blk_drewN ?_ _ | refine blk_drew ?_ | refine blk_alloc ?_ _)); exact BK101.out)) : gb109 ≠ gb101)); clear HO_3; clear BK101; clear HB; have HO_3 := n0_; have BK101 := n1_; have HB := n2_; have BK109 := n3_; have GW109 := n4_; have GE109 := n5_; have NB101_109 := n6_; have NB109_101 := n7_; clear n0_ n1_ n2_ n3_ n4_ n5_ n6_ n7_; clear hb hbox hg; have hnb38 := NB109_101.out; have hnc38 := NB101_109.out; have hcz39_0 : w37.cell? ⟨gb109, 0, none⟩ = some (.slice none 0 0) := (blk_cell BK109.out 0).trans rfl; have hcz39_1 : w37.cell? ⟨gb109, 1, none⟩ = some (.slice none 0 0) := (blk_cell BK109.out 1).trans rfl; have hcz39_2 : w37.cell? ⟨gb109, 2, none⟩ = some (.slice none 0 0) := (blk_cell BK109.out 2).trans rfl; have hcz39_3 : w37.cell? ⟨gb109, 3, none⟩ = some (.slice none 0 0) := (blk_cell BK109.out 3).trans rfl; have hcz39_4 : w37.cell? ⟨gb109, 4, none⟩ = some (.string (⟨#[]⟩ : ByteArray)) := (blk_cell BK109.out 4).trans rfl; have hcz39_5 : w37.cell? ⟨gb109, 5, none⟩ = some (.string (⟨#[]⟩ : ByteArray)) := (blk_cell BK109.out 5).trans rfl; have hfz39_0 := blk_frozen BK109.out 0; have hfz39_1 := blk_frozen BK109.out 1; have hfz39_2 := blk_frozen BK109.out 2; have hfz39_3 := blk_frozen BK109.out 3; have hfz39_4 := blk_frozen BK109.out 4; have hfz39_5 := blk_frozen BK109.out 5))
                            go_ret
                            exact ⟨by first | rfl | (simp [errW_none, errW_some] <;> rfl) | (simp [*, errW_none, errW_some] <;> rfl), by repeat (first | (with_reducible first | exact HB.out | apply below_alloc | apply pw_below_drewN | apply below_drew1 | refine below_set ?_ GE101.out | refine below_set ?_ GE109.out) | exact HB.out)⟩
                          · rw [if_neg c35] at H
                            have c35b0 : decide (300 < (((rd_T38 l0_0 x4_2).f4).size : Int)) = false := decide_eq_false c35
                            have c35b1 : decide (300 < ((rd_T38 l0_0 x4_2).f4).size) = false := decide_eq_false (by omega)
                            clear c35
                            by_cases c40 : (((rd_T38 l0_0 x4_2).f5).size : Int) > 200
                            · rw [if_pos c40] at H
                              have c40b0 : decide (200 < (((rd_T38 l0_0 x4_2).f5).size : Int)) = true := decide_eq_true c40
                              have c40b1 : decide (200 < ((rd_T38 l0_0 x4_2).f5).size) = true := decide_eq_true (by omega)
                              clear c40
                              obtain rfl := Option.some.inj H
                              have hcz41_0 : wr.cell? ⟨gb101, 0, none⟩ = some (.slice A0_0 l0_0.length c0_0) := (blk_cell BK101.out 0).trans rfl
                              have hcz41_1 : wr.cell? ⟨gb101, 1, none⟩ = some (.slice A0_1 l0_1.length c0_1) := (blk_cell BK101.out 1).trans rfl
                              have hfz41_0 := blk_frozen BK101.out 0
                              have hfz41_1 := blk_frozen BK101.out 1
                              have p108 : 0 ≤ (x4_2 : Int) := of_decide_eq_true (by first | (with_reducible assumption) | assumption)
                              have q108 : x4_2 < (l0_0.length : Int) := of_decide_eq_true (by first | (with_reducible assumption) | assumption)
                              obtain ⟨ad108, A108_0, c108_0, A108_1, c108_1, A108_2, c108_2, A108_3, c108_3, e108, hx108_0, hx108_1, hx108_2, hx108_3, hx108_4, hx108_5, hl108_0, hi108_0, hl108_1, hi108_1, hl108_2, hi108_2, hl108_3, hi108_3⟩ := at_T38 HR0_0.out x4_2 p108 q108
                              cases e108
                              replace hx108_0 := (HB.out.cell (World.block_lt_of_cell? w _ hx108_0)).trans hx108_0
                              replace hx108_1 := (HB.out.cell (World.block_lt_of_cell? w _ hx108_1)).trans hx108_1
                              replace hx108_2 := (HB.out.cell (World.block_lt_of_cell? w _ hx108_2)).trans hx108_2
                              replace hx108_3 := (HB.out.cell (World.block_lt_of_cell? w _ hx108_3)).trans hx108_3
                              replace hx108_4 := (HB.out.cell (World.block_lt_of_cell? w _ hx108_4)).trans hx108_4
                              replace hx108_5 := (HB.out.cell (World.block_lt_of_cell? w _ hx108_5)).trans hx108_5
                              have HR108_0 := Aside0.mk hi108_0
                              have HC108_0 := Aside0.mk hl108_0
                              clear hi108_0 hl108_0
                              have HR108_1 := Aside0.mk hi108_1
                              have HC108_1 := Aside0.mk hl108_1
                              clear hi108_1 hl108_1
                              have HR108_2 := Aside0.mk hi108_2
                              have HC108_2 := Aside0.mk hl108_2
                              clear hi108_2 hl108_2
                              have HR108_3 := Aside0.mk hi108_3
                              have HC108_3 := Aside0.mk hl108_3
                              clear hi108_3 hl108_3
                              replace p108 := eq_true p108
                              replace q108 := eq_true q108
                              go_wp2_with (first | ((with_reducible refine gate_dst (N := 5) rfl ?_); (try (refine gate_guard (by rfl) ?_; dsimp only)); refine box_event ?hg (N := 5) ?hd (cs := #[.slice none 0 0, .slice none 0 0, .slice none 0 0, .slice none 0 0, .string (⟨#[]⟩ : ByteArray), .string (⟨#[]⟩ : ByteArray)]) (t := 38) ?hr ?_; (case hd => rfl); (case hg => rfl); (case hr => first | (go_simp; done) | (go_simp; rfl)); intro gb109 hg w42 hbox hb; have n0_ := Aside0.mk (Kd.R_below (by (with_reducible repeat (first | apply Kd.R_alloc | apply Kd.R_drewN | apply Kd.R_drew)); exact HO_3.out) hb); have n1_ := Aside0.mk (blk_below (g := gb101) (o := .cells #[.slice (some ad108) l0_0.length c0_0, .slice A0_1 l0_1.length c0_1] 25 (0, 0)) (by (with_reducible repeat (first | refine blk_drewN ?_ _ | refine blk_drew ?_ | refine blk_alloc ?_ _)); exact BK101.out) hb); have n2_ := Aside0.mk (below_step (by repeat (first | (with_reducible first | exact HB.out | apply below_alloc | apply pw_below_drewN | apply below_drew1 | refine below_set ?_ GE101.out) | exact HB.out)) hb); have n3_ := Aside0.mk (hbox); have n4_ := Aside0.mk ((by rw [hg]; exact (below_size (by repeat (first | (with_reducible first | exact HB.out | apply below_alloc | apply pw_below_drewN | apply below_drew1 | refine below_set ?_ GE101.out) | exact HB.out))) : w.heap.size ≤ gb109)); have n5_ := Aside0.mk ((by rw [hg]; exact (below_size (by repeat (first | (with_reducible first | exact HB.out | apply below_alloc | apply pw_below_drewN | apply below_drew1 | refine below_set ?_ GE101.out) | exact HB.out))) : w.heap.size ≤ gb109)); have n6_ := Aside0.mk ((by rw [hg]; exact Nat.ne_of_lt (blk_lt (g := gb101) (o := .cells #[.slice (some ad108) l0_0.length c0_0, .slice A0_1 l0_1.length c0_1] 25 (0, 0)) (by (with_reducible repeat (first | refine blk_drewN ?_ _ | refine blk_drew ?_ | refine blk_alloc ?_ _)); exact BK101.out)) : gb101 ≠ gb109)); have n7_ := Aside0.mk ((by rw [hg]; exact Nat.ne_of_gt (blk_lt (g := gb101) (o := .cells #[.slice (some ad108) l0_0.length c0_0, .slice A0_1 l0_1.length c0_1] 25 (0, 0)) (by (with_reducible repeat (first | refine blk_drewN ?_ _ | refine blk_drew ?_ | refine blk_alloc ?_ _)); exact BK101.out)) : gb109 ≠ gb101)); clear HO_3; clear BK101; clear HB; have HO_3 := n0_; have BK101 := n1_; have HB := n2_; have BK109 := n3_; have GW109 := n4_; have GE109 := n5_; have NB101_109 := n6_; have NB109_101 := n7_; clear n0_ n1_ n2_ n3_ n4_ n5_ n6_ n7_; clear hb hbox hg; have hnb43 := NB109_101.out; have hnc43 := NB101_109.out; have hcz44_0 : w42.cell? ⟨gb109, 0, none⟩ = some (.slice none 0 0) := (blk_cell BK109.out 0).trans rfl; have hcz44_1 : w42.cell? ⟨gb109, 1, none⟩ = some (.slice none 0 0) := (blk_cell BK109.out 1).trans rfl; have hcz44_2 : w42.cell? ⟨gb109, 2, none⟩ = some (.slice none 0 0) := (blk_cell BK109.out 2).trans rfl; have hcz44_3 : w42.cell? ⟨gb109, 3, none⟩ = some (.slice none 0 0) := (blk_cell BK109.out 3).trans rfl; have hcz44_4 : w42.cell? ⟨gb109, 4, none⟩ = some (.string (⟨#[]⟩ : ByteArray)) := (blk_cell BK109.out 4).trans rfl; have hcz44_5 : w42.cell? ⟨gb109, 5, none⟩ = some (.string (⟨#[]⟩ : ByteArray)) := (blk_cell BK109.out 5).trans rfl; have hfz44_0 := blk_frozen BK109.out 0; have hfz44_1 := blk_frozen BK109.out 1; have hfz44_2 := blk_frozen BK109.out 2; have hfz44_3 := blk_frozen BK109.out 3; have hfz44_4 := blk_frozen BK109.out 4; have hfz44_5 := blk_frozen BK109.out 5))
                              go_ret
                              exact ⟨by first | rfl | (simp [errW_none, errW_some] <;> rfl) | (simp [*, errW_none, errW_some] <;> rfl), by repeat (first | (with_reducible first | exact HB.out | apply below_alloc | apply pw_below_drewN | apply below_drew1 | refine below_set ?_ GE101.out | refine below_set ?_ GE109.out) | exact HB.out)⟩
                            · rw [if_neg c40] at H
                              have c40b0 : decide (200 < (((rd_T38 l0_0 x4_2).f5).size : Int)) = false := decide_eq_false c40
                              have c40b1 : decide (200 < ((rd_T38 l0_0 x4_2).f5).size) = false := decide_eq_false (by omega)
                              clear c40
                              by_cases c45 : x3_2.length + ((rd_T38 l0_0 x4_2).f0).length < 8796093022208
                              · rw [if_pos c45] at H
                                have LMc45 := Aside0.mk c45
                                clear c45
                                obtain ⟨y110, hy110⟩ : ∃ y_ : List ByteArray, y_ = (x3_2 ++ ((rd_T38 l0_0 x4_2).f0)) := ⟨_, rfl⟩
                                replace H : (if y110.length + ((rd_T38 l0_0 x4_2).f1).length < 8796093022208 then ((some (y110 ++ ((rd_T38 l0_0 x4_2).f1) : List ByteArray)).bind fun y113 => (if y113.length + ((rd_T38 l0_0 x4_2).f2).length < 8796093022208 then ((some (y113 ++ ((rd_T38 l0_0 x4_2).f2) : List ByteArray)).bind fun y116 => (if y116.length + ((rd_T38 l0_0 x4_2).f3).length < 8796093022208 then (bellowslaw12_few.l0 k2 (y116 ++ ((rd_T38 l0_0 x4_2).f3)) (wrap64 (x4_2 + 1)) l0_0 l0_1) else (none))) else (none))) else (none)) = some r := by first | (rw [hy110]; with_reducible exact H) | (have H2_ := (Option.bind_some _ _).symm.trans H; rw [hy110]; with_reducible exact H2_) | (have H2_ := (Option.bind_some _ _).symm.trans H; with_reducible exact H2_) | with_reducible exact H | (rw [hy110]; exact H) | exact H
                                have Ny110 := Aside0.mk hy110
                                clear hy110
                                by_cases c46 : y110.length + ((rd_T38 l0_0 x4_2).f1).length < 8796093022208
                                · rw [if_pos c46] at H
                                  have LMc46 := Aside0.mk c46
                                  clear c46
                                  obtain ⟨y113, hy113⟩ : ∃ y_ : List ByteArray, y_ = (y110 ++ ((rd_T38 l0_0 x4_2).f1)) := ⟨_, rfl⟩
                                  replace H : (if y113.length + ((rd_T38 l0_0 x4_2).f2).length < 8796093022208 then ((some (y113 ++ ((rd_T38 l0_0 x4_2).f2) : List ByteArray)).bind fun y116 => (if y116.length + ((rd_T38 l0_0 x4_2).f3).length < 8796093022208 then (bellowslaw12_few.l0 k2 (y116 ++ ((rd_T38 l0_0 x4_2).f3)) (wrap64 (x4_2 + 1)) l0_0 l0_1) else (none))) else (none)) = some r := by first | (rw [hy113]; with_reducible exact H) | (have H2_ := (Option.bind_some _ _).symm.trans H; rw [hy113]; with_reducible exact H2_) | (have H2_ := (Option.bind_some _ _).symm.trans H; with_reducible exact H2_) | with_reducible exact H | (rw [hy113]; exact H) | exact H
                                  have Ny113 := Aside0.mk hy113
                                  clear hy113
                                  by_cases c47 : y113.length + ((rd_T38 l0_0 x4_2).f2).length < 8796093022208
                                  · rw [if_pos c47] at H
                                    have LMc47 := Aside0.mk c47
                                    clear c47
                                    obtain ⟨y116, hy116⟩ : ∃ y_ : List ByteArray, y_ = (y113 ++ ((rd_T38 l0_0 x4_2).f2)) := ⟨_, rfl⟩
                                    replace H : (if y116.length + ((rd_T38 l0_0 x4_2).f3).length < 8796093022208 then (bellowslaw12_few.l0 k2 (y116 ++ ((rd_T38 l0_0 x4_2).f3)) (wrap64 (x4_2 + 1)) l0_0 l0_1) else (none)) = some r := by first | (rw [hy116]; with_reducible exact H) | (have H2_ := (Option.bind_some _ _).symm.trans H; rw [hy116]; with_reducible exact H2_) | (have H2_ := (Option.bind_some _ _).symm.trans H; with_reducible exact H2_) | with_reducible exact H | (rw [hy116]; exact H) | exact H
                                    have Ny116 := Aside0.mk hy116
                                    clear hy116
                                    by_cases c48 : y116.length + ((rd_T38 l0_0 x4_2).f3).length < 8796093022208
                                    · rw [if_pos c48] at H
                                      have LMc48 := Aside0.mk c48
                                      clear c48
                                      obtain ⟨y119, hy119⟩ : ∃ y_ : List ByteArray, y_ = (y116 ++ ((rd_T38 l0_0 x4_2).f3)) := ⟨_, rfl⟩
                                      replace H : (bellowslaw12_few.l0 k2 y119 (wrap64 (x4_2 + 1)) l0_0 l0_1) = some r := by first | (rw [hy119]; with_reducible exact H) | (have H2_ := (Option.bind_some _ _).symm.trans H; rw [hy119]; with_reducible exact H2_) | (have H2_ := (Option.bind_some _ _).symm.trans H; with_reducible exact H2_) | with_reducible exact H | (rw [hy119]; exact H) | exact H
                                      have Ny119 := Aside0.mk hy119
                                      clear hy119
                                      have H' := Aside0.mk H
                                      clear H
                                      have hcz49_0 : wr.cell? ⟨gb101, 0, none⟩ = some (.slice A0_0 l0_0.length c0_0) := (blk_cell BK101.out 0).trans rfl
                                      have hcz49_1 : wr.cell? ⟨gb101, 1, none⟩ = some (.slice A0_1 l0_1.length c0_1) := (blk_cell BK101.out 1).trans rfl
                                      have hfz49_0 := blk_frozen BK101.out 0
                                      have hfz49_1 := blk_frozen BK101.out 1
                                      have p108 : 0 ≤ (x4_2 : Int) := of_decide_eq_true (by first | (with_reducible assumption) | assumption)
                                      have q108 : x4_2 < (l0_0.length : Int) := of_decide_eq_true (by first | (with_reducible assumption) | assumption)
                                      obtain ⟨ad108, A108_0, c108_0, A108_1, c108_1, A108_2, c108_2, A108_3, c108_3, e108, hx108_0, hx108_1, hx108_2, hx108_3, hx108_4, hx108_5, hl108_0, hi108_0, hl108_1, hi108_1, hl108_2, hi108_2, hl108_3, hi108_3⟩ := at_T38 HR0_0.out x4_2 p108 q108
                                      cases e108
                                      replace hx108_0 := (HB.out.cell (World.block_lt_of_cell? w _ hx108_0)).trans hx108_0
                                      replace hx108_1 := (HB.out.cell (World.block_lt_of_cell? w _ hx108_1)).trans hx108_1
                                      replace hx108_2 := (HB.out.cell (World.block_lt_of_cell? w _ hx108_2)).trans hx108_2
                                      replace hx108_3 := (HB.out.cell (World.block_lt_of_cell? w _ hx108_3)).trans hx108_3
                                      replace hx108_4 := (HB.out.cell (World.block_lt_of_cell? w _ hx108_4)).trans hx108_4
                                      replace hx108_5 := (HB.out.cell (World.block_lt_of_cell? w _ hx108_5)).trans hx108_5
                                      have HR108_0 := Aside0.mk hi108_0
                                      have HC108_0 := Aside0.mk hl108_0
                                      clear hi108_0 hl108_0
                                      have HR108_1 := Aside0.mk hi108_1
                                      have HC108_1 := Aside0.mk hl108_1
                                      clear hi108_1 hl108_1
                                      have HR108_2 := Aside0.mk hi108_2
                                      have HC108_2 := Aside0.mk hl108_2
                                      clear hi108_2 hl108_2
                                      have HR108_3 := Aside0.mk hi108_3
                                      have HC108_3 := Aside0.mk hl108_3
                                      clear hi108_3 hl108_3
                                      replace p108 := eq_true p108
                                      replace q108 := eq_true q108
                                      try go_wp2_with (first | ((with_reducible refine gate_dst (N := 5) rfl ?_); (try (refine gate_guard (by rfl) ?_; dsimp only)); refine box_event ?hg (N := 5) ?hd (cs := #[.slice none 0 0, .slice none 0 0, .slice none 0 0, .slice none 0 0, .string (⟨#[]⟩ : ByteArray), .string (⟨#[]⟩ : ByteArray)]) (t := 38) ?hr ?_; (case hd => rfl); (case hg => rfl); (case hr => first | (go_simp; done) | (go_simp; rfl)); intro gb109 hg w50 hbox hb; have n0_ := Aside0.mk (Kd.R_below (by (with_reducible repeat (first | apply Kd.R_alloc | apply Kd.R_drewN | apply Kd.R_drew)); exact HO_3.out) hb); have n1_ := Aside0.mk (blk_below (g := gb101) (o := .cells #[.slice (some ad108) l0_0.length c0_0, .slice A0_1 l0_1.length c0_1] 25 (0, 0)) (by (with_reducible repeat (first | refine blk_drewN ?_ _ | refine blk_drew ?_ | refine blk_alloc ?_ _)); exact BK101.out) hb); have n2_ := Aside0.mk (below_step (by repeat (first | (with_reducible first | exact HB.out | apply below_alloc | apply pw_below_drewN | apply below_drew1 | refine below_set ?_ GE101.out) | exact HB.out)) hb); have n3_ := Aside0.mk (hbox); have n4_ := Aside0.mk ((by rw [hg]; exact (below_size (by repeat (first | (with_reducible first | exact HB.out | apply below_alloc | apply pw_below_drewN | apply below_drew1 | refine below_set ?_ GE101.out) | exact HB.out))) : w.heap.size ≤ gb109)); have n5_ := Aside0.mk ((by rw [hg]; exact (below_size (by repeat (first | (with_reducible first | exact HB.out | apply below_alloc | apply pw_below_drewN | apply below_drew1 | refine below_set ?_ GE101.out) | exact HB.out))) : w.heap.size ≤ gb109)); have n6_ := Aside0.mk ((by rw [hg]; exact Nat.ne_of_lt (blk_lt (g := gb101) (o := .cells #[.slice (some ad108) l0_0.length c0_0, .slice A0_1 l0_1.length c0_1] 25 (0, 0)) (by (with_reducible repeat (first | refine blk_drewN ?_ _ | refine blk_drew ?_ | refine blk_alloc ?_ _)); exact BK101.out)) : gb101 ≠ gb109)); have n7_ := Aside0.mk ((by rw [hg]; exact Nat.ne_of_gt (blk_lt (g := gb101) (o := .cells #[.slice (some ad108) l0_0.length c0_0, .slice A0_1 l0_1.length c0_1] 25 (0, 0)) (by (with_reducible repeat (first | refine blk_drewN ?_ _ | refine blk_drew ?_ | refine blk_alloc ?_ _)); exact BK101.out)) : gb109 ≠ gb101)); clear HO_3; clear BK101; clear HB; have HO_3 := n0_; have BK101 := n1_; have HB := n2_; have BK109 := n3_; have GW109 := n4_; have GE109 := n5_; have NB101_109 := n6_; have NB109_101 := n7_; clear n0_ n1_ n2_ n3_ n4_ n5_ n6_ n7_; clear hb hbox hg; have hnb51 := NB109_101.out; have hnc51 := NB101_109.out; have hcz52_0 : w50.cell? ⟨gb109, 0, none⟩ = some (.slice none 0 0) := (blk_cell BK109.out 0).trans rfl; have hcz52_1 : w50.cell? ⟨gb109, 1, none⟩ = some (.slice none 0 0) := (blk_cell BK109.out 1).trans rfl; have hcz52_2 : w50.cell? ⟨gb109, 2, none⟩ = some (.slice none 0 0) := (blk_cell BK109.out 2).trans rfl; have hcz52_3 : w50.cell? ⟨gb109, 3, none⟩ = some (.slice none 0 0) := (blk_cell BK109.out 3).trans rfl; have hcz52_4 : w50.cell? ⟨gb109, 4, none⟩ = some (.string (⟨#[]⟩ : ByteArray)) := (blk_cell BK109.out 4).trans rfl; have hcz52_5 : w50.cell? ⟨gb109, 5, none⟩ = some (.string (⟨#[]⟩ : ByteArray)) := (blk_cell BK109.out 5).trans rfl; have hfz52_0 := blk_frozen BK109.out 0; have hfz52_1 := blk_frozen BK109.out 1; have hfz52_2 := blk_frozen BK109.out 2; have hfz52_3 := blk_frozen BK109.out 3; have hfz52_4 := blk_frozen BK109.out 4; have hfz52_5 := blk_frozen BK109.out 5))
                                      have n0_ : Aside0 (Kd.R Kd.string 9 ((((((w50.setCell ⟨gb109, 0, none⟩ (.slice A108_0 ((rd_T38 l0_0 x4_2).f0).length c108_0)).setCell ⟨gb109, 1, none⟩ (.slice A108_1 ((rd_T38 l0_0 x4_2).f1).length c108_1)).setCell ⟨gb109, 2, none⟩ (.slice A108_2 ((rd_T38 l0_0 x4_2).f2).length c108_2)).setCell ⟨gb109, 3, none⟩ (.slice A108_3 ((rd_T38 l0_0 x4_2).f3).length c108_3)).setCell ⟨gb109, 4, none⟩ (.string ((rd_T38 l0_0 x4_2).f4))).setCell ⟨gb109, 5, none⟩ (.string ((rd_T38 l0_0 x4_2).f5))) w.heap.size (fun _ => True) u3 x3_2) := ⟨by (with_reducible repeat (first | apply Kd.R_alloc | apply Kd.R_drewN | apply Kd.R_drew)); exact Kd.R_mono (Kd.R_far (p := ⟨gb109, 5, none⟩) (Kd.R_far (p := ⟨gb109, 4, none⟩) (Kd.R_far (p := ⟨gb109, 3, none⟩) (Kd.R_far (p := ⟨gb109, 2, none⟩) (Kd.R_far (p := ⟨gb109, 1, none⟩) (Kd.R_far (p := ⟨gb109, 0, none⟩) (Kd.R_types HO_3.out BK109.out (by decide)) (fun _ hk => hk.2) (.slice A108_0 ((rd_T38 l0_0 x4_2).f0).length c108_0)) (fun _ hk => hk.2) (.slice A108_1 ((rd_T38 l0_0 x4_2).f1).length c108_1)) (fun _ hk => hk.2) (.slice A108_2 ((rd_T38 l0_0 x4_2).f2).length c108_2)) (fun _ hk => hk.2) (.slice A108_3 ((rd_T38 l0_0 x4_2).f3).length c108_3)) (fun _ hk => hk.2) (.string ((rd_T38 l0_0 x4_2).f4))) (fun _ hk => hk.2) (.string ((rd_T38 l0_0 x4_2).f5))) (fun _ hk => trivial)⟩
                                      have n1_ : Aside0 (((((((w50.setCell ⟨gb109, 0, none⟩ (.slice A108_0 ((rd_T38 l0_0 x4_2).f0).length c108_0)).setCell ⟨gb109, 1, none⟩ (.slice A108_1 ((rd_T38 l0_0 x4_2).f1).length c108_1)).setCell ⟨gb109, 2, none⟩ (.slice A108_2 ((rd_T38 l0_0 x4_2).f2).length c108_2)).setCell ⟨gb109, 3, none⟩ (.slice A108_3 ((rd_T38 l0_0 x4_2).f3).length c108_3)).setCell ⟨gb109, 4, none⟩ (.string ((rd_T38 l0_0 x4_2).f4))).setCell ⟨gb109, 5, none⟩ (.string ((rd_T38 l0_0 x4_2).f5))).heap[gb101]? = some (.cells #[.slice (some ad108) l0_0.length c0_0, .slice A0_1 l0_1.length c0_1] 25 (0, 0))) := ⟨by (with_reducible repeat (first | refine blk_drewN ?_ _ | refine blk_drew ?_ | refine blk_alloc ?_ _)); refine blk_far ?_ NB101_109.out _; (with_reducible repeat (first | refine blk_drewN ?_ _ | refine blk_drew ?_ | refine blk_alloc ?_ _)); refine blk_far ?_ NB101_109.out _; (with_reducible repeat (first | refine blk_drewN ?_ _ | refine blk_drew ?_ | refine blk_alloc ?_ _)); refine blk_far ?_ NB101_109.out _; (with_reducible repeat (first | refine blk_drewN ?_ _ | refine blk_drew ?_ | refine blk_alloc ?_ _)); refine blk_far ?_ NB101_109.out _; (with_reducible repeat (first | refine blk_drewN ?_ _ | refine blk_drew ?_ | refine blk_alloc ?_ _)); refine blk_far ?_ NB101_109.out _; (with_reducible repeat (first | refine blk_drewN ?_ _ | refine blk_drew ?_ | refine blk_alloc ?_ _)); refine blk_far ?_ NB101_109.out _; (with_reducible repeat (first | refine blk_drewN ?_ _ | refine blk_drew ?_ | refine blk_alloc ?_ _)); exact BK101.out⟩
                                      have n2_ : Aside0 (((((((w50.setCell ⟨gb109, 0, none⟩ (.slice A108_0 ((rd_T38 l0_0 x4_2).f0).length c108_0)).setCell ⟨gb109, 1, none⟩ (.slice A108_1 ((rd_T38 l0_0 x4_2).f1).length c108_1)).setCell ⟨gb109, 2, none⟩ (.slice A108_2 ((rd_T38 l0_0 x4_2).f2).length c108_2)).setCell ⟨gb109, 3, none⟩ (.slice A108_3 ((rd_T38 l0_0 x4_2).f3).length c108_3)).setCell ⟨gb109, 4, none⟩ (.string ((rd_T38 l0_0 x4_2).f4))).setCell ⟨gb109, 5, none⟩ (.string ((rd_T38 l0_0 x4_2).f5))).heap[gb109]? = some (.cells #[.slice A108_0 ((rd_T38 l0_0 x4_2).f0).length c108_0, .slice A108_1 ((rd_T38 l0_0 x4_2).f1).length c108_1, .slice A108_2 ((rd_T38 l0_0 x4_2).f2).length c108_2, .slice A108_3 ((rd_T38 l0_0 x4_2).f3).length c108_3, .string ((rd_T38 l0_0 x4_2).f4), .string ((rd_T38 l0_0 x4_2).f5)] 38 (0, 0))) := ⟨by (with_reducible repeat (first | refine blk_drewN ?_ _ | refine blk_drew ?_ | refine blk_alloc ?_ _)); refine blk_put (cs := #[.slice A108_0 ((rd_T38 l0_0 x4_2).f0).length c108_0, .slice A108_1 ((rd_T38 l0_0 x4_2).f1).length c108_1, .slice A108_2 ((rd_T38 l0_0 x4_2).f2).length c108_2, .slice A108_3 ((rd_T38 l0_0 x4_2).f3).length c108_3, .string ((rd_T38 l0_0 x4_2).f4), .string (⟨#[]⟩ : ByteArray)]) ?_ 5 _ rfl; (with_reducible repeat (first | refine blk_drewN ?_ _ | refine blk_drew ?_ | refine blk_alloc ?_ _)); refine blk_put (cs := #[.slice A108_0 ((rd_T38 l0_0 x4_2).f0).length c108_0, .slice A108_1 ((rd_T38 l0_0 x4_2).f1).length c108_1, .slice A108_2 ((rd_T38 l0_0 x4_2).f2).length c108_2, .slice A108_3 ((rd_T38 l0_0 x4_2).f3).length c108_3, .string (⟨#[]⟩ : ByteArray), .string (⟨#[]⟩ : ByteArray)]) ?_ 4 _ rfl; (with_reducible repeat (first | refine blk_drewN ?_ _ | refine blk_drew ?_ | refine blk_alloc ?_ _)); refine blk_put (cs := #[.slice A108_0 ((rd_T38 l0_0 x4_2).f0).length c108_0, .slice A108_1 ((rd_T38 l0_0 x4_2).f1).length c108_1, .slice A108_2 ((rd_T38 l0_0 x4_2).f2).length c108_2, .slice none 0 0, .string (⟨#[]⟩ : ByteArray), .string (⟨#[]⟩ : ByteArray)]) ?_ 3 _ rfl; (with_reducible repeat (first | refine blk_drewN ?_ _ | refine blk_drew ?_ | refine blk_alloc ?_ _)); refine blk_put (cs := #[.slice A108_0 ((rd_T38 l0_0 x4_2).f0).length c108_0, .slice A108_1 ((rd_T38 l0_0 x4_2).f1).length c108_1, .slice none 0 0, .slice none 0 0, .string (⟨#[]⟩ : ByteArray), .string (⟨#[]⟩ : ByteArray)]) ?_ 2 _ rfl; (with_reducible repeat (first | refine blk_drewN ?_ _ | refine blk_drew ?_ | refine blk_alloc ?_ _)); refine blk_put (cs := #[.slice A108_0 ((rd_T38 l0_0 x4_2).f0).length c108_0, .slice none 0 0, .slice none 0 0, .slice none 0 0, .string (⟨#[]⟩ : ByteArray), .string (⟨#[]⟩ : ByteArray)]) ?_ 1 _ rfl; (with_reducible repeat (first | refine blk_drewN ?_ _ | refine blk_drew ?_ | refine blk_alloc ?_ _)); refine blk_put (cs := #[.slice none 0 0, .slice none 0 0, .slice none 0 0, .slice none 0 0, .string (⟨#[]⟩ : ByteArray), .string (⟨#[]⟩ : ByteArray)]) ?_ 0 _ rfl; (with_reducible repeat (first | refine blk_drewN ?_ _ | refine blk_drew ?_ | refine blk_alloc ?_ _)); exact BK109.out⟩
                                      have n3_ : Aside0 (Below w.heap.size w ((((((w50.setCell ⟨gb109, 0, none⟩ (.slice A108_0 ((rd_T38 l0_0 x4_2).f0).length c108_0)).setCell ⟨gb109, 1, none⟩ (.slice A108_1 ((rd_T38 l0_0 x4_2).f1).length c108_1)).setCell ⟨gb109, 2, none⟩ (.slice A108_2 ((rd_T38 l0_0 x4_2).f2).length c108_2)).setCell ⟨gb109, 3, none⟩ (.slice A108_3 ((rd_T38 l0_0 x4_2).f3).length c108_3)).setCell ⟨gb109, 4, none⟩ (.string ((rd_T38 l0_0 x4_2).f4))).setCell ⟨gb109, 5, none⟩ (.string ((rd_T38 l0_0 x4_2).f5)))) := ⟨by repeat (first | (with_reducible first | exact HB.out | apply below_alloc | apply pw_below_drewN | apply below_drew1 | refine below_set ?_ GE101.out | refine below_set ?_ GE109.out) | exact HB.out)⟩
                                      (try clear HO_3)
                                      (try clear BK101)
                                      (try clear BK109)
                                      (try clear HB)
                                      generalize ((((((w50.setCell ⟨gb109, 0, none⟩ (.slice A108_0 ((rd_T38 l0_0 x4_2).f0).length c108_0)).setCell ⟨gb109, 1, none⟩ (.slice A108_1 ((rd_T38 l0_0 x4_2).f1).length c108_1)).setCell ⟨gb109, 2, none⟩ (.slice A108_2 ((rd_T38 l0_0 x4_2).f2).length c108_2)).setCell ⟨gb109, 3, none⟩ (.slice A108_3 ((rd_T38 l0_0 x4_2).f3).length c108_3)).setCell ⟨gb109, 4, none⟩ (.string ((rd_T38 l0_0 x4_2).f4))).setCell ⟨gb109, 5, none⟩ (.string ((rd_T38 l0_0 x4_2).f5))) = w53 at n0_ n1_ n2_ n3_ ⊢
                                      have HO_3 := n0_
                                      have BK101 := n1_
                                      have BK109 := n2_
                                      have HB := n3_
                                      clear n0_ n1_ n2_ n3_
                                      have n0_ := Aside0.mk (Kd.R_drew HO_3.out)
                                      have n1_ := Aside0.mk (blk_drew BK101.out)
                                      have n2_ := Aside0.mk (blk_drew BK109.out)
                                      have n3_ := Aside0.mk (below_drew1 HB.out)
                                      clear HO_3
                                      clear BK101
                                      clear BK109
                                      clear HB
                                      have HO_3 := n0_
                                      have BK101 := n1_
                                      have BK109 := n2_
                                      have HB := n3_
                                      clear n0_ n1_ n2_ n3_
                                      refine start_ (n := 14) (S := fun w' => w'.cell? ⟨gb109, 0, none⟩ = some (.slice A108_0 ((rd_T38 l0_0 x4_2).f0).length c108_0) ∧ w'.cell? ⟨gb109, 1, none⟩ = some (.slice A108_1 ((rd_T38 l0_0 x4_2).f1).length c108_1) ∧ w'.cell? ⟨gb109, 2, none⟩ = some (.slice A108_2 ((rd_T38 l0_0 x4_2).f2).length c108_2) ∧ w'.cell? ⟨gb109, 3, none⟩ = some (.slice A108_3 ((rd_T38 l0_0 x4_2).f3).length c108_3) ∧ w'.cell? ⟨gb109, 4, none⟩ = some (.string ((rd_T38 l0_0 x4_2).f4)) ∧ w'.cell? ⟨gb109, 5, none⟩ = some (.string ((rd_T38 l0_0 x4_2).f5))) (ds := []) #[false, false, false, false, false, false, false, false, false, false, false, false, false, false] (by kernel_rfl) rfl rfl ⟨(blk_cell BK109.out 0).trans rfl, (blk_cell BK109.out 1).trans rfl, (blk_cell BK109.out 2).trans rfl, (blk_cell BK109.out 3).trans rfl, (blk_cell BK109.out 4).trans rfl, (blk_cell BK109.out 5).trans rfl⟩ (fun hHeld => ?_); refine with_tabW bellowslaw12_few.tab10 bellowslaw12_few.bits10 (fun HT_ HW_ => ?_)
                                      generalize w53.drew = w54 at HO_3 BK101 BK109 HB hHeld ⊢
                                      refine pure_ (i := 0) (N := some 67) (v := ?_) (a' := ?_) #[true, false, false, false, false, false, false, false, false, false, false, false, false, false] rfl rfl (any_of HT_.out (by kernel_rfl)) (fun _ _ _ h => h) (Or.inl ⟨by rfl, ?_⟩) ?_ ?_
                                      rotate_left
                                      · intro w'
                                        go_simp
                                        with_reducible rfl
                                      rotate_left
                                      · simp only [Act.put, List.setIfInBounds_toArray, List.set_cons_zero, List.set_cons_succ, i64_w, i32_w]
                                        rfl
                                      refine pure_ (i := 1) (N := some 68) (v := ?_) (a' := ?_) #[true, true, false, false, false, false, false, false, false, false, false, false, false, false] rfl rfl (any_of HT_.out (by kernel_rfl)) (fun _ _ _ h => h) (Or.inl ⟨by rfl, ?_⟩) ?_ ?_
                                      rotate_left
                                      · intro w'
                                        go_simp
                                        with_reducible rfl
                                      rotate_left
                                      · simp only [Act.put, List.setIfInBounds_toArray, List.set_cons_zero, List.set_cons_succ, i64_w, i32_w]
                                        rfl
                                      refine pure_ (i := 4) (N := some 71) (v := ?_) (a' := ?_) #[true, true, false, false, true, false, false, false, false, false, false, false, false, false] rfl rfl (any_of HT_.out (by kernel_rfl)) (fun _ _ _ h => h) (Or.inl ⟨by rfl, ?_⟩) ?_ ?_
                                      rotate_left
                                      · intro w'
                                        go_simp
                                        with_reducible rfl
                                      rotate_left
                                      · simp only [Act.put, List.setIfInBounds_toArray, List.set_cons_zero, List.set_cons_succ, i64_w, i32_w]
                                        rfl
                                      refine pure_ (i := 7) (N := some 74) (v := ?_) (a' := ?_) #[true, true, false, false, true, false, false, true, false, false, false, false, false, false] rfl rfl (any_of HT_.out (by kernel_rfl)) (fun _ _ _ h => h) (Or.inl ⟨by rfl, ?_⟩) ?_ ?_
                                      rotate_left
                                      · intro w'
                                        go_simp
                                        with_reducible rfl
                                      rotate_left
                                      · simp only [Act.put, List.setIfInBounds_toArray, List.set_cons_zero, List.set_cons_succ, i64_w, i32_w]
                                        rfl
                                      refine pure_ (i := 10) (N := some 77) (v := ?_) (a' := ?_) #[true, true, false, false, true, false, false, true, false, false, true, false, false, false] rfl rfl (any_of HT_.out (by kernel_rfl)) (fun _ _ _ h => h) (Or.inl ⟨by rfl, ?_⟩) ?_ ?_
                                      rotate_left
                                      · intro w'
                                        go_simp
                                        with_reducible rfl
                                      rotate_left
                                      · simp only [Act.put, List.setIfInBounds_toArray, List.set_cons_zero, List.set_cons_succ, i64_w, i32_w]
                                        rfl
                                      refine take_ (i := 2) (N := some 69) (v := ?_) (a' := ?_) #[true, true, true, false, true, false, false, true, false, false, true, false, false, false] rfl rfl (take_ofW HT_.out HW_.out (by kernel_rfl)) (fun _ _ _ h => h) (Or.inl ⟨by rfl, ?_⟩) hHeld ?_ ?_
                                      rotate_left
                                      · rintro w' ⟨s0, s1, s2, s3, s4, s5⟩
                                        go_simp
                                        with_reducible rfl
                                      rotate_left
                                      · simp only [Act.put, List.setIfInBounds_toArray, List.set_cons_zero, List.set_cons_succ, i64_w, i32_w]
                                        rfl
                                      refine take_ (i := 5) (N := some 72) (v := ?_) (a' := ?_) #[true, true, true, false, true, true, false, true, false, false, true, false, false, false] rfl rfl (take_ofW HT_.out HW_.out (by kernel_rfl)) (fun _ _ _ h => h) (Or.inl ⟨by rfl, ?_⟩) hHeld ?_ ?_
                                      rotate_left
                                      · rintro w' ⟨s0, s1, s2, s3, s4, s5⟩
                                        go_simp
                                        with_reducible rfl
                                      rotate_left
                                      · simp only [Act.put, List.setIfInBounds_toArray, List.set_cons_zero, List.set_cons_succ, i64_w, i32_w]
                                        rfl
                                      refine take_ (i := 8) (N := some 75) (v := ?_) (a' := ?_) #[true, true, true, false, true, true, false, true, true, false, true, false, false, false] rfl rfl (take_ofW HT_.out HW_.out (by kernel_rfl)) (fun _ _ _ h => h) (Or.inl ⟨by rfl, ?_⟩) hHeld ?_ ?_
                                      rotate_left
                                      · rintro w' ⟨s0, s1, s2, s3, s4, s5⟩
                                        go_simp
                                        with_reducible rfl
                                      rotate_left
                                      · simp only [Act.put, List.setIfInBounds_toArray, List.set_cons_zero, List.set_cons_succ, i64_w, i32_w]
                                        rfl
                                      refine take_ (i := 11) (N := some 78) (v := ?_) (a' := ?_) #[true, true, true, false, true, true, false, true, true, false, true, true, false, false] rfl rfl (take_ofW HT_.out HW_.out (by kernel_rfl)) (fun _ _ _ h => h) (Or.inl ⟨by rfl, ?_⟩) hHeld ?_ ?_
                                      rotate_left
                                      · rintro w' ⟨s0, s1, s2, s3, s4, s5⟩
                                        go_simp
                                        with_reducible rfl
                                      rotate_left
                                      · simp only [Act.put, List.setIfInBounds_toArray, List.set_cons_zero, List.set_cons_succ, i64_w, i32_w]
                                        rfl
                                      refine one_ (i := 3) (N := some 70) #[true, true, true, true, true, true, false, true, true, false, true, true, false, false] rfl rfl (one_of HT_.out (by kernel_rfl)) (by decide) (fun K hK => ?_)
                                      refine Kd.R_append_rows_step Kd.string (w0 := w) w.heap.size (by rfl) (.tmp 67) (.tmp 69) 23 9 (.string ⟨#[]⟩) 16 rfl Tryz.underlying23 info9 rfl (by decide) (by omega) u3 x3_2 ((rd_T38 l0_0 x4_2).f0) _ _ _ (fun _ => True) (fun _ => False) rfl rfl ?aO ?aR (fun _ _ h => h) (fun _ h => h.elim) ?aF ?aB ?aS ?aL ?_
                                      (case aR => repeat (first | exact (Kd.C_below HR108_0.out HB.out) | (with_reducible refine Kd.C_alloc ?_ _) | (with_reducible refine Kd.C_drewN ?_ _) | (with_reducible refine Kd.C_drew ?_)))
                                      (case aB => exact (by repeat (first | (with_reducible first | exact HB.out | apply below_alloc | apply pw_below_drewN | apply below_drew1 | refine below_set ?_ GE101.out | refine below_set ?_ GE109.out) | exact HB.out)))
                                      (case aF => exact (fun _ _ => trivial))
                                      (case aO => exact (by (with_reducible repeat (first | apply Kd.R_alloc | apply Kd.R_drewN | apply Kd.R_drew)); exact HO_3.out))
                                      (case aS => exact (below_size (by repeat (first | (with_reducible first | exact HB.out | apply below_alloc | apply pw_below_drewN | apply below_drew1 | refine below_set ?_ GE101.out | refine below_set ?_ GE109.out) | exact HB.out))))
                                      (case aL => have := LMc45.out; omega)
                                      intro v111 w55 ho hb hg hat
                                      rw [← Ny110.out] at ho
                                      have n0_ := Aside0.mk (blk_grown (g := gb101) (o := .cells #[.slice (some ad108) l0_0.length c0_0, .slice A0_1 l0_1.length c0_1] 25 (0, 0)) (by (with_reducible repeat (first | refine blk_drewN ?_ _ | refine blk_drew ?_ | refine blk_alloc ?_ _)); exact BK101.out) hg (Kd.R_ne HO_3.out BK101.out (by decide)))
                                      have n1_ := Aside0.mk (blk_grown (g := gb109) (o := .cells #[.slice A108_0 ((rd_T38 l0_0 x4_2).f0).length c108_0, .slice A108_1 ((rd_T38 l0_0 x4_2).f1).length c108_1, .slice A108_2 ((rd_T38 l0_0 x4_2).f2).length c108_2, .slice A108_3 ((rd_T38 l0_0 x4_2).f3).length c108_3, .string ((rd_T38 l0_0 x4_2).f4), .string ((rd_T38 l0_0 x4_2).f5)] 38 (0, 0)) (by (with_reducible repeat (first | refine blk_drewN ?_ _ | refine blk_drew ?_ | refine blk_alloc ?_ _)); exact BK109.out) hg (Kd.R_ne HO_3.out BK109.out (by decide)))
                                      have n2_ := Aside0.mk (hb)
                                      have n3_ := Aside0.mk (ho)
                                      clear BK101
                                      clear BK109
                                      clear HB
                                      clear HO_3
                                      have BK101 := n0_
                                      have BK109 := n1_
                                      have HB := n2_
                                      have HO112 := n3_
                                      clear n0_ n1_ n2_ n3_
                                      clear ho hb hg hat
                                      refine hK.out _ _ ⟨(blk_cell BK109.out 0).trans rfl, (blk_cell BK109.out 1).trans rfl, (blk_cell BK109.out 2).trans rfl, (blk_cell BK109.out 3).trans rfl, (blk_cell BK109.out 4).trans rfl, (blk_cell BK109.out 5).trans rfl⟩ (fun hHeld => ?_)
                                      clear hK K
                                      refine norm_ (a' := ?_) ?_ ?_
                                      rotate_left
                                      · show Act.put _ (some 70) _ = _
                                        simp only [Act.put, List.setIfInBounds_toArray, List.set_cons_zero, List.set_cons_succ, i64_w, i32_w]
                                        rfl
                                      refine one_ (i := 6) (N := some 73) #[true, true, true, true, true, true, true, true, true, false, true, true, false, false] rfl rfl (one_of HT_.out (by kernel_rfl)) (by decide) (fun K hK => ?_)
                                      refine Kd.R_append_rows_step Kd.string (w0 := w) w.heap.size (by rfl) (.tmp 70) (.tmp 72) 23 9 (.string ⟨#[]⟩) 16 rfl Tryz.underlying23 info9 rfl (by decide) (by omega) v111 y110 ((rd_T38 l0_0 x4_2).f1) _ _ _ (fun _ => True) (fun _ => False) rfl rfl ?aO ?aR (fun _ _ h => h) (fun _ h => h.elim) ?aF ?aB ?aS ?aL ?_
                                      (case aR => repeat (first | exact (Kd.C_below HR108_1.out HB.out) | (with_reducible refine Kd.C_alloc ?_ _) | (with_reducible refine Kd.C_drewN ?_ _) | (with_reducible refine Kd.C_drew ?_)))
                                      (case aB => exact (by repeat (first | (with_reducible first | exact HB.out | apply below_alloc | apply pw_below_drewN | apply below_drew1 | refine below_set ?_ GE101.out | refine below_set ?_ GE109.out) | exact HB.out)))
                                      (case aF => exact (fun _ _ => trivial))
                                      (case aO => exact (by (with_reducible repeat (first | apply Kd.R_alloc | apply Kd.R_drewN | apply Kd.R_drew)); exact HO112.out))
                                      (case aS => exact (below_size (by repeat (first | (with_reducible first | exact HB.out | apply below_alloc | apply pw_below_drewN | apply below_drew1 | refine below_set ?_ GE101.out | refine below_set ?_ GE109.out) | exact HB.out))))
                                      (case aL => have := LMc46.out; omega)
                                      intro v114 w56 ho hb hg hat
                                      rw [← Ny113.out] at ho
                                      have n0_ := Aside0.mk (blk_grown (g := gb101) (o := .cells #[.slice (some ad108) l0_0.length c0_0, .slice A0_1 l0_1.length c0_1] 25 (0, 0)) (by (with_reducible repeat (first | refine blk_drewN ?_ _ | refine blk_drew ?_ | refine blk_alloc ?_ _)); exact BK101.out) hg (Kd.R_ne HO112.out BK101.out (by decide)))
                                      have n1_ := Aside0.mk (blk_grown (g := gb109) (o := .cells #[.slice A108_0 ((rd_T38 l0_0 x4_2).f0).length c108_0, .slice A108_1 ((rd_T38 l0_0 x4_2).f1).length c108_1, .slice A108_2 ((rd_T38 l0_0 x4_2).f2).length c108_2, .slice A108_3 ((rd_T38 l0_0 x4_2).f3).length c108_3, .string ((rd_T38 l0_0 x4_2).f4), .string ((rd_T38 l0_0 x4_2).f5)] 38 (0, 0)) (by (with_reducible repeat (first | refine blk_drewN ?_ _ | refine blk_drew ?_ | refine blk_alloc ?_ _)); exact BK109.out) hg (Kd.R_ne HO112.out BK109.out (by decide)))
                                      have n2_ := Aside0.mk (hb)
                                      have n3_ := Aside0.mk (ho)
                                      clear BK101
                                      clear BK109
                                      clear HB
                                      clear HO112
                                      have BK101 := n0_
                                      have BK109 := n1_
                                      have HB := n2_
                                      have HO115 := n3_
                                      clear n0_ n1_ n2_ n3_
                                      clear ho hb hg hat
                                      refine hK.out _ _ ⟨(blk_cell BK109.out 0).trans rfl, (blk_cell BK109.out 1).trans rfl, (blk_cell BK109.out 2).trans rfl, (blk_cell BK109.out 3).trans rfl, (blk_cell BK109.out 4).trans rfl, (blk_cell BK109.out 5).trans rfl⟩ (fun hHeld => ?_)
                                      clear hK K
                                      refine norm_ (a' := ?_) ?_ ?_
                                      rotate_left
                                      · show Act.put _ (some 73) _ = _
                                        simp only [Act.put, List.setIfInBounds_toArray, List.set_cons_zero, List.set_cons_succ, i64_w, i32_w]
                                        rfl
                                      refine one_ (i := 9) (N := some 76) #[true, true, true, true, true, true, true, true, true, true, true, true, false, false] rfl rfl (one_of HT_.out (by kernel_rfl)) (by decide) (fun K hK => ?_)
                                      refine Kd.R_append_rows_step Kd.string (w0 := w) w.heap.size (by rfl) (.tmp 73) (.tmp 75) 23 9 (.string ⟨#[]⟩) 16 rfl Tryz.underlying23 info9 rfl (by decide) (by omega) v114 y113 ((rd_T38 l0_0 x4_2).f2) _ _ _ (fun _ => True) (fun _ => False) rfl rfl ?aO ?aR (fun _ _ h => h) (fun _ h => h.elim) ?aF ?aB ?aS ?aL ?_
                                      (case aR => repeat (first | exact (Kd.C_below HR108_2.out HB.out) | (with_reducible refine Kd.C_alloc ?_ _) | (with_reducible refine Kd.C_drewN ?_ _) | (with_reducible refine Kd.C_drew ?_)))
                                      (case aB => exact (by repeat (first | (with_reducible first | exact HB.out | apply below_alloc | apply pw_below_drewN | apply below_drew1 | refine below_set ?_ GE101.out | refine below_set ?_ GE109.out) | exact HB.out)))
                                      (case aF => exact (fun _ _ => trivial))
                                      (case aO => exact (by (with_reducible repeat (first | apply Kd.R_alloc | apply Kd.R_drewN | apply Kd.R_drew)); exact HO115.out))
                                      (case aS => exact (below_size (by repeat (first | (with_reducible first | exact HB.out | apply below_alloc | apply pw_below_drewN | apply below_drew1 | refine below_set ?_ GE101.out | refine below_set ?_ GE109.out) | exact HB.out))))
                                      (case aL => have := LMc47.out; omega)
                                      intro v117 w57 ho hb hg hat
                                      rw [← Ny116.out] at ho
                                      have n0_ := Aside0.mk (blk_grown (g := gb101) (o := .cells #[.slice (some ad108) l0_0.length c0_0, .slice A0_1 l0_1.length c0_1] 25 (0, 0)) (by (with_reducible repeat (first | refine blk_drewN ?_ _ | refine blk_drew ?_ | refine blk_alloc ?_ _)); exact BK101.out) hg (Kd.R_ne HO115.out BK101.out (by decide)))
                                      have n1_ := Aside0.mk (blk_grown (g := gb109) (o := .cells #[.slice A108_0 ((rd_T38 l0_0 x4_2).f0).length c108_0, .slice A108_1 ((rd_T38 l0_0 x4_2).f1).length c108_1, .slice A108_2 ((rd_T38 l0_0 x4_2).f2).length c108_2, .slice A108_3 ((rd_T38 l0_0 x4_2).f3).length c108_3, .string ((rd_T38 l0_0 x4_2).f4), .string ((rd_T38 l0_0 x4_2).f5)] 38 (0, 0)) (by (with_reducible repeat (first | refine blk_drewN ?_ _ | refine blk_drew ?_ | refine blk_alloc ?_ _)); exact BK109.out) hg (Kd.R_ne HO115.out BK109.out (by decide)))
                                      have n2_ := Aside0.mk (hb)
                                      have n3_ := Aside0.mk (ho)
                                      clear BK101
                                      clear BK109
                                      clear HB
                                      clear HO115
                                      have BK101 := n0_
                                      have BK109 := n1_
                                      have HB := n2_
                                      have HO118 := n3_
                                      clear n0_ n1_ n2_ n3_
                                      clear ho hb hg hat
                                      refine hK.out _ _ ⟨(blk_cell BK109.out 0).trans rfl, (blk_cell BK109.out 1).trans rfl, (blk_cell BK109.out 2).trans rfl, (blk_cell BK109.out 3).trans rfl, (blk_cell BK109.out 4).trans rfl, (blk_cell BK109.out 5).trans rfl⟩ (fun hHeld => ?_)
                                      clear hK K
                                      refine norm_ (a' := ?_) ?_ ?_
                                      rotate_left
                                      · show Act.put _ (some 76) _ = _
                                        simp only [Act.put, List.setIfInBounds_toArray, List.set_cons_zero, List.set_cons_succ, i64_w, i32_w]
                                        rfl
                                      refine one_ (i := 12) (N := some 79) #[true, true, true, true, true, true, true, true, true, true, true, true, true, false] rfl rfl (one_of HT_.out (by kernel_rfl)) (by decide) (fun K hK => ?_)
                                      refine Kd.R_append_rows_step Kd.string (w0 := w) w.heap.size (by rfl) (.tmp 76) (.tmp 78) 23 9 (.string ⟨#[]⟩) 16 rfl Tryz.underlying23 info9 rfl (by decide) (by omega) v117 y116 ((rd_T38 l0_0 x4_2).f3) _ _ _ (fun _ => True) (fun _ => False) rfl rfl ?aO ?aR (fun _ _ h => h) (fun _ h => h.elim) ?aF ?aB ?aS ?aL ?_
                                      (case aR => repeat (first | exact (Kd.C_below HR108_3.out HB.out) | (with_reducible refine Kd.C_alloc ?_ _) | (with_reducible refine Kd.C_drewN ?_ _) | (with_reducible refine Kd.C_drew ?_)))
                                      (case aB => exact (by repeat (first | (with_reducible first | exact HB.out | apply below_alloc | apply pw_below_drewN | apply below_drew1 | refine below_set ?_ GE101.out | refine below_set ?_ GE109.out) | exact HB.out)))
                                      (case aF => exact (fun _ _ => trivial))
                                      (case aO => exact (by (with_reducible repeat (first | apply Kd.R_alloc | apply Kd.R_drewN | apply Kd.R_drew)); exact HO118.out))
                                      (case aS => exact (below_size (by repeat (first | (with_reducible first | exact HB.out | apply below_alloc | apply pw_below_drewN | apply below_drew1 | refine below_set ?_ GE101.out | refine below_set ?_ GE109.out) | exact HB.out))))
                                      (case aL => have := LMc48.out; omega)
                                      intro v120 w58 ho hb hg hat
                                      rw [← Ny119.out] at ho
                                      have n0_ := Aside0.mk (blk_grown (g := gb101) (o := .cells #[.slice (some ad108) l0_0.length c0_0, .slice A0_1 l0_1.length c0_1] 25 (0, 0)) (by (with_reducible repeat (first | refine blk_drewN ?_ _ | refine blk_drew ?_ | refine blk_alloc ?_ _)); exact BK101.out) hg (Kd.R_ne HO118.out BK101.out (by decide)))
                                      have n1_ := Aside0.mk (blk_grown (g := gb109) (o := .cells #[.slice A108_0 ((rd_T38 l0_0 x4_2).f0).length c108_0, .slice A108_1 ((rd_T38 l0_0 x4_2).f1).length c108_1, .slice A108_2 ((rd_T38 l0_0 x4_2).f2).length c108_2, .slice A108_3 ((rd_T38 l0_0 x4_2).f3).length c108_3, .string ((rd_T38 l0_0 x4_2).f4), .string ((rd_T38 l0_0 x4_2).f5)] 38 (0, 0)) (by (with_reducible repeat (first | refine blk_drewN ?_ _ | refine blk_drew ?_ | refine blk_alloc ?_ _)); exact BK109.out) hg (Kd.R_ne HO118.out BK109.out (by decide)))
                                      have n2_ := Aside0.mk (hb)
                                      have n3_ := Aside0.mk (ho)
                                      clear BK101
                                      clear BK109
                                      clear HB
                                      clear HO118
                                      have BK101 := n0_
                                      have BK109 := n1_
                                      have HB := n2_
                                      have HO121 := n3_
                                      clear n0_ n1_ n2_ n3_
                                      clear ho hb hg hat
                                      refine hK.out _ _ ⟨(blk_cell BK109.out 0).trans rfl, (blk_cell BK109.out 1).trans rfl, (blk_cell BK109.out 2).trans rfl, (blk_cell BK109.out 3).trans rfl, (blk_cell BK109.out 4).trans rfl, (blk_cell BK109.out 5).trans rfl⟩ (fun hHeld => ?_)
                                      clear hK K
                                      refine norm_ (a' := ?_) ?_ ?_
                                      rotate_left
                                      · show Act.put _ (some 79) _ = _
                                        simp only [Act.put, List.setIfInBounds_toArray, List.set_cons_zero, List.set_cons_succ, i64_w, i32_w]
                                        rfl
                                      refine pure_ (i := 13) (N := some 3) (v := ?_) (a' := ?_) #[true, true, true, true, true, true, true, true, true, true, true, true, true, true] rfl rfl (any_of HT_.out (by kernel_rfl)) (fun _ _ _ h => h) (Or.inl ⟨by rfl, ?_⟩) ?_ ?_
                                      rotate_left
                                      · intro w'
                                        go_simp
                                        with_reducible rfl
                                      rotate_left
                                      · simp only [Act.put, List.setIfInBounds_toArray, List.set_cons_zero, List.set_cons_succ, i64_w, i32_w]
                                        rfl
                                      refine done_ (done_of HT_.out (by kernel_rfl)) ?_
                                      try go_wp2
                                      go_roundg k2
                                      case measure => have := HJ1.out; have := HK2.out; omega
                                      case rel => exact ⟨(y119), (wrap64 (x4_2 + 1)), (by first | rfl | (simp; done) | (simp [*]; done)), H', ⟨by have := HJ1.out; have := HK2.out; omega⟩, ⟨by (with_reducible repeat (first | apply Kd.R_alloc | apply Kd.R_drewN | apply Kd.R_drew)); exact HO121.out⟩, ⟨by (with_reducible repeat (first | refine blk_drewN ?_ _ | refine blk_drew ?_ | refine blk_alloc ?_ _)); exact BK101.out⟩, ⟨by repeat (first | (with_reducible first | exact HB.out | apply below_alloc | apply pw_below_drewN | apply below_drew1 | refine below_set ?_ GE101.out | refine below_set ?_ GE109.out) | exact HB.out)⟩⟩
                                    · rw [if_neg c48] at H
                                      exact absurd H (by simp)
                                  · rw [if_neg c47] at H
                                    exact absurd H (by simp)
                                · rw [if_neg c46] at H
                                  exact absurd H (by simp)
                              · rw [if_neg c45] at H
                                exact absurd H (by simp)
                · rw [if_neg c14] at H
                  exact absurd H (by simp)
              · rw [if_neg c13] at H
                have c13b0 : decide (x4_2 < (l0_0.length : Int)) = false := decide_eq_false c13
                clear c13
                have H' := Aside0.mk H
                clear H
                have hcz59_0 : wr.cell? ⟨gb101, 0, none⟩ = some (.slice A0_0 l0_0.length c0_0) := (blk_cell BK101.out 0).trans rfl
                have hcz59_1 : wr.cell? ⟨gb101, 1, none⟩ = some (.slice A0_1 l0_1.length c0_1) := (blk_cell BK101.out 1).trans rfl
                have hfz59_0 := blk_frozen BK101.out 0
                have hfz59_1 := blk_frozen BK101.out 1
                go_wp2
                go_loopg [6] k2 (fun kq v6 w' => ∃ (x6_3 : Int), v6 = .int .i64 x6_3 ∧ Aside0 (bellowslaw12_few.l1 kq x3_2 x6_3 = some r) ∧ Aside0 (kq ≤ k2) ∧ Aside0 (Kd.R Kd.string 9 w' w.heap.size (fun _ => True) u3 x3_2) ∧ Aside0 (w'.heap[gb101]? = some (.cells #[(.slice A0_0 l0_0.length c0_0), (.slice A0_1 l0_1.length c0_1)] 25 (0, 0))) ∧ Aside0 (Below w.heap.size w w'))
                case atStart => exact ⟨(0), (by first | rfl | (simp; done) | (simp [*]; done)), H', ⟨Nat.le_refl _⟩, ⟨by (with_reducible repeat (first | apply Kd.R_alloc | apply Kd.R_drewN | apply Kd.R_drew)); exact HO_3.out⟩, ⟨by (with_reducible repeat (first | refine blk_drewN ?_ _ | refine blk_drew ?_ | refine blk_alloc ?_ _)); exact BK101.out⟩, ⟨by repeat (first | (with_reducible first | exact HB.out | apply below_alloc | apply pw_below_drewN | apply below_drew1 | refine below_set ?_ GE101.out) | exact HB.out)⟩⟩
                case round =>
                  clear H'
                  try clear c1
                  try clear p1
                  try clear q1
                  try clear hx1
                  try clear c2
                  try clear p2
                  try clear c3
                  try clear c4
                  try clear c5
                  try clear p6
                  try clear c8
                  try clear c10
                  try clear p10
                  try clear q10
                  try clear hx10
                  try clear c13
                  try clear c13b0
                  try clear c14
                  try clear c14b0
                  try clear c15
                  try clear c15b0
                  try clear c15b1
                  try clear c18
                  try clear c20
                  try clear c20b0
                  try clear c20b1
                  try clear c23
                  try clear c25
                  try clear c25b0
                  try clear c25b1
                  try clear c28
                  try clear c30
                  try clear c30b0
                  try clear c30b1
                  try clear c33
                  try clear c35
                  try clear c35b0
                  try clear c35b1
                  try clear c38
                  try clear c40
                  try clear c40b0
                  try clear c40b1
                  try clear c43
                  try clear c45
                  try clear c46
                  try clear c47
                  try clear c48
                  try clear c51
                  try clear hcz11_0
                  try clear hcz11_1
                  try clear hcz16_0
                  try clear hcz16_1
                  try clear hcz19_0
                  try clear hcz19_1
                  try clear hcz19_2
                  try clear hcz19_3
                  try clear hcz19_4
                  try clear hcz19_5
                  try clear hcz21_0
                  try clear hcz21_1
                  try clear hcz24_0
                  try clear hcz24_1
                  try clear hcz24_2
                  try clear hcz24_3
                  try clear hcz24_4
                  try clear hcz24_5
                  try clear hcz26_0
                  try clear hcz26_1
                  try clear hcz29_0
                  try clear hcz29_1
                  try clear hcz29_2
                  try clear hcz29_3
                  try clear hcz29_4
                  try clear hcz29_5
                  try clear hcz31_0
                  try clear hcz31_1
                  try clear hcz34_0
                  try clear hcz34_1
                  try clear hcz34_2
                  try clear hcz34_3
                  try clear hcz34_4
                  try clear hcz34_5
                  try clear hcz36_0
                  try clear hcz36_1
                  try clear hcz39_0
                  try clear hcz39_1
                  try clear hcz39_2
                  try clear hcz39_3
                  try clear hcz39_4
                  try clear hcz39_5
                  try clear hcz41_0
                  try clear hcz41_1
                  try clear hcz44_0
                  try clear hcz44_1
                  try clear hcz44_2
                  try clear hcz44_3
                  try clear hcz44_4
                  try clear hcz44_5
                  try clear hcz49_0
                  try clear hcz49_1
                  try clear hcz52_0
                  try clear hcz52_1
                  try clear hcz52_2
                  try clear hcz52_3
                  try clear hcz52_4
                  try clear hcz52_5
                  try clear hcz59_0
                  try clear hcz59_1
                  try clear hcz5_0
                  try clear hcz5_1
                  try clear hcz6_0
                  try clear hcz6_1
                  try clear hfz11_0
                  try clear hfz11_1
                  try clear hfz16_0
                  try clear hfz16_1
                  try clear hfz19_0
                  try clear hfz19_1
                  try clear hfz19_2
                  try clear hfz19_3
                  try clear hfz19_4
                  try clear hfz19_5
                  try clear hfz21_0
                  try clear hfz21_1
                  try clear hfz24_0
                  try clear hfz24_1
                  try clear hfz24_2
                  try clear hfz24_3
                  try clear hfz24_4
                  try clear hfz24_5
                  try clear hfz26_0
                  try clear hfz26_1
                  try clear hfz29_0
                  try clear hfz29_1
                  try clear hfz29_2
                  try clear hfz29_3
                  try clear hfz29_4
                  try clear hfz29_5
                  try clear hfz31_0
                  try clear hfz31_1
                  try clear hfz34_0
                  try clear hfz34_1
                  try clear hfz34_2
                  try clear hfz34_3
                  try clear hfz34_4
                  try clear hfz34_5
                  try clear hfz36_0
                  try clear hfz36_1
                  try clear hfz39_0
                  try clear hfz39_1
                  try clear hfz39_2
                  try clear hfz39_3
                  try clear hfz39_4
                  try clear hfz39_5
                  try clear hfz41_0
                  try clear hfz41_1
                  try clear hfz44_0
                  try clear hfz44_1
                  try clear hfz44_2
                  try clear hfz44_3
                  try clear hfz44_4
                  try clear hfz44_5
                  try clear hfz49_0
                  try clear hfz49_1
                  try clear hfz52_0
                  try clear hfz52_1
                  try clear hfz52_2
                  try clear hfz52_3
                  try clear hfz52_4
                  try clear hfz52_5
                  try clear hfz59_0
                  try clear hfz59_1
                  try clear hfz5_0
                  try clear hfz5_1
                  try clear hfz6_0
                  try clear hfz6_1
                  try clear hx108_0
                  try clear hx108_1
                  try clear hx108_2
                  try clear hx108_3
                  try clear hx108_4
                  try clear hx108_5
                  try clear p108
                  try clear p2
                  try clear q108
                  obtain ⟨x6_3, rfl, HA, HK3, HO_3, BK101, HB⟩ := hrel
                  cases gk with
                  | zero => exact absurd HA.out (by simp [bellowslaw12_few.l1])
                  | succ k3 =>
                    have H := HA.out
                    clear HA
                    simp only [bellowslaw12_few.l1] at H
                    by_cases c60 : x6_3 < (x3_2.length : Int)
                    · rw [if_pos c60] at H
                      have c60b0 : decide (x6_3 < (x3_2.length : Int)) = true := decide_eq_true c60
                      clear c60
                      by_cases c61 : 0 ≤ x6_3
                      · rw [if_pos c61] at H
                        have c61b0 : decide (0 ≤ x6_3) = true := decide_eq_true c61
                        clear c61
                        by_cases c62 : ((rdOf ByteArray.empty x3_2 x6_3).size : Int) > 200
                        · rw [if_pos c62] at H
                          have c62b0 : decide (200 < ((rdOf ByteArray.empty x3_2 x6_3).size : Int)) = true := decide_eq_true c62
                          have c62b1 : decide (200 < (rdOf ByteArray.empty x3_2 x6_3).size) = true := decide_eq_true (by omega)
                          clear c62
                          obtain rfl := Option.some.inj H
                          obtain ⟨Ao63, co63, eo63⟩ := Kd.R_slice HO_3.out
                          subst eo63
                          have p122 : 0 ≤ (x6_3 : Int) := of_decide_eq_true (by first | (with_reducible assumption) | assumption)
                          have q122 : x6_3 < (x3_2.length : Int) := of_decide_eq_true (by first | (with_reducible assumption) | assumption)
                          obtain ⟨ad122, e122, hx122_0⟩ := Kd.at_string (Kd.R_reads' HO_3.out).2.2 x6_3 p122 q122
                          cases e122
                          replace p122 := eq_true p122
                          replace q122 := eq_true q122
                          go_wp2
                          go_ret
                          exact ⟨by first | rfl | (simp [errW_none, errW_some] <;> rfl) | (simp [*, errW_none, errW_some] <;> rfl), by repeat (first | (with_reducible first | exact HB.out | apply below_alloc | apply pw_below_drewN | apply below_drew1 | refine below_set ?_ GE101.out) | exact HB.out)⟩
                        · rw [if_neg c62] at H
                          have c62b0 : decide (200 < ((rdOf ByteArray.empty x3_2 x6_3).size : Int)) = false := decide_eq_false c62
                          have c62b1 : decide (200 < (rdOf ByteArray.empty x3_2 x6_3).size) = false := decide_eq_false (by omega)
                          clear c62
                          have H' := Aside0.mk H
                          clear H
                          obtain ⟨Ao64, co64, eo64⟩ := Kd.R_slice HO_3.out
                          subst eo64
                          have p122 : 0 ≤ (x6_3 : Int) := of_decide_eq_true (by first | (with_reducible assumption) | assumption)
                          have q122 : x6_3 < (x3_2.length : Int) := of_decide_eq_true (by first | (with_reducible assumption) | assumption)
                          obtain ⟨ad122, e122, hx122_0⟩ := Kd.at_string (Kd.R_reads' HO_3.out).2.2 x6_3 p122 q122
                          cases e122
                          replace p122 := eq_true p122
                          replace q122 := eq_true q122
                          go_wp2
                          go_roundg k3
                          case measure => have := HJ1.out; have := HK2.out; have := HK3.out; omega
                          case rel => exact ⟨(wrap64 (x6_3 + 1)), (by first | rfl | (simp; done) | (simp [*]; done)), H', ⟨by have := HJ1.out; have := HK2.out; have := HK3.out; omega⟩, ⟨by (with_reducible repeat (first | apply Kd.R_alloc | apply Kd.R_drewN | apply Kd.R_drew)); exact HO_3.out⟩, ⟨by (with_reducible repeat (first | refine blk_drewN ?_ _ | refine blk_drew ?_ | refine blk_alloc ?_ _)); exact BK101.out⟩, ⟨by repeat (first | (with_reducible first | exact HB.out | apply below_alloc | apply pw_below_drewN | apply below_drew1 | refine below_set ?_ GE101.out) | exact HB.out)⟩⟩
                      · rw [if_neg c61] at H
                        exact absurd H (by simp)
                    · rw [if_neg c60] at H
                      have c60b0 : decide (x6_3 < (x3_2.length : Int)) = false := decide_eq_false c60
                      clear c60
                      obtain rfl := Option.some.inj H
                      obtain ⟨Ao65, co65, eo65⟩ := Kd.R_slice HO_3.out
                      subst eo65
                      go_wp2
                      go_ret
                      exact ⟨by first | rfl | (simp [errW_none, errW_some] <;> rfl) | (simp [*, errW_none, errW_some] <;> rfl), by repeat (first | (with_reducible first | exact HB.out | apply below_alloc | apply pw_below_drewN | apply below_drew1 | refine below_set ?_ GE101.out) | exact HB.out)⟩
        · rw [if_neg c8] at H
          exact absurd H (by simp)
end Go.Proofs.YtapdchapjpnceaaGreatDoor.P
end
