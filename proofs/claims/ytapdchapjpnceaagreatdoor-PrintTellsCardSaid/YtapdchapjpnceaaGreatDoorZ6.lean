/- Laid together by wip/tools/shake.py from texts of this claim: PBellowslaw12Of0. -/
import Derived.Test.YtapdchapjpnceaaGreatDoorZ5
section
namespace Go.Proofs.YtapdchapjpnceaaGreatDoor.P
open Go.RowKit Go.Proofs.YtapdchapjpnceaaGreatDoorW.PrintWords Go.Proofs.YtapdchapjpnceaaGreatDoorW.PrintLast Go.Proofs.YtapdchapjpnceaaGreatDoorW.PrintMore
attribute [local go_sem] max2_int min2_int max_two min_two max_three min_three max_four min_four
set_option linter.unusedVariables false
set_option linter.unusedSimpArgs false
def bellowslaw12_of.l0 : Nat → Int → List (S38) → List ByteArray → List (S43) → List ByteArray → Option ((List (S43)) × List ByteArray)
  | 0, _, _, _, _, _ => none
  | k + 1, x4, x154000, x154001, x162000, x162001 => if x4 < (x154000.length : Int) then (if 0 ≤ x4 then ((some (([] : List ByteArray) : List ByteArray)).bind fun y164 => (if y164.length + ((rd_T38 x154000 x4).f0).length < 8796093022208 then ((some (([] : List ByteArray) : List ByteArray)).bind fun y170 => (if y170.length + ((rd_T38 x154000 x4).f1).length < 8796093022208 then ((some (([] : List ByteArray) : List ByteArray)).bind fun y176 => (if y176.length + ((rd_T38 x154000 x4).f2).length < 8796093022208 then ((some (([] : List ByteArray) : List ByteArray)).bind fun y182 => (if y182.length + ((rd_T38 x154000 x4).f3).length < 8796093022208 then (if x162000.length < 1099511627776 then (bellowslaw12_of.l0 k (wrap64 (x4 + 1)) x154000 x154001 (x162000 ++ [(⟨(y164 ++ ((rd_T38 x154000 x4).f0)), (y170 ++ ((rd_T38 x154000 x4).f1)), (y176 ++ ((rd_T38 x154000 x4).f2)), (y182 ++ ((rd_T38 x154000 x4).f3)), (rd_T38 x154000 x4).f4, (rd_T38 x154000 x4).f5⟩ : S43)]) x162001) else (none)) else (none))) else (none))) else (none))) else (none))) else (none)) else (some (x162000, x162001))
def bellowslaw12_of.f (k : Nat) (l0_0 : List (S38)) (l0_1 : List ByteArray) : Option ((List (S43)) × List ByteArray) := (some (([] : List ByteArray) : List ByteArray)).bind fun y155 => (if y155.length + l0_1.length < 8796093022208 then (bellowslaw12_of.l0 k 0 l0_0 l0_1 ([] : List (S43)) (y155 ++ l0_1)) else (none))
theorem bellowslaw12_of.mono_l : ∀ k, (∀ y0 y1 y2 y3 y4, LeO (bellowslaw12_of.l0 k y0 y1 y2 y3 y4) (bellowslaw12_of.l0 (k + 1) y0 y1 y2 y3 y4))
  | 0 => fun _ _ _ _ _ r h => by simp [bellowslaw12_of.l0] at h
  | k + 1 => by
    have ih0 := bellowslaw12_of.mono_l k
    · intro y0 y1 y2 y3 y4
      unfold bellowslaw12_of.l0
      repeat' first
      | (with_reducible exact ih0 _ _ _ _ _)
      | (with_reducible exact LeO.refl _)
      | (with_reducible exact LeO.none _)
      | (with_reducible refine LeO.ite ?_ ?_)
      | (with_reducible refine LeO.bind ?_ (fun _ => ?_))
      | exact ih0 _ _ _ _ _
      | exact LeO.none _
      | refine LeO.ite ?_ ?_
      | refine LeO.bind ?_ (fun _ => ?_)
theorem bellowslaw12_of.mono : ∀ a0 a1 k, LeO (bellowslaw12_of.f k a0 a1) (bellowslaw12_of.f (k + 1) a0 a1) := by
  intro a0 a1 k
  have ih0 := bellowslaw12_of.mono_l k
  unfold bellowslaw12_of.f
  repeat' first
      | (with_reducible exact ih0 _ _ _ _ _)
      | (with_reducible exact LeO.refl _)
      | (with_reducible exact LeO.none _)
      | (with_reducible refine LeO.ite ?_ ?_)
      | (with_reducible refine LeO.bind ?_ (fun _ => ?_))
      | exact ih0 _ _ _ _ _
      | exact LeO.none _
      | refine LeO.ite ?_ ?_
      | refine LeO.bind ?_ (fun _ => ?_)
def bellowslaw12_of.T6 : Bool × List (List Nat × List Nat) := (true, [([], []), ([0], [0]), ([], []), ([], []), ([3], [3]), ([2, 4], [2, 4]), ([], []), ([], []), ([7], [7]), ([6, 8, 5], [6, 8]), ([], []), ([], []), ([11], [11]), ([10, 12, 9], [10, 12]), ([], []), ([], []), ([15], [15]), ([14, 16, 13], [14, 16]), ([], []), ([18], [18]), ([], []), ([20], [20]), ([5, 9, 13, 17, 19, 21], [5, 9, 13, 17, 19, 21]), ([22], [22]), ([1, 23, 17], [1, 23]), ([0, 1, 2, 3, 4, 5, 6, 7, 8, 9, 10, 11, 12, 13, 14, 15, 16, 17, 18, 19, 20, 21, 22, 23, 24], []), ([25, 24, 24, 0, 1, 2, 3, 4, 5, 6, 7, 8, 9, 10, 11, 12, 13, 14, 15, 16, 17, 18, 19, 20, 21, 22, 23, 24], [24, 25])])
def bellowslaw12_of.B6 : List Nat := [0, 1, 0, 0, 8, 28, 0, 0, 128, 508, 0, 0, 2048, 8188, 0, 0, 32768, 131068, 0, 262144, 0, 1048576, 4194300, 8388604, 16777215, 33554431, 67108863]
theorem bellowslaw12_of.tab6 : rtab .any (opsOf Tryz.f6 6) = bellowslaw12_of.T6 := by kernel_rfl
theorem bellowslaw12_of.bits6 : waitsOk bellowslaw12_of.T6.2 bellowslaw12_of.B6 = true := by kernel_rfl
abbrev ofH (w' : World) (gb161 : Nat) (Ao30 : Option Addr) (x162000_1 : List (S43)) (co30 : Nat) (Ao10 : Option Addr) (y158 : List ByteArray) (co10 : Nat) (gb163 : Nat) (A162_0 : Option Addr) (l0_0 : List (S38)) (x4_1 : Int) (c162_0 : Nat) (A162_1 : Option Addr) (c162_1 : Nat) (A162_2 : Option Addr) (c162_2 : Nat) (A162_3 : Option Addr) (c162_3 : Nat) : Prop := w'.cell? ⟨gb161, 0, none⟩ = some (.slice Ao30 x162000_1.length co30) ∧ w'.cell? ⟨gb161, 1, none⟩ = some (.slice Ao10 y158.length co10) ∧ w'.cell? ⟨gb163, 0, none⟩ = some (.slice A162_0 ((rd_T38 l0_0 x4_1).f0).length c162_0) ∧ w'.cell? ⟨gb163, 1, none⟩ = some (.slice A162_1 ((rd_T38 l0_0 x4_1).f1).length c162_1) ∧ w'.cell? ⟨gb163, 2, none⟩ = some (.slice A162_2 ((rd_T38 l0_0 x4_1).f2).length c162_2) ∧ w'.cell? ⟨gb163, 3, none⟩ = some (.slice A162_3 ((rd_T38 l0_0 x4_1).f3).length c162_3) ∧ w'.cell? ⟨gb163, 4, none⟩ = some (.string ((rd_T38 l0_0 x4_1).f4)) ∧ w'.cell? ⟨gb163, 5, none⟩ = some (.string ((rd_T38 l0_0 x4_1).f5))
abbrev ofT (w w' : World) (gb153 : Nat) (ad162 : Addr) (l0_0 : List (S38)) (c0_0 : Nat) (A0_1 : Option Addr) (l0_1 : List ByteArray) (c0_1 : Nat) (gb154 : Nat) (gb161 : Nat) (Ao30 : Option Addr) (x162000_1 : List (S43)) (co30 : Nat) (Ao10 : Option Addr) (y158 : List ByteArray) (co10 : Nat) (gb163 : Nat) (A162_0 : Option Addr) (x4_1 : Int) (c162_0 : Nat) (A162_1 : Option Addr) (c162_1 : Nat) (A162_2 : Option Addr) (c162_2 : Nat) (A162_3 : Option Addr) (c162_3 : Nat) : Prop := (w'.heap[gb153]? = some (.cells #[.slice (some ad162) l0_0.length c0_0, .slice A0_1 l0_1.length c0_1] 25 (0, 0))) ∧ (w'.heap[gb154]? = some (.cells #[.slice none 0 0, .slice none 0 0] 32 (0, 0))) ∧ (w'.heap[gb161]? = some (.cells #[.slice Ao30 x162000_1.length co30, .slice Ao10 y158.length co10] 32 (0, 0))) ∧ (w'.heap[gb163]? = some (.cells #[.slice A162_0 ((rd_T38 l0_0 x4_1).f0).length c162_0, .slice A162_1 ((rd_T38 l0_0 x4_1).f1).length c162_1, .slice A162_2 ((rd_T38 l0_0 x4_1).f2).length c162_2, .slice A162_3 ((rd_T38 l0_0 x4_1).f3).length c162_3, .string ((rd_T38 l0_0 x4_1).f4), .string ((rd_T38 l0_0 x4_1).f5)] 38 (0, 0))) ∧ (Below w.heap.size w w')
theorem ofM {w' : World} {gb161 : Nat} {Ao30 : Option Addr} {x162000_1 : List (S43)} {co30 : Nat} {Ao10 : Option Addr} {y158 : List ByteArray} {co10 : Nat} {gb163 : Nat} {A162_0 : Option Addr} {l0_0 : List (S38)} {x4_1 : Int} {c162_0 : Nat} {A162_1 : Option Addr} {c162_1 : Nat} {A162_2 : Option Addr} {c162_2 : Nat} {A162_3 : Option Addr} {c162_3 : Nat} (h161 : w'.heap[gb161]? = some (.cells #[.slice Ao30 x162000_1.length co30, .slice Ao10 y158.length co10] 32 (0, 0))) (h163 : w'.heap[gb163]? = some (.cells #[.slice A162_0 ((rd_T38 l0_0 x4_1).f0).length c162_0, .slice A162_1 ((rd_T38 l0_0 x4_1).f1).length c162_1, .slice A162_2 ((rd_T38 l0_0 x4_1).f2).length c162_2, .slice A162_3 ((rd_T38 l0_0 x4_1).f3).length c162_3, .string ((rd_T38 l0_0 x4_1).f4), .string ((rd_T38 l0_0 x4_1).f5)] 38 (0, 0))) : ofH w' gb161 Ao30 x162000_1 co30 Ao10 y158 co10 gb163 A162_0 l0_0 x4_1 c162_0 A162_1 c162_1 A162_2 c162_2 A162_3 c162_3 := ⟨(blk_cell h161 0).trans rfl, (blk_cell h161 1).trans rfl, (blk_cell h163 0).trans rfl, (blk_cell h163 1).trans rfl, (blk_cell h163 2).trans rfl, (blk_cell h163 3).trans rfl, (blk_cell h163 4).trans rfl, (blk_cell h163 5).trans rfl⟩
theorem ofA {p : Prop} (h : p) : Aside0 p := ⟨h⟩
abbrev Nb (k_ : Nat) (v : Value) : Prop := some k_ ≠ v.ownBlock
abbrev ofL15 : Array Bool := #[true, true, false, true, true, false, false, true, true, false, false, true, true, false, true, true, true, false, true, true, true, true, false, false, false, false, false]
abbrev ofL16 : Array Bool := #[true, true, false, true, true, false, false, true, true, false, true, true, true, false, false, true, true, false, true, true, true, true, false, false, false, false, false]
abbrev ofL17 : Array Bool := #[true, true, false, true, true, false, false, true, true, false, true, true, true, false, true, true, true, false, true, true, true, true, false, false, false, false, false]
abbrev ofL18 : Array Bool := #[true, true, false, true, true, false, true, true, true, false, false, true, true, false, false, true, true, false, true, true, true, true, false, false, false, false, false]
abbrev ofL19 : Array Bool := #[true, true, false, true, true, false, true, true, true, false, false, true, true, false, true, true, true, false, true, true, true, true, false, false, false, false, false]
abbrev ofL20 : Array Bool := #[true, true, false, true, true, false, true, true, true, false, true, true, true, false, false, true, true, false, true, true, true, true, false, false, false, false, false]
abbrev ofL21 : Array Bool := #[true, true, false, true, true, false, true, true, true, false, true, true, true, false, true, true, true, false, true, true, true, true, false, false, false, false, false]
abbrev ofL22 : Array Bool := #[true, true, true, true, true, false, false, true, true, false, false, true, true, false, false, true, true, false, true, true, true, true, false, false, false, false, false]
abbrev ofL23 : Array Bool := #[true, true, true, true, true, false, false, true, true, false, false, true, true, false, true, true, true, false, true, true, true, true, false, false, false, false, false]
abbrev ofL24 : Array Bool := #[true, true, true, true, true, false, false, true, true, false, true, true, true, false, false, true, true, false, true, true, true, true, false, false, false, false, false]
abbrev ofL25 : Array Bool := #[true, true, true, true, true, false, false, true, true, false, true, true, true, false, true, true, true, false, true, true, true, true, false, false, false, false, false]
abbrev ofL26 : Array Bool := #[true, true, true, true, true, false, true, true, true, false, false, true, true, false, false, true, true, false, true, true, true, true, false, false, false, false, false]
abbrev ofL27 : Array Bool := #[true, true, true, true, true, false, true, true, true, false, false, true, true, false, true, true, true, false, true, true, true, true, false, false, false, false, false]
abbrev ofL28 : Array Bool := #[true, true, true, true, true, false, true, true, true, false, true, true, true, false, false, true, true, false, true, true, true, true, false, false, false, false, false]
abbrev ofL29 : Array Bool := #[true, true, true, true, true, false, true, true, true, false, true, true, true, false, true, true, true, false, true, true, true, true, false, false, false, false, false]
abbrev ofL30 : Array Bool := #[true, true, true, true, true, true, false, true, true, false, false, true, true, false, false, true, true, false, true, true, true, true, false, false, false, false, false]
abbrev ofL31 : Array Bool := #[true, true, true, true, true, true, false, true, true, false, false, true, true, false, true, true, true, false, true, true, true, true, false, false, false, false, false]
abbrev ofL32 : Array Bool := #[true, true, true, true, true, true, false, true, true, false, true, true, true, false, false, true, true, false, true, true, true, true, false, false, false, false, false]
abbrev ofL33 : Array Bool := #[true, true, true, true, true, true, false, true, true, false, true, true, true, false, true, true, true, false, true, true, true, true, false, false, false, false, false]
abbrev ofL34 : Array Bool := #[true, true, true, true, true, true, true, true, true, false, false, true, true, false, false, true, true, false, true, true, true, true, false, false, false, false, false]
abbrev ofL35 : Array Bool := #[true, true, true, true, true, true, true, true, true, false, false, true, true, false, true, true, true, false, true, true, true, true, false, false, false, false, false]
abbrev ofL36 : Array Bool := #[true, true, true, true, true, true, true, true, true, false, true, true, true, false, false, true, true, false, true, true, true, true, false, false, false, false, false]
abbrev ofL37 : Array Bool := #[true, true, true, true, true, true, true, true, true, false, true, true, true, false, true, true, true, false, true, true, true, true, false, false, false, false, false]
abbrev ofL38 : Array Bool := #[true, true, true, true, true, true, true, true, true, true, false, true, true, false, false, true, true, false, true, true, true, true, false, false, false, false, false]
abbrev ofL39 : Array Bool := #[true, true, true, true, true, true, true, true, true, true, false, true, true, false, true, true, true, false, true, true, true, true, false, false, false, false, false]
abbrev ofL40 : Array Bool := #[true, true, true, true, true, true, true, true, true, true, true, true, true, false, false, true, true, false, true, true, true, true, false, false, false, false, false]
abbrev ofL41 : Array Bool := #[true, true, true, true, true, true, true, true, true, true, true, true, true, false, true, true, true, false, true, true, true, true, false, false, false, false, false]
abbrev ofL42 : Array Bool := #[true, true, true, true, true, true, true, true, true, true, true, true, true, true, false, true, true, false, true, true, true, true, false, false, false, false, false]
abbrev ofL43 : Array Bool := #[true, true, true, true, true, true, true, true, true, true, true, true, true, true, true, true, true, false, true, true, true, true, false, false, false, false, false]
set_option maxHeartbeats 8000000 in
set_option maxRecDepth 100000 in
theorem bellowslaw12_of.calls (k : Nat) (A0_0 : Option Addr) (c0_0 : Nat) (l0_0 : List (S38)) (A0_1 : Option Addr) (c0_1 : Nat) (l0_1 : List ByteArray) (r1 : List (S43)) (r2 : List ByteArray) (w : World) (hr0_0 : Kd.C k38 w A0_0 l0_0.length l0_0) (hc0_0 : l0_0.length ≤ c0_0) (hr0_1 : Kd.C Kd.string w A0_1 l0_1.length l0_1) (hc0_1 : l0_1.length ≤ c0_1) (h : bellowslaw12_of.f k l0_0 l0_1 = some (r1, r2)) :
    Calls Tryz.prog 6 #[.agg #[.slice A0_0 l0_0.length c0_0, .slice A0_1 l0_1.length c0_1]] w fun e w' => ∃ v0_ v1_ : Value, e = .returned (.agg #[v0_, v1_]) ∧ Kd.S k43 43 w' w.heap.size (fun k_ => some k_ ≠ (v1_ : Value).ownBlock) v0_ r1 ∧ Kd.R Kd.string 9 w' w.heap.size (fun _ => True) v1_ r2 ∧ Below w.heap.size w w' := by
  have hu25 := Tryz.underlying25
  have hu32 := Tryz.underlying32
  have hu38 := Tryz.underlying38
  have hu43 := Tryz.underlying43
  have HR0_0 := ofA hr0_0
  have HC0_0 := ofA hc0_0
  clear hr0_0 hc0_0
  have HR0_1 := ofA hr0_1
  have HC0_1 := ofA hc0_1
  clear hr0_1 hc0_1
  have HB := ofA (Below.refl w.heap.size w)
  have H : ((some (([] : List ByteArray) : List ByteArray)).bind fun y155 => (if y155.length + l0_1.length < 8796093022208 then (bellowslaw12_of.l0 k 0 l0_0 l0_1 ([] : List (S43)) (y155 ++ l0_1)) else (none))) = some (r1, r2) := h
  clear h
  obtain ⟨y155, hy155⟩ : ∃ y_ : List ByteArray, y_ = (([] : List ByteArray)) := ⟨_, rfl⟩
  replace H : (if y155.length + l0_1.length < 8796093022208 then (bellowslaw12_of.l0 k 0 l0_0 l0_1 ([] : List (S43)) (y155 ++ l0_1)) else (none)) = some (r1, r2) := by first | (rw [hy155]; with_reducible exact H) | (have H2_ := (Option.bind_some _ _).symm.trans H; rw [hy155]; with_reducible exact H2_) | (have H2_ := (Option.bind_some _ _).symm.trans H; with_reducible exact H2_) | with_reducible exact H | (rw [hy155]; exact H) | exact H
  have Ny155 := ofA hy155
  clear hy155
  by_cases c2 : y155.length + l0_1.length < 8796093022208
  rotate_left
  · rw [if_neg c2] at H
    exact absurd H (by simp)
  rw [if_pos c2] at H
  have LMc2 := ofA c2
  clear c2
  obtain ⟨y158, hy158⟩ : ∃ y_ : List ByteArray, y_ = (y155 ++ l0_1) := ⟨_, rfl⟩
  replace H : (bellowslaw12_of.l0 k 0 l0_0 l0_1 ([] : List (S43)) y158) = some (r1, r2) := by first | (rw [hy158]; with_reducible exact H) | (have H2_ := (Option.bind_some _ _).symm.trans H; rw [hy158]; with_reducible exact H2_) | (have H2_ := (Option.bind_some _ _).symm.trans H; with_reducible exact H2_) | with_reducible exact H | (rw [hy158]; exact H) | exact H
  have Ny158 := ofA hy158
  clear hy158
  have H' := ofA H
  clear H
  go_enter Tryz.func6, Tryz.ntmps6
  go_wp2_with (first | ((with_reducible refine gate_dst (N := 1) rfl ?_); refine box_event ?hg (N := 1) ?hd (cs := #[.slice A0_0 l0_0.length c0_0, .slice A0_1 l0_1.length c0_1]) (t := 25) ?hr ?_; (case hd => rfl); (case hg => rfl); (case hr => first | (go_simp; done) | (go_simp; rfl)); intro gb153 hg w3 hbox hb; have n0 := ofA (below_step HB.out hb); have n1 := ofA (hbox); have n2 := ofA ((by rw [hg]; exact (below_size HB.out) : w.heap.size ≤ gb153)); have n3 := ofA ((by rw [hg]; exact (below_size HB.out) : w.heap.size ≤ gb153)); clear HB; have HB := n0; have BK153 := n1; have GW153 := n2; have GE153 := n3; clear n0 n1 n2 n3; clear hb hbox hg) | ((with_reducible refine gate_dst (N := 2) rfl ?_); refine box_event ?hg (N := 2) ?hd (cs := #[.slice none 0 0, .slice none 0 0]) (t := 32) ?hr ?_; (case hd => rfl); (case hg => rfl); (case hr => first | (go_simp; done) | (go_simp; rfl)); intro gb154 hg w4 hbox hb; have n0 := ofA (blk_below BK153.out hb); have n1 := ofA (below_step HB.out hb); have n2 := ofA (hbox); have n3 := ofA ((by rw [hg]; exact (below_size HB.out) : w.heap.size ≤ gb154)); have n4 := ofA ((by rw [hg]; exact (below_size HB.out) : w.heap.size ≤ gb154)); have n5 := ofA ((by rw [hg]; exact Nat.ne_of_lt (blk_lt BK153.out) : gb153 ≠ gb154)); have n6 := ofA ((by rw [hg]; exact Nat.ne_of_gt (blk_lt BK153.out) : gb154 ≠ gb153)); clear BK153; clear HB; have BK153 := n0; have HB := n1; have BK154 := n2; have GW154 := n3; have GE154 := n4; have NB153_154 := n5; have NB154_153 := n6; clear n0 n1 n2 n3 n4 n5 n6; clear hb hbox hg) | ((with_reducible refine gate_dst (N := 6) rfl ?_); refine Kd.R_lit Kd.string _ 9 ?hg (N := 6) ?hd (xs := ([] : List ByteArray)) (inner := []) (ok := fun _ => True) (okp := fun _ => True) ?hr ?hp (fun _ hk => hk) trivial (Below.refl _ _) (Nat.le_refl _) (by simp) ?_; (case hd => rfl); (case hg => rfl); (case hr => first | (go_simp; done) | (go_simp; rfl)); (case hp => exact (Reps.none _ _)); intro v156 w5 ho6 hb hg_ hnew_; clear hg_ hnew_; (first | rw [← Ny155.out] at ho6 | (simp only [Int.reduceToNat] at ho6; rw [← Ny155.out] at ho6)); have n0 := ofA (Kd.R_lower ho6 (below_size HB.out)); have n1 := ofA (blk_below BK153.out hb); have n2 := ofA (blk_below BK154.out hb); have n3 := ofA (below_step HB.out hb); clear BK153; clear BK154; clear HB; have O25 := n0; have BK153 := n1; have BK154 := n2; have HB := n3; clear n0 n1 n2 n3; clear hb ho6; have hnb7 := NB153_154.out; have hnc7 := NB154_153.out; have hcz8_0 : w5.cell? ⟨gb153, 0, none⟩ = some (.slice A0_0 l0_0.length c0_0) := (blk_cell BK153.out 0).trans rfl; have hcz8_1 : w5.cell? ⟨gb153, 1, none⟩ = some (.slice A0_1 l0_1.length c0_1) := (blk_cell BK153.out 1).trans rfl; have hfz8_0 := blk_frozen BK153.out 0; have hfz8_1 := blk_frozen BK153.out 1) | ((with_reducible refine gate_builtin (b := .append) (xs := #[.tmp 6, .tmp 8]) rfl ?_); at_builtin; refine Kd.R_append_rows Kd.string (w0 := w) w.heap.size rfl (.tmp 6) (.tmp 8) 23 9 (.string ⟨#[]⟩) 16 rfl Tryz.underlying23 info9 rfl (by decide) (by omega) v156 y155 l0_1 _ _ _ (fun _ => True) (fun _ => False) rfl rfl ?aO ?aR (fun _ _ h => h) (fun _ h => h.elim) ?aF ?aB ?aS ?aL ?_; (case aR => repeat (first | exact (Kd.C_below HR0_1.out HB.out) | (with_reducible refine Kd.C_alloc ?_ _) | (with_reducible refine Kd.C_drewN ?_ _) | (with_reducible refine Kd.C_drew ?_))); (case aB => exact HB.out); (case aF => exact (fun _ _ => trivial)); (case aO => exact O25.out); (case aS => exact (below_size HB.out)); (case aL => have := LMc2.out; omega); intro v159 w9 ho hb hg hat; rw [← Ny158.out] at ho; have n0 := ofA (blk_grown BK153.out hg (Kd.R_ne O25.out BK153.out (by decide))); have n1 := ofA (blk_grown BK154.out hg (Kd.R_ne O25.out BK154.out (by decide))); have n2 := ofA (hb); have n3 := ofA (ho); clear BK153; clear BK154; clear HB; clear O25; have BK153 := n0; have BK154 := n1; have HB := n2; have O26 := n3; clear n0 n1 n2 n3; clear ho hb hg hat; obtain ⟨Ao10, co10, eo10⟩ := Kd.R_slice O26.out; subst eo10) | ((with_reducible refine gate_dst (N := 3) rfl ?_); refine box_event ?hg (N := 3) ?hd (cs := #[.slice none 0 0, .slice none 0 0]) (t := 32) ?hr ?_; (case hd => rfl); (case hg => rfl); (case hr => first | (go_simp; done) | (go_simp; rfl)); intro gb161 hg w11 hbox hb; have n0 := ofA (Kd.R_below O26.out hb); have n1 := ofA (blk_below BK153.out hb); have n2 := ofA (blk_below BK154.out hb); have n3 := ofA (below_step HB.out hb); have n4 := ofA (hbox); have n5 := ofA ((by rw [hg]; exact (below_size HB.out) : w.heap.size ≤ gb161)); have n6 := ofA ((by rw [hg]; exact (below_size HB.out) : w.heap.size ≤ gb161)); have n7 := ofA ((by rw [hg]; exact Nat.ne_of_lt (blk_lt BK153.out) : gb153 ≠ gb161)); have n8 := ofA ((by rw [hg]; exact Nat.ne_of_gt (blk_lt BK153.out) : gb161 ≠ gb153)); have n9 := ofA ((by rw [hg]; exact Nat.ne_of_lt (blk_lt BK154.out) : gb154 ≠ gb161)); have n10 := ofA ((by rw [hg]; exact Nat.ne_of_gt (blk_lt BK154.out) : gb161 ≠ gb154)); clear O26; clear BK153; clear BK154; clear HB; have O26 := n0; have BK153 := n1; have BK154 := n2; have HB := n3; have BK161 := n4; have GW161 := n5; have GE161 := n6; have NB153_161 := n7; have NB161_153 := n8; have NB154_161 := n9; have NB161_154 := n10; clear n0 n1 n2 n3 n4 n5 n6 n7 n8 n9 n10; clear hb hbox hg; have hnb12 := NB161_153.out; have hnc12 := NB153_161.out; have hnb13 := NB161_154.out; have hnc13 := NB154_161.out; have hcz14_0 : w11.cell? ⟨gb161, 0, none⟩ = some (.slice none 0 0) := (blk_cell BK161.out 0).trans rfl; have hcz14_1 : w11.cell? ⟨gb161, 1, none⟩ = some (.slice none 0 0) := (blk_cell BK161.out 1).trans rfl; have hfz14_0 := blk_frozen BK161.out 0; have hfz14_1 := blk_frozen BK161.out 1))
  go_loopg [4] k (fun kq v4 w' => ∃ (x4_1 : Int) (x162000_1 : List (S43)) (u162000 : Value), v4 = .int .i64 x4_1 ∧ Aside0 (bellowslaw12_of.l0 kq x4_1 l0_0 l0_1 x162000_1 y158 = some (r1, r2)) ∧ Aside0 (kq ≤ k) ∧ Aside0 (Kd.S k43 43 w' w.heap.size (fun k_ => Nb k_ ((.slice Ao10 y158.length co10))) u162000 x162000_1) ∧ Aside0 (Kd.R Kd.string 9 w' w.heap.size (fun _ => True) (.slice Ao10 y158.length co10) y158) ∧ Aside0 (w'.heap[gb153]? = some (.cells #[(.slice A0_0 l0_0.length c0_0), (.slice A0_1 l0_1.length c0_1)] 25 (0, 0))) ∧ Aside0 (w'.heap[gb154]? = some (.cells #[(.slice none 0 0), (.slice none 0 0)] 32 (0, 0))) ∧ Aside0 (w'.heap[gb161]? = some (.cells #[u162000, (.slice Ao10 y158.length co10)] 32 (0, 0))) ∧ Aside0 (Below w.heap.size w w'))
  case atStart => exact ⟨(0), (([] : List (S43))), (.slice none 0 0), (by first | rfl | (simp; done) | (simp [*]; done)), H', ⟨Nat.le_refl _⟩, ⟨by first | exact Kd.S_nil _ _ _ _ _ | exact Kd.N_nil _ _ _ _ _ | exact Kd.V_nil _ _ _ _ _ | exact Kd.Q_nil _ _ _ _ _ | exact Kd.R_nil _ _ _ _ _⟩, ⟨by (with_reducible repeat (first | apply Kd.R_alloc | apply Kd.R_drewN | apply Kd.R_drew)); exact Kd.R_mono (Kd.R_far (p := ⟨gb161, 1, none⟩) (Kd.R_far (p := ⟨gb161, 0, none⟩) (Kd.R_types O26.out BK161.out (by decide)) (fun _ hk => hk.2) (.slice none 0 0)) (fun _ hk => hk.2) (.slice Ao10 y158.length co10)) (fun _ hk => trivial)⟩, ⟨by (with_reducible repeat (first | refine blk_drewN ?_ _ | refine blk_drew ?_ | refine blk_alloc ?_ _)); refine blk_far ?_ NB153_161.out _; (with_reducible repeat (first | refine blk_drewN ?_ _ | refine blk_drew ?_ | refine blk_alloc ?_ _)); refine blk_far ?_ NB153_161.out _; (with_reducible repeat (first | refine blk_drewN ?_ _ | refine blk_drew ?_ | refine blk_alloc ?_ _)); exact BK153.out⟩, ⟨by (with_reducible repeat (first | refine blk_drewN ?_ _ | refine blk_drew ?_ | refine blk_alloc ?_ _)); refine blk_far ?_ NB154_161.out _; (with_reducible repeat (first | refine blk_drewN ?_ _ | refine blk_drew ?_ | refine blk_alloc ?_ _)); refine blk_far ?_ NB154_161.out _; (with_reducible repeat (first | refine blk_drewN ?_ _ | refine blk_drew ?_ | refine blk_alloc ?_ _)); exact BK154.out⟩, ⟨by (with_reducible repeat (first | refine blk_drewN ?_ _ | refine blk_drew ?_ | refine blk_alloc ?_ _)); refine blk_put (cs := #[.slice none 0 0, .slice none 0 0]) ?_ 1 _ rfl; (with_reducible repeat (first | refine blk_drewN ?_ _ | refine blk_drew ?_ | refine blk_alloc ?_ _)); refine blk_put (cs := #[.slice none 0 0, .slice none 0 0]) ?_ 0 _ rfl; (with_reducible repeat (first | refine blk_drewN ?_ _ | refine blk_drew ?_ | refine blk_alloc ?_ _)); exact BK161.out⟩, ⟨by repeat (first | (with_reducible first | exact HB.out | apply below_alloc | apply pw_below_drewN | apply below_drew1 | refine below_set ?_ GE153.out | refine below_set ?_ GE154.out | refine below_set ?_ GE161.out) | exact HB.out)⟩⟩
  case round =>
    clear H'
    try clear c1
    try clear c2
    try clear p2
    try clear c6
    try clear c7
    try clear c12
    try clear c13
    try clear hcz14_0
    try clear hcz14_1
    try clear hcz8_0
    try clear hcz8_1
    try clear hfz14_0
    try clear hfz14_1
    try clear hfz8_0
    try clear hfz8_1
    obtain ⟨x4_1, x162000_1, u162000, rfl, HA, HK1, O13, O14, BK153, BK154, BK161, HB⟩ := hrel
    cases gk with
    | zero => exact absurd HA.out (by simp [bellowslaw12_of.l0])
    | succ k1 =>
      have H := HA.out
      clear HA
      simp only [bellowslaw12_of.l0] at H
      by_cases c15 : x4_1 < (l0_0.length : Int)
      · rw [if_pos c15] at H
        have c15b0 : decide (x4_1 < (l0_0.length : Int)) = true := decide_eq_true c15
        clear c15
        by_cases c16 : 0 ≤ x4_1
        rotate_left
        · rw [if_neg c16] at H
          exact absurd H (by simp)
        rw [if_pos c16] at H
        have c16b0 : decide (0 ≤ x4_1) = true := decide_eq_true c16
        clear c16
        obtain ⟨y164, hy164⟩ : ∃ y_ : List ByteArray, y_ = (([] : List ByteArray)) := ⟨_, rfl⟩
        replace H : (if y164.length + ((rd_T38 l0_0 x4_1).f0).length < 8796093022208 then ((some (([] : List ByteArray) : List ByteArray)).bind fun y170 => (if y170.length + ((rd_T38 l0_0 x4_1).f1).length < 8796093022208 then ((some (([] : List ByteArray) : List ByteArray)).bind fun y176 => (if y176.length + ((rd_T38 l0_0 x4_1).f2).length < 8796093022208 then ((some (([] : List ByteArray) : List ByteArray)).bind fun y182 => (if y182.length + ((rd_T38 l0_0 x4_1).f3).length < 8796093022208 then (if x162000_1.length < 1099511627776 then (bellowslaw12_of.l0 k1 (wrap64 (x4_1 + 1)) l0_0 l0_1 (x162000_1 ++ [(⟨(y164 ++ ((rd_T38 l0_0 x4_1).f0)), (y170 ++ ((rd_T38 l0_0 x4_1).f1)), (y176 ++ ((rd_T38 l0_0 x4_1).f2)), (y182 ++ ((rd_T38 l0_0 x4_1).f3)), (rd_T38 l0_0 x4_1).f4, (rd_T38 l0_0 x4_1).f5⟩ : S43)]) y158) else (none)) else (none))) else (none))) else (none))) else (none)) = some (r1, r2) := by first | (rw [hy164]; with_reducible exact H) | (have H2_ := (Option.bind_some _ _).symm.trans H; rw [hy164]; with_reducible exact H2_) | (have H2_ := (Option.bind_some _ _).symm.trans H; with_reducible exact H2_) | with_reducible exact H | (rw [hy164]; exact H) | exact H
        have Ny164 := ofA hy164
        clear hy164
        by_cases c17 : y164.length + ((rd_T38 l0_0 x4_1).f0).length < 8796093022208
        rotate_left
        · rw [if_neg c17] at H
          exact absurd H (by simp)
        rw [if_pos c17] at H
        have LMc17 := ofA c17
        clear c17
        obtain ⟨y167, hy167⟩ : ∃ y_ : List ByteArray, y_ = (y164 ++ ((rd_T38 l0_0 x4_1).f0)) := ⟨_, rfl⟩
        replace H : ((some (([] : List ByteArray) : List ByteArray)).bind fun y170 => (if y170.length + ((rd_T38 l0_0 x4_1).f1).length < 8796093022208 then ((some (([] : List ByteArray) : List ByteArray)).bind fun y176 => (if y176.length + ((rd_T38 l0_0 x4_1).f2).length < 8796093022208 then ((some (([] : List ByteArray) : List ByteArray)).bind fun y182 => (if y182.length + ((rd_T38 l0_0 x4_1).f3).length < 8796093022208 then (if x162000_1.length < 1099511627776 then (bellowslaw12_of.l0 k1 (wrap64 (x4_1 + 1)) l0_0 l0_1 (x162000_1 ++ [(⟨y167, (y170 ++ ((rd_T38 l0_0 x4_1).f1)), (y176 ++ ((rd_T38 l0_0 x4_1).f2)), (y182 ++ ((rd_T38 l0_0 x4_1).f3)), (rd_T38 l0_0 x4_1).f4, (rd_T38 l0_0 x4_1).f5⟩ : S43)]) y158) else (none)) else (none))) else (none))) else (none))) = some (r1, r2) := by first | (rw [hy167]; with_reducible exact H) | (have H2_ := (Option.bind_some _ _).symm.trans H; rw [hy167]; with_reducible exact H2_) | (have H2_ := (Option.bind_some _ _).symm.trans H; with_reducible exact H2_) | with_reducible exact H | (rw [hy167]; exact H) | exact H
        have Ny167 := ofA hy167
        clear hy167
        obtain ⟨y170, hy170⟩ : ∃ y_ : List ByteArray, y_ = (([] : List ByteArray)) := ⟨_, rfl⟩
        replace H : (if y170.length + ((rd_T38 l0_0 x4_1).f1).length < 8796093022208 then ((some (([] : List ByteArray) : List ByteArray)).bind fun y176 => (if y176.length + ((rd_T38 l0_0 x4_1).f2).length < 8796093022208 then ((some (([] : List ByteArray) : List ByteArray)).bind fun y182 => (if y182.length + ((rd_T38 l0_0 x4_1).f3).length < 8796093022208 then (if x162000_1.length < 1099511627776 then (bellowslaw12_of.l0 k1 (wrap64 (x4_1 + 1)) l0_0 l0_1 (x162000_1 ++ [(⟨y167, (y170 ++ ((rd_T38 l0_0 x4_1).f1)), (y176 ++ ((rd_T38 l0_0 x4_1).f2)), (y182 ++ ((rd_T38 l0_0 x4_1).f3)), (rd_T38 l0_0 x4_1).f4, (rd_T38 l0_0 x4_1).f5⟩ : S43)]) y158) else (none)) else (none))) else (none))) else (none)) = some (r1, r2) := by first | (rw [hy170]; with_reducible exact H) | (have H2_ := (Option.bind_some _ _).symm.trans H; rw [hy170]; with_reducible exact H2_) | (have H2_ := (Option.bind_some _ _).symm.trans H; with_reducible exact H2_) | with_reducible exact H | (rw [hy170]; exact H) | exact H
        have Ny170 := ofA hy170
        clear hy170
        by_cases c18 : y170.length + ((rd_T38 l0_0 x4_1).f1).length < 8796093022208
        rotate_left
        · rw [if_neg c18] at H
          exact absurd H (by simp)
        rw [if_pos c18] at H
        have LMc18 := ofA c18
        clear c18
        obtain ⟨y173, hy173⟩ : ∃ y_ : List ByteArray, y_ = (y170 ++ ((rd_T38 l0_0 x4_1).f1)) := ⟨_, rfl⟩
        replace H : ((some (([] : List ByteArray) : List ByteArray)).bind fun y176 => (if y176.length + ((rd_T38 l0_0 x4_1).f2).length < 8796093022208 then ((some (([] : List ByteArray) : List ByteArray)).bind fun y182 => (if y182.length + ((rd_T38 l0_0 x4_1).f3).length < 8796093022208 then (if x162000_1.length < 1099511627776 then (bellowslaw12_of.l0 k1 (wrap64 (x4_1 + 1)) l0_0 l0_1 (x162000_1 ++ [(⟨y167, y173, (y176 ++ ((rd_T38 l0_0 x4_1).f2)), (y182 ++ ((rd_T38 l0_0 x4_1).f3)), (rd_T38 l0_0 x4_1).f4, (rd_T38 l0_0 x4_1).f5⟩ : S43)]) y158) else (none)) else (none))) else (none))) = some (r1, r2) := by first | (rw [hy173]; with_reducible exact H) | (have H2_ := (Option.bind_some _ _).symm.trans H; rw [hy173]; with_reducible exact H2_) | (have H2_ := (Option.bind_some _ _).symm.trans H; with_reducible exact H2_) | with_reducible exact H | (rw [hy173]; exact H) | exact H
        have Ny173 := ofA hy173
        clear hy173
        obtain ⟨y176, hy176⟩ : ∃ y_ : List ByteArray, y_ = (([] : List ByteArray)) := ⟨_, rfl⟩
        replace H : (if y176.length + ((rd_T38 l0_0 x4_1).f2).length < 8796093022208 then ((some (([] : List ByteArray) : List ByteArray)).bind fun y182 => (if y182.length + ((rd_T38 l0_0 x4_1).f3).length < 8796093022208 then (if x162000_1.length < 1099511627776 then (bellowslaw12_of.l0 k1 (wrap64 (x4_1 + 1)) l0_0 l0_1 (x162000_1 ++ [(⟨y167, y173, (y176 ++ ((rd_T38 l0_0 x4_1).f2)), (y182 ++ ((rd_T38 l0_0 x4_1).f3)), (rd_T38 l0_0 x4_1).f4, (rd_T38 l0_0 x4_1).f5⟩ : S43)]) y158) else (none)) else (none))) else (none)) = some (r1, r2) := by first | (rw [hy176]; with_reducible exact H) | (have H2_ := (Option.bind_some _ _).symm.trans H; rw [hy176]; with_reducible exact H2_) | (have H2_ := (Option.bind_some _ _).symm.trans H; with_reducible exact H2_) | with_reducible exact H | (rw [hy176]; exact H) | exact H
        have Ny176 := ofA hy176
        clear hy176
        by_cases c19 : y176.length + ((rd_T38 l0_0 x4_1).f2).length < 8796093022208
        rotate_left
        · rw [if_neg c19] at H
          exact absurd H (by simp)
        rw [if_pos c19] at H
        have LMc19 := ofA c19
        clear c19
        obtain ⟨y179, hy179⟩ : ∃ y_ : List ByteArray, y_ = (y176 ++ ((rd_T38 l0_0 x4_1).f2)) := ⟨_, rfl⟩
        replace H : ((some (([] : List ByteArray) : List ByteArray)).bind fun y182 => (if y182.length + ((rd_T38 l0_0 x4_1).f3).length < 8796093022208 then (if x162000_1.length < 1099511627776 then (bellowslaw12_of.l0 k1 (wrap64 (x4_1 + 1)) l0_0 l0_1 (x162000_1 ++ [(⟨y167, y173, y179, (y182 ++ ((rd_T38 l0_0 x4_1).f3)), (rd_T38 l0_0 x4_1).f4, (rd_T38 l0_0 x4_1).f5⟩ : S43)]) y158) else (none)) else (none))) = some (r1, r2) := by first | (rw [hy179]; with_reducible exact H) | (have H2_ := (Option.bind_some _ _).symm.trans H; rw [hy179]; with_reducible exact H2_) | (have H2_ := (Option.bind_some _ _).symm.trans H; with_reducible exact H2_) | with_reducible exact H | (rw [hy179]; exact H) | exact H
        have Ny179 := ofA hy179
        clear hy179
        obtain ⟨y182, hy182⟩ : ∃ y_ : List ByteArray, y_ = (([] : List ByteArray)) := ⟨_, rfl⟩
        replace H : (if y182.length + ((rd_T38 l0_0 x4_1).f3).length < 8796093022208 then (if x162000_1.length < 1099511627776 then (bellowslaw12_of.l0 k1 (wrap64 (x4_1 + 1)) l0_0 l0_1 (x162000_1 ++ [(⟨y167, y173, y179, (y182 ++ ((rd_T38 l0_0 x4_1).f3)), (rd_T38 l0_0 x4_1).f4, (rd_T38 l0_0 x4_1).f5⟩ : S43)]) y158) else (none)) else (none)) = some (r1, r2) := by first | (rw [hy182]; with_reducible exact H) | (have H2_ := (Option.bind_some _ _).symm.trans H; rw [hy182]; with_reducible exact H2_) | (have H2_ := (Option.bind_some _ _).symm.trans H; with_reducible exact H2_) | with_reducible exact H | (rw [hy182]; exact H) | exact H
        have Ny182 := ofA hy182
        clear hy182
        by_cases c20 : y182.length + ((rd_T38 l0_0 x4_1).f3).length < 8796093022208
        rotate_left
        · rw [if_neg c20] at H
          exact absurd H (by simp)
        rw [if_pos c20] at H
        have LMc20 := ofA c20
        clear c20
        obtain ⟨y185, hy185⟩ : ∃ y_ : List ByteArray, y_ = (y182 ++ ((rd_T38 l0_0 x4_1).f3)) := ⟨_, rfl⟩
        replace H : (if x162000_1.length < 1099511627776 then (bellowslaw12_of.l0 k1 (wrap64 (x4_1 + 1)) l0_0 l0_1 (x162000_1 ++ [(⟨y167, y173, y179, y185, (rd_T38 l0_0 x4_1).f4, (rd_T38 l0_0 x4_1).f5⟩ : S43)]) y158) else (none)) = some (r1, r2) := by first | (rw [hy185]; with_reducible exact H) | (have H2_ := (Option.bind_some _ _).symm.trans H; rw [hy185]; with_reducible exact H2_) | (have H2_ := (Option.bind_some _ _).symm.trans H; with_reducible exact H2_) | with_reducible exact H | (rw [hy185]; exact H) | exact H
        have Ny185 := ofA hy185
        clear hy185
        by_cases c21 : x162000_1.length < 1099511627776
        rotate_left
        · rw [if_neg c21] at H
          exact absurd H (by simp)
        rw [if_pos c21] at H
        have LMc21 := ofA c21
        clear c21
        obtain ⟨y188, hy188⟩ : ∃ y_ : List (S43), y_ = (x162000_1 ++ [(⟨y167, y173, y179, y185, (rd_T38 l0_0 x4_1).f4, (rd_T38 l0_0 x4_1).f5⟩ : S43)]) := ⟨_, rfl⟩
        replace H : (bellowslaw12_of.l0 k1 (wrap64 (x4_1 + 1)) l0_0 l0_1 y188 y158) = some (r1, r2) := by first | (rw [hy188]; with_reducible exact H) | (have H2_ := (Option.bind_some _ _).symm.trans H; rw [hy188]; with_reducible exact H2_) | (have H2_ := (Option.bind_some _ _).symm.trans H; with_reducible exact H2_) | with_reducible exact H | (rw [hy188]; exact H) | exact H
        have Ny188 := ofA hy188
        clear hy188
        have H' := ofA H
        clear H
        have hnb22 := NB153_154.out
        have hnc22 := NB154_153.out
        have hnb23 := NB153_161.out
        have hnc23 := NB161_153.out
        have hcz24_0 : wr.cell? ⟨gb153, 0, none⟩ = some (.slice A0_0 l0_0.length c0_0) := (blk_cell BK153.out 0).trans rfl
        have hcz24_1 : wr.cell? ⟨gb153, 1, none⟩ = some (.slice A0_1 l0_1.length c0_1) := (blk_cell BK153.out 1).trans rfl
        have hfz24_0 := blk_frozen BK153.out 0
        have hfz24_1 := blk_frozen BK153.out 1
        have p162 : 0 ≤ (x4_1 : Int) := of_decide_eq_true (by first | (with_reducible assumption) | assumption)
        have q162 : x4_1 < (l0_0.length : Int) := of_decide_eq_true (by first | (with_reducible assumption) | assumption)
        obtain ⟨ad162, A162_0, c162_0, A162_1, c162_1, A162_2, c162_2, A162_3, c162_3, e162, hx162_0, hx162_1, hx162_2, hx162_3, hx162_4, hx162_5, hl162_0, hi162_0, hl162_1, hi162_1, hl162_2, hi162_2, hl162_3, hi162_3⟩ := at_T38 HR0_0.out x4_1 p162 q162
        cases e162
        replace hx162_0 := (HB.out.cell (World.block_lt_of_cell? w _ hx162_0)).trans hx162_0; replace hx162_1 := (HB.out.cell (World.block_lt_of_cell? w _ hx162_1)).trans hx162_1; replace hx162_2 := (HB.out.cell (World.block_lt_of_cell? w _ hx162_2)).trans hx162_2; replace hx162_3 := (HB.out.cell (World.block_lt_of_cell? w _ hx162_3)).trans hx162_3; replace hx162_4 := (HB.out.cell (World.block_lt_of_cell? w _ hx162_4)).trans hx162_4; replace hx162_5 := (HB.out.cell (World.block_lt_of_cell? w _ hx162_5)).trans hx162_5
        have HR162_0 := ofA hi162_0
        have HC162_0 := ofA hl162_0
        clear hi162_0 hl162_0
        have HR162_1 := ofA hi162_1
        have HC162_1 := ofA hl162_1
        clear hi162_1 hl162_1
        have HR162_2 := ofA hi162_2
        have HC162_2 := ofA hl162_2
        clear hi162_2 hl162_2
        have HR162_3 := ofA hi162_3
        have HC162_3 := ofA hl162_3
        clear hi162_3 hl162_3; replace p162 := eq_true p162; replace q162 := eq_true q162
        try go_wp2_with (first | ((with_reducible refine gate_dst (N := 5) rfl ?_); refine box_event ?hg (N := 5) ?hd (cs := #[.slice none 0 0, .slice none 0 0, .slice none 0 0, .slice none 0 0, .string (⟨#[]⟩ : ByteArray), .string (⟨#[]⟩ : ByteArray)]) (t := 38) ?hr ?_; (case hd => rfl); (case hg => rfl); (case hr => first | (go_simp; done) | (go_simp; rfl)); intro gb163 hg w25 hbox hb; have n0 := ofA (Kd.S_below O13.out hb); have n1 := ofA (Kd.R_below O14.out hb); have n2 := ofA (blk_below BK153.out hb); have n3 := ofA (blk_below BK154.out hb); have n4 := ofA (blk_below BK161.out hb); have n5 := ofA (below_step HB.out hb); have n6 := ofA (hbox); have n7 := ofA ((by rw [hg]; exact (below_size HB.out) : w.heap.size ≤ gb163)); have n8 := ofA ((by rw [hg]; exact (below_size HB.out) : w.heap.size ≤ gb163)); have n9 := ofA ((by rw [hg]; exact Nat.ne_of_lt (blk_lt BK153.out) : gb153 ≠ gb163)); have n10 := ofA ((by rw [hg]; exact Nat.ne_of_gt (blk_lt BK153.out) : gb163 ≠ gb153)); have n11 := ofA ((by rw [hg]; exact Nat.ne_of_lt (blk_lt BK154.out) : gb154 ≠ gb163)); have n12 := ofA ((by rw [hg]; exact Nat.ne_of_gt (blk_lt BK154.out) : gb163 ≠ gb154)); have n13 := ofA ((by rw [hg]; exact Nat.ne_of_lt (blk_lt BK161.out) : gb161 ≠ gb163)); have n14 := ofA ((by rw [hg]; exact Nat.ne_of_gt (blk_lt BK161.out) : gb163 ≠ gb161)); clear O13; clear O14; clear BK153; clear BK154; clear BK161; clear HB; have O13 := n0; have O14 := n1; have BK153 := n2; have BK154 := n3; have BK161 := n4; have HB := n5; have BK163 := n6; have GW163 := n7; have GE163 := n8; have NB153_163 := n9; have NB163_153 := n10; have NB154_163 := n11; have NB163_154 := n12; have NB161_163 := n13; have NB163_161 := n14; clear n0 n1 n2 n3 n4 n5 n6 n7 n8 n9 n10 n11 n12 n13 n14; clear hb hbox hg; have hnb26 := NB163_153.out; have hnc26 := NB153_163.out; have hnb27 := NB163_154.out; have hnc27 := NB154_163.out; have hnb28 := NB163_161.out; have hnc28 := NB161_163.out; have hcz29_0 : w25.cell? ⟨gb163, 0, none⟩ = some (.slice none 0 0) := (blk_cell BK163.out 0).trans rfl; have hcz29_1 : w25.cell? ⟨gb163, 1, none⟩ = some (.slice none 0 0) := (blk_cell BK163.out 1).trans rfl; have hcz29_2 : w25.cell? ⟨gb163, 2, none⟩ = some (.slice none 0 0) := (blk_cell BK163.out 2).trans rfl; have hcz29_3 : w25.cell? ⟨gb163, 3, none⟩ = some (.slice none 0 0) := (blk_cell BK163.out 3).trans rfl; have hcz29_4 : w25.cell? ⟨gb163, 4, none⟩ = some (.string (⟨#[]⟩ : ByteArray)) := (blk_cell BK163.out 4).trans rfl; have hcz29_5 : w25.cell? ⟨gb163, 5, none⟩ = some (.string (⟨#[]⟩ : ByteArray)) := (blk_cell BK163.out 5).trans rfl; have hfz29_0 := blk_frozen BK163.out 0; have hfz29_1 := blk_frozen BK163.out 1; have hfz29_2 := blk_frozen BK163.out 2; have hfz29_3 := blk_frozen BK163.out 3; have hfz29_4 := blk_frozen BK163.out 4; have hfz29_5 := blk_frozen BK163.out 5; obtain ⟨Ao30, co30, eo30⟩ := Kd.S_slice O13.out; subst eo30))
        have n0 : Aside0 (Kd.S k43 43 ((((((w25.setCell ⟨gb163, 0, none⟩ (.slice A162_0 ((rd_T38 l0_0 x4_1).f0).length c162_0)).setCell ⟨gb163, 1, none⟩ (.slice A162_1 ((rd_T38 l0_0 x4_1).f1).length c162_1)).setCell ⟨gb163, 2, none⟩ (.slice A162_2 ((rd_T38 l0_0 x4_1).f2).length c162_2)).setCell ⟨gb163, 3, none⟩ (.slice A162_3 ((rd_T38 l0_0 x4_1).f3).length c162_3)).setCell ⟨gb163, 4, none⟩ (.string ((rd_T38 l0_0 x4_1).f4))).setCell ⟨gb163, 5, none⟩ (.string ((rd_T38 l0_0 x4_1).f5))) w.heap.size (fun k_ => Nb k_ (.slice Ao10 y158.length co10)) (.slice Ao30 x162000_1.length co30) x162000_1) := ⟨by (with_reducible repeat (first | apply Kd.S_alloc | apply Kd.S_drewN | apply Kd.S_drew)); exact Kd.S_mono (Kd.S_far (p := ⟨gb163, 5, none⟩) (Kd.S_far (p := ⟨gb163, 4, none⟩) (Kd.S_far (p := ⟨gb163, 3, none⟩) (Kd.S_far (p := ⟨gb163, 2, none⟩) (Kd.S_far (p := ⟨gb163, 1, none⟩) (Kd.S_far (p := ⟨gb163, 0, none⟩) (Kd.S_types O13.out BK163.out (by decide)) (fun _ hk => hk.2) (.slice A162_0 ((rd_T38 l0_0 x4_1).f0).length c162_0)) (fun _ hk => hk.2) (.slice A162_1 ((rd_T38 l0_0 x4_1).f1).length c162_1)) (fun _ hk => hk.2) (.slice A162_2 ((rd_T38 l0_0 x4_1).f2).length c162_2)) (fun _ hk => hk.2) (.slice A162_3 ((rd_T38 l0_0 x4_1).f3).length c162_3)) (fun _ hk => hk.2) (.string ((rd_T38 l0_0 x4_1).f4))) (fun _ hk => hk.2) (.string ((rd_T38 l0_0 x4_1).f5))) (fun _ hk => hk.1)⟩
        have n1 : Aside0 (Kd.R Kd.string 9 ((((((w25.setCell ⟨gb163, 0, none⟩ (.slice A162_0 ((rd_T38 l0_0 x4_1).f0).length c162_0)).setCell ⟨gb163, 1, none⟩ (.slice A162_1 ((rd_T38 l0_0 x4_1).f1).length c162_1)).setCell ⟨gb163, 2, none⟩ (.slice A162_2 ((rd_T38 l0_0 x4_1).f2).length c162_2)).setCell ⟨gb163, 3, none⟩ (.slice A162_3 ((rd_T38 l0_0 x4_1).f3).length c162_3)).setCell ⟨gb163, 4, none⟩ (.string ((rd_T38 l0_0 x4_1).f4))).setCell ⟨gb163, 5, none⟩ (.string ((rd_T38 l0_0 x4_1).f5))) w.heap.size (fun _ => True) (.slice Ao10 y158.length co10) y158) := ⟨by (with_reducible repeat (first | apply Kd.R_alloc | apply Kd.R_drewN | apply Kd.R_drew)); exact Kd.R_mono (Kd.R_far (p := ⟨gb163, 5, none⟩) (Kd.R_far (p := ⟨gb163, 4, none⟩) (Kd.R_far (p := ⟨gb163, 3, none⟩) (Kd.R_far (p := ⟨gb163, 2, none⟩) (Kd.R_far (p := ⟨gb163, 1, none⟩) (Kd.R_far (p := ⟨gb163, 0, none⟩) (Kd.R_types O14.out BK163.out (by decide)) (fun _ hk => hk.2) (.slice A162_0 ((rd_T38 l0_0 x4_1).f0).length c162_0)) (fun _ hk => hk.2) (.slice A162_1 ((rd_T38 l0_0 x4_1).f1).length c162_1)) (fun _ hk => hk.2) (.slice A162_2 ((rd_T38 l0_0 x4_1).f2).length c162_2)) (fun _ hk => hk.2) (.slice A162_3 ((rd_T38 l0_0 x4_1).f3).length c162_3)) (fun _ hk => hk.2) (.string ((rd_T38 l0_0 x4_1).f4))) (fun _ hk => hk.2) (.string ((rd_T38 l0_0 x4_1).f5))) (fun _ hk => trivial)⟩
        have n2 : Aside0 (((((((w25.setCell ⟨gb163, 0, none⟩ (.slice A162_0 ((rd_T38 l0_0 x4_1).f0).length c162_0)).setCell ⟨gb163, 1, none⟩ (.slice A162_1 ((rd_T38 l0_0 x4_1).f1).length c162_1)).setCell ⟨gb163, 2, none⟩ (.slice A162_2 ((rd_T38 l0_0 x4_1).f2).length c162_2)).setCell ⟨gb163, 3, none⟩ (.slice A162_3 ((rd_T38 l0_0 x4_1).f3).length c162_3)).setCell ⟨gb163, 4, none⟩ (.string ((rd_T38 l0_0 x4_1).f4))).setCell ⟨gb163, 5, none⟩ (.string ((rd_T38 l0_0 x4_1).f5))).heap[gb153]? = some (.cells #[.slice (some ad162) l0_0.length c0_0, .slice A0_1 l0_1.length c0_1] 25 (0, 0))) := ⟨by (with_reducible repeat (first | refine blk_drewN ?_ _ | refine blk_drew ?_ | refine blk_alloc ?_ _)); refine blk_far ?_ NB153_163.out _; (with_reducible repeat (first | refine blk_drewN ?_ _ | refine blk_drew ?_ | refine blk_alloc ?_ _)); refine blk_far ?_ NB153_163.out _; (with_reducible repeat (first | refine blk_drewN ?_ _ | refine blk_drew ?_ | refine blk_alloc ?_ _)); refine blk_far ?_ NB153_163.out _; (with_reducible repeat (first | refine blk_drewN ?_ _ | refine blk_drew ?_ | refine blk_alloc ?_ _)); refine blk_far ?_ NB153_163.out _; (with_reducible repeat (first | refine blk_drewN ?_ _ | refine blk_drew ?_ | refine blk_alloc ?_ _)); refine blk_far ?_ NB153_163.out _; (with_reducible repeat (first | refine blk_drewN ?_ _ | refine blk_drew ?_ | refine blk_alloc ?_ _)); refine blk_far ?_ NB153_163.out _; (with_reducible repeat (first | refine blk_drewN ?_ _ | refine blk_drew ?_ | refine blk_alloc ?_ _)); exact BK153.out⟩
        have n3 : Aside0 (((((((w25.setCell ⟨gb163, 0, none⟩ (.slice A162_0 ((rd_T38 l0_0 x4_1).f0).length c162_0)).setCell ⟨gb163, 1, none⟩ (.slice A162_1 ((rd_T38 l0_0 x4_1).f1).length c162_1)).setCell ⟨gb163, 2, none⟩ (.slice A162_2 ((rd_T38 l0_0 x4_1).f2).length c162_2)).setCell ⟨gb163, 3, none⟩ (.slice A162_3 ((rd_T38 l0_0 x4_1).f3).length c162_3)).setCell ⟨gb163, 4, none⟩ (.string ((rd_T38 l0_0 x4_1).f4))).setCell ⟨gb163, 5, none⟩ (.string ((rd_T38 l0_0 x4_1).f5))).heap[gb154]? = some (.cells #[.slice none 0 0, .slice none 0 0] 32 (0, 0))) := ⟨by (with_reducible repeat (first | refine blk_drewN ?_ _ | refine blk_drew ?_ | refine blk_alloc ?_ _)); refine blk_far ?_ NB154_163.out _; (with_reducible repeat (first | refine blk_drewN ?_ _ | refine blk_drew ?_ | refine blk_alloc ?_ _)); refine blk_far ?_ NB154_163.out _; (with_reducible repeat (first | refine blk_drewN ?_ _ | refine blk_drew ?_ | refine blk_alloc ?_ _)); refine blk_far ?_ NB154_163.out _; (with_reducible repeat (first | refine blk_drewN ?_ _ | refine blk_drew ?_ | refine blk_alloc ?_ _)); refine blk_far ?_ NB154_163.out _; (with_reducible repeat (first | refine blk_drewN ?_ _ | refine blk_drew ?_ | refine blk_alloc ?_ _)); refine blk_far ?_ NB154_163.out _; (with_reducible repeat (first | refine blk_drewN ?_ _ | refine blk_drew ?_ | refine blk_alloc ?_ _)); refine blk_far ?_ NB154_163.out _; (with_reducible repeat (first | refine blk_drewN ?_ _ | refine blk_drew ?_ | refine blk_alloc ?_ _)); exact BK154.out⟩
        have n4 : Aside0 (((((((w25.setCell ⟨gb163, 0, none⟩ (.slice A162_0 ((rd_T38 l0_0 x4_1).f0).length c162_0)).setCell ⟨gb163, 1, none⟩ (.slice A162_1 ((rd_T38 l0_0 x4_1).f1).length c162_1)).setCell ⟨gb163, 2, none⟩ (.slice A162_2 ((rd_T38 l0_0 x4_1).f2).length c162_2)).setCell ⟨gb163, 3, none⟩ (.slice A162_3 ((rd_T38 l0_0 x4_1).f3).length c162_3)).setCell ⟨gb163, 4, none⟩ (.string ((rd_T38 l0_0 x4_1).f4))).setCell ⟨gb163, 5, none⟩ (.string ((rd_T38 l0_0 x4_1).f5))).heap[gb161]? = some (.cells #[.slice Ao30 x162000_1.length co30, .slice Ao10 y158.length co10] 32 (0, 0))) := ⟨by (with_reducible repeat (first | refine blk_drewN ?_ _ | refine blk_drew ?_ | refine blk_alloc ?_ _)); refine blk_far ?_ NB161_163.out _; (with_reducible repeat (first | refine blk_drewN ?_ _ | refine blk_drew ?_ | refine blk_alloc ?_ _)); refine blk_far ?_ NB161_163.out _; (with_reducible repeat (first | refine blk_drewN ?_ _ | refine blk_drew ?_ | refine blk_alloc ?_ _)); refine blk_far ?_ NB161_163.out _; (with_reducible repeat (first | refine blk_drewN ?_ _ | refine blk_drew ?_ | refine blk_alloc ?_ _)); refine blk_far ?_ NB161_163.out _; (with_reducible repeat (first | refine blk_drewN ?_ _ | refine blk_drew ?_ | refine blk_alloc ?_ _)); refine blk_far ?_ NB161_163.out _; (with_reducible repeat (first | refine blk_drewN ?_ _ | refine blk_drew ?_ | refine blk_alloc ?_ _)); refine blk_far ?_ NB161_163.out _; (with_reducible repeat (first | refine blk_drewN ?_ _ | refine blk_drew ?_ | refine blk_alloc ?_ _)); exact BK161.out⟩
        have n5 : Aside0 (((((((w25.setCell ⟨gb163, 0, none⟩ (.slice A162_0 ((rd_T38 l0_0 x4_1).f0).length c162_0)).setCell ⟨gb163, 1, none⟩ (.slice A162_1 ((rd_T38 l0_0 x4_1).f1).length c162_1)).setCell ⟨gb163, 2, none⟩ (.slice A162_2 ((rd_T38 l0_0 x4_1).f2).length c162_2)).setCell ⟨gb163, 3, none⟩ (.slice A162_3 ((rd_T38 l0_0 x4_1).f3).length c162_3)).setCell ⟨gb163, 4, none⟩ (.string ((rd_T38 l0_0 x4_1).f4))).setCell ⟨gb163, 5, none⟩ (.string ((rd_T38 l0_0 x4_1).f5))).heap[gb163]? = some (.cells #[.slice A162_0 ((rd_T38 l0_0 x4_1).f0).length c162_0, .slice A162_1 ((rd_T38 l0_0 x4_1).f1).length c162_1, .slice A162_2 ((rd_T38 l0_0 x4_1).f2).length c162_2, .slice A162_3 ((rd_T38 l0_0 x4_1).f3).length c162_3, .string ((rd_T38 l0_0 x4_1).f4), .string ((rd_T38 l0_0 x4_1).f5)] 38 (0, 0))) := ⟨by (with_reducible repeat (first | refine blk_drewN ?_ _ | refine blk_drew ?_ | refine blk_alloc ?_ _)); refine blk_put (cs := #[.slice A162_0 ((rd_T38 l0_0 x4_1).f0).length c162_0, .slice A162_1 ((rd_T38 l0_0 x4_1).f1).length c162_1, .slice A162_2 ((rd_T38 l0_0 x4_1).f2).length c162_2, .slice A162_3 ((rd_T38 l0_0 x4_1).f3).length c162_3, .string ((rd_T38 l0_0 x4_1).f4), .string (⟨#[]⟩ : ByteArray)]) ?_ 5 _ rfl; (with_reducible repeat (first | refine blk_drewN ?_ _ | refine blk_drew ?_ | refine blk_alloc ?_ _)); refine blk_put (cs := #[.slice A162_0 ((rd_T38 l0_0 x4_1).f0).length c162_0, .slice A162_1 ((rd_T38 l0_0 x4_1).f1).length c162_1, .slice A162_2 ((rd_T38 l0_0 x4_1).f2).length c162_2, .slice A162_3 ((rd_T38 l0_0 x4_1).f3).length c162_3, .string (⟨#[]⟩ : ByteArray), .string (⟨#[]⟩ : ByteArray)]) ?_ 4 _ rfl; (with_reducible repeat (first | refine blk_drewN ?_ _ | refine blk_drew ?_ | refine blk_alloc ?_ _)); refine blk_put (cs := #[.slice A162_0 ((rd_T38 l0_0 x4_1).f0).length c162_0, .slice A162_1 ((rd_T38 l0_0 x4_1).f1).length c162_1, .slice A162_2 ((rd_T38 l0_0 x4_1).f2).length c162_2, .slice none 0 0, .string (⟨#[]⟩ : ByteArray), .string (⟨#[]⟩ : ByteArray)]) ?_ 3 _ rfl; (with_reducible repeat (first | refine blk_drewN ?_ _ | refine blk_drew ?_ | refine blk_alloc ?_ _)); refine blk_put (cs := #[.slice A162_0 ((rd_T38 l0_0 x4_1).f0).length c162_0, .slice A162_1 ((rd_T38 l0_0 x4_1).f1).length c162_1, .slice none 0 0, .slice none 0 0, .string (⟨#[]⟩ : ByteArray), .string (⟨#[]⟩ : ByteArray)]) ?_ 2 _ rfl; (with_reducible repeat (first | refine blk_drewN ?_ _ | refine blk_drew ?_ | refine blk_alloc ?_ _)); refine blk_put (cs := #[.slice A162_0 ((rd_T38 l0_0 x4_1).f0).length c162_0, .slice none 0 0, .slice none 0 0, .slice none 0 0, .string (⟨#[]⟩ : ByteArray), .string (⟨#[]⟩ : ByteArray)]) ?_ 1 _ rfl; (with_reducible repeat (first | refine blk_drewN ?_ _ | refine blk_drew ?_ | refine blk_alloc ?_ _)); refine blk_put (cs := #[.slice none 0 0, .slice none 0 0, .slice none 0 0, .slice none 0 0, .string (⟨#[]⟩ : ByteArray), .string (⟨#[]⟩ : ByteArray)]) ?_ 0 _ rfl; (with_reducible repeat (first | refine blk_drewN ?_ _ | refine blk_drew ?_ | refine blk_alloc ?_ _)); exact BK163.out⟩
        have n6 : Aside0 (Below w.heap.size w ((((((w25.setCell ⟨gb163, 0, none⟩ (.slice A162_0 ((rd_T38 l0_0 x4_1).f0).length c162_0)).setCell ⟨gb163, 1, none⟩ (.slice A162_1 ((rd_T38 l0_0 x4_1).f1).length c162_1)).setCell ⟨gb163, 2, none⟩ (.slice A162_2 ((rd_T38 l0_0 x4_1).f2).length c162_2)).setCell ⟨gb163, 3, none⟩ (.slice A162_3 ((rd_T38 l0_0 x4_1).f3).length c162_3)).setCell ⟨gb163, 4, none⟩ (.string ((rd_T38 l0_0 x4_1).f4))).setCell ⟨gb163, 5, none⟩ (.string ((rd_T38 l0_0 x4_1).f5)))) := ⟨by repeat (first | (with_reducible first | exact HB.out | apply below_alloc | apply pw_below_drewN | apply below_drew1 | refine below_set ?_ GE153.out | refine below_set ?_ GE154.out | refine below_set ?_ GE161.out | refine below_set ?_ GE163.out) | exact HB.out)⟩
        (try clear O13); (try clear O14); (try clear BK153); (try clear BK154); (try clear BK161); (try clear BK163); (try clear HB)
        generalize ((((((w25.setCell ⟨gb163, 0, none⟩ (.slice A162_0 ((rd_T38 l0_0 x4_1).f0).length c162_0)).setCell ⟨gb163, 1, none⟩ (.slice A162_1 ((rd_T38 l0_0 x4_1).f1).length c162_1)).setCell ⟨gb163, 2, none⟩ (.slice A162_2 ((rd_T38 l0_0 x4_1).f2).length c162_2)).setCell ⟨gb163, 3, none⟩ (.slice A162_3 ((rd_T38 l0_0 x4_1).f3).length c162_3)).setCell ⟨gb163, 4, none⟩ (.string ((rd_T38 l0_0 x4_1).f4))).setCell ⟨gb163, 5, none⟩ (.string ((rd_T38 l0_0 x4_1).f5))) = w31 at n0 n1 n2 n3 n4 n5 n6 ⊢
        have O13 := n0; have O14 := n1; have BK153 := n2; have BK154 := n3; have BK161 := n4; have BK163 := n5; have HB := n6; clear n0 n1 n2 n3 n4 n5 n6; have n0 := ofA (Kd.S_drew O13.out); have n1 := ofA (Kd.R_drew O14.out); have n6 := ofA (below_drew1 HB.out); replace BK153 := ofA (blk_drew BK153.out); replace BK154 := ofA (blk_drew BK154.out); replace BK161 := ofA (blk_drew BK161.out); replace BK163 := ofA (blk_drew BK163.out); clear O13 O14 HB; have O13 := n0; have O14 := n1; have HB := n6; clear n0 n1 n6
        refine start_ (n := 27) (S := fun w' => ofH w' gb161 Ao30 x162000_1 co30 Ao10 y158 co10 gb163 A162_0 l0_0 x4_1 c162_0 A162_1 c162_1 A162_2 c162_2 A162_3 c162_3) (ds := [26]) #[false, false, false, false, false, false, false, false, false, false, false, false, false, false, false, false, false, false, false, false, false, false, false, false, false, false, false] (by kernel_rfl) rfl rfl (ofM BK161.out BK163.out) (fun hHeld => ?_); refine with_tabW bellowslaw12_of.tab6 bellowslaw12_of.bits6 (fun HT_ HW_ => ?_)
        generalize w31.drew = w32 at O13 O14 BK153 BK154 BK161 BK163 HB hHeld ⊢
        refine pure_ (i := 0) (N := some 23) (v := ?_) (a' := ?_) #[true, false, false, false, false, false, false, false, false, false, false, false, false, false, false, false, false, false, false, false, false, false, false, false, false, false, false] rfl rfl (any_of HT_.out (by kernel_rfl)) (fun _ _ _ h => h) (Or.inl ⟨by rfl, ?_⟩) ?_ ?_
        rotate_left
        · intro w'
          go_simp; with_reducible rfl
        rotate_left
        · simp only [Act.put, List.setIfInBounds_toArray, List.set_cons_zero, List.set_cons_succ, i64_w, i32_w]
          rfl
        refine pure_ (i := 3) (N := some 26) (v := ?_) (a' := ?_) #[true, false, false, true, false, false, false, false, false, false, false, false, false, false, false, false, false, false, false, false, false, false, false, false, false, false, false] rfl rfl (any_of HT_.out (by kernel_rfl)) (fun _ _ _ h => h) (Or.inl ⟨by rfl, ?_⟩) ?_ ?_
        rotate_left
        · intro w'
          go_simp; with_reducible rfl
        rotate_left
        · simp only [Act.put, List.setIfInBounds_toArray, List.set_cons_zero, List.set_cons_succ, i64_w, i32_w]
          rfl
        refine pure_ (i := 7) (N := some 30) (v := ?_) (a' := ?_) #[true, false, false, true, false, false, false, true, false, false, false, false, false, false, false, false, false, false, false, false, false, false, false, false, false, false, false] rfl rfl (any_of HT_.out (by kernel_rfl)) (fun _ _ _ h => h) (Or.inl ⟨by rfl, ?_⟩) ?_ ?_
        rotate_left
        · intro w'
          go_simp; with_reducible rfl
        rotate_left
        · simp only [Act.put, List.setIfInBounds_toArray, List.set_cons_zero, List.set_cons_succ, i64_w, i32_w]
          rfl
        refine pure_ (i := 11) (N := some 34) (v := ?_) (a' := ?_) #[true, false, false, true, false, false, false, true, false, false, false, true, false, false, false, false, false, false, false, false, false, false, false, false, false, false, false] rfl rfl (any_of HT_.out (by kernel_rfl)) (fun _ _ _ h => h) (Or.inl ⟨by rfl, ?_⟩) ?_ ?_
        rotate_left
        · intro w'
          go_simp; with_reducible rfl
        rotate_left
        · simp only [Act.put, List.setIfInBounds_toArray, List.set_cons_zero, List.set_cons_succ, i64_w, i32_w]
          rfl
        refine pure_ (i := 15) (N := some 38) (v := ?_) (a' := ?_) #[true, false, false, true, false, false, false, true, false, false, false, true, false, false, false, true, false, false, false, false, false, false, false, false, false, false, false] rfl rfl (any_of HT_.out (by kernel_rfl)) (fun _ _ _ h => h) (Or.inl ⟨by rfl, ?_⟩) ?_ ?_
        rotate_left
        · intro w'
          go_simp; with_reducible rfl
        rotate_left
        · simp only [Act.put, List.setIfInBounds_toArray, List.set_cons_zero, List.set_cons_succ, i64_w, i32_w]
          rfl
        refine pure_ (i := 18) (N := some 41) (v := ?_) (a' := ?_) #[true, false, false, true, false, false, false, true, false, false, false, true, false, false, false, true, false, false, true, false, false, false, false, false, false, false, false] rfl rfl (any_of HT_.out (by kernel_rfl)) (fun _ _ _ h => h) (Or.inl ⟨by rfl, ?_⟩) ?_ ?_
        rotate_left
        · intro w'
          go_simp; with_reducible rfl
        rotate_left
        · simp only [Act.put, List.setIfInBounds_toArray, List.set_cons_zero, List.set_cons_succ, i64_w, i32_w]
          rfl
        refine pure_ (i := 20) (N := some 43) (v := ?_) (a' := ?_) #[true, false, false, true, false, false, false, true, false, false, false, true, false, false, false, true, false, false, true, false, true, false, false, false, false, false, false] rfl rfl (any_of HT_.out (by kernel_rfl)) (fun _ _ _ h => h) (Or.inl ⟨by rfl, ?_⟩) ?_ ?_
        rotate_left
        · intro w'
          go_simp; with_reducible rfl
        rotate_left
        · simp only [Act.put, List.setIfInBounds_toArray, List.set_cons_zero, List.set_cons_succ, i64_w, i32_w]
          rfl
        refine take_ (i := 1) (N := some 24) (v := ?_) (a' := ?_) #[true, true, false, true, false, false, false, true, false, false, false, true, false, false, false, true, false, false, true, false, true, false, false, false, false, false, false] rfl rfl (take_ofW HT_.out HW_.out (by kernel_rfl)) (fun _ _ _ h => h) (Or.inl ⟨by rfl, ?_⟩) hHeld ?_ ?_
        rotate_left
        · rintro w' ⟨s0, s1, s2, s3, s4, s5, s6, s7⟩
          go_simp; with_reducible rfl
        rotate_left
        · simp only [Act.put, List.setIfInBounds_toArray, List.set_cons_zero, List.set_cons_succ, i64_w, i32_w]
          rfl
        refine take_ (i := 4) (N := some 27) (v := ?_) (a' := ?_) #[true, true, false, true, true, false, false, true, false, false, false, true, false, false, false, true, false, false, true, false, true, false, false, false, false, false, false] rfl rfl (take_ofW HT_.out HW_.out (by kernel_rfl)) (fun _ _ _ h => h) (Or.inl ⟨by rfl, ?_⟩) hHeld ?_ ?_
        rotate_left
        · rintro w' ⟨s0, s1, s2, s3, s4, s5, s6, s7⟩
          go_simp; with_reducible rfl
        rotate_left
        · simp only [Act.put, List.setIfInBounds_toArray, List.set_cons_zero, List.set_cons_succ, i64_w, i32_w]
          rfl
        refine take_ (i := 8) (N := some 31) (v := ?_) (a' := ?_) #[true, true, false, true, true, false, false, true, true, false, false, true, false, false, false, true, false, false, true, false, true, false, false, false, false, false, false] rfl rfl (take_ofW HT_.out HW_.out (by kernel_rfl)) (fun _ _ _ h => h) (Or.inl ⟨by rfl, ?_⟩) hHeld ?_ ?_
        rotate_left
        · rintro w' ⟨s0, s1, s2, s3, s4, s5, s6, s7⟩
          go_simp; with_reducible rfl
        rotate_left
        · simp only [Act.put, List.setIfInBounds_toArray, List.set_cons_zero, List.set_cons_succ, i64_w, i32_w]
          rfl
        refine take_ (i := 12) (N := some 35) (v := ?_) (a' := ?_) #[true, true, false, true, true, false, false, true, true, false, false, true, true, false, false, true, false, false, true, false, true, false, false, false, false, false, false] rfl rfl (take_ofW HT_.out HW_.out (by kernel_rfl)) (fun _ _ _ h => h) (Or.inl ⟨by rfl, ?_⟩) hHeld ?_ ?_
        rotate_left
        · rintro w' ⟨s0, s1, s2, s3, s4, s5, s6, s7⟩
          go_simp; with_reducible rfl
        rotate_left
        · simp only [Act.put, List.setIfInBounds_toArray, List.set_cons_zero, List.set_cons_succ, i64_w, i32_w]
          rfl
        refine take_ (i := 16) (N := some 39) (v := ?_) (a' := ?_) #[true, true, false, true, true, false, false, true, true, false, false, true, true, false, false, true, true, false, true, false, true, false, false, false, false, false, false] rfl rfl (take_ofW HT_.out HW_.out (by kernel_rfl)) (fun _ _ _ h => h) (Or.inl ⟨by rfl, ?_⟩) hHeld ?_ ?_
        rotate_left
        · rintro w' ⟨s0, s1, s2, s3, s4, s5, s6, s7⟩
          go_simp; with_reducible rfl
        rotate_left
        · simp only [Act.put, List.setIfInBounds_toArray, List.set_cons_zero, List.set_cons_succ, i64_w, i32_w]
          rfl
        refine take_ (i := 19) (N := some 42) (v := ?_) (a' := ?_) #[true, true, false, true, true, false, false, true, true, false, false, true, true, false, false, true, true, false, true, true, true, false, false, false, false, false, false] rfl rfl (take_ofW HT_.out HW_.out (by kernel_rfl)) (fun _ _ _ h => h) (Or.inl ⟨by rfl, ?_⟩) hHeld ?_ ?_
        rotate_left
        · rintro w' ⟨s0, s1, s2, s3, s4, s5, s6, s7⟩
          go_simp; with_reducible rfl
        rotate_left
        · simp only [Act.put, List.setIfInBounds_toArray, List.set_cons_zero, List.set_cons_succ, i64_w, i32_w]
          rfl
        refine take_ (i := 21) (N := some 44) (v := ?_) (a' := ?_) #[true, true, false, true, true, false, false, true, true, false, false, true, true, false, false, true, true, false, true, true, true, true, false, false, false, false, false] rfl rfl (take_ofW HT_.out HW_.out (by kernel_rfl)) (fun _ _ _ h => h) (Or.inl ⟨by rfl, ?_⟩) hHeld ?_ ?_
        rotate_left
        · rintro w' ⟨s0, s1, s2, s3, s4, s5, s6, s7⟩
          go_simp; with_reducible rfl
        rotate_left
        · simp only [Act.put, List.setIfInBounds_toArray, List.set_cons_zero, List.set_cons_succ, i64_w, i32_w]
          rfl
        refine join_ (σ := Value × Value × Value × Value × Value × Value × Value) 6 ofL43 (fun s_ => [(25, s_.1), (28, s_.2.1), (29, s_.2.2.1), (32, s_.2.2.2.1), (33, s_.2.2.2.2.1), (36, s_.2.2.2.2.2.1), (37, s_.2.2.2.2.2.2)]) (fun s_ w' => (ofH w' gb161 Ao30 x162000_1 co30 Ao10 y158 co10 gb163 A162_0 l0_0 x4_1 c162_0 A162_1 c162_1 A162_2 c162_2 A162_3 c162_3) ∧ (Kd.R Kd.string 9 w' w.heap.size (fun k_ => Nb k_ s_.2.2.2.1 ∧ Nb k_ s_.2.2.2.2.2.1 ∧ Nb k_ s_.2.2.2.2.2.2 ∧ Nb k_ (.slice Ao10 y158.length co10)) s_.2.1 y167) ∧ (Kd.R Kd.string 9 w' w.heap.size (fun k_ => Nb k_ s_.2.1 ∧ Nb k_ s_.2.2.2.2.2.1 ∧ Nb k_ s_.2.2.2.2.2.2 ∧ Nb k_ (.slice Ao10 y158.length co10)) s_.2.2.2.1 y173) ∧ (Kd.R Kd.string 9 w' w.heap.size (fun k_ => Nb k_ s_.2.1 ∧ Nb k_ s_.2.2.2.1 ∧ Nb k_ s_.2.2.2.2.2.2 ∧ Nb k_ (.slice Ao10 y158.length co10)) s_.2.2.2.2.2.1 y179) ∧ (Kd.R Kd.string 9 w' w.heap.size (fun k_ => Nb k_ s_.2.1 ∧ Nb k_ s_.2.2.2.1 ∧ Nb k_ s_.2.2.2.2.2.1 ∧ Nb k_ (.slice Ao10 y158.length co10)) s_.2.2.2.2.2.2 y182) ∧ (Kd.S k43 43 w' w.heap.size (fun k_ => Nb k_ s_.2.1 ∧ Nb k_ s_.2.2.2.1 ∧ Nb k_ s_.2.2.2.2.2.1 ∧ Nb k_ s_.2.2.2.2.2.2 ∧ Nb k_ (.slice Ao10 y158.length co10)) (.slice Ao30 x162000_1.length co30) x162000_1) ∧ (Kd.R Kd.string 9 w' w.heap.size (fun k_ => Nb k_ s_.2.1 ∧ Nb k_ s_.2.2.2.1 ∧ Nb k_ s_.2.2.2.2.2.1 ∧ Nb k_ s_.2.2.2.2.2.2) (.slice Ao10 y158.length co10) y158) ∧ ofT w w' gb153 ad162 l0_0 c0_0 A0_1 l0_1 c0_1 gb154 gb161 Ao30 x162000_1 co30 Ao10 y158 co10 gb163 A162_0 x4_1 c162_0 A162_1 c162_1 A162_2 c162_2 A162_3 c162_3) ?_ ?_
        rotate_left
        · intro J0
          refine join_ (σ := Value × Value × Value × Value × Value × Value) 7 ofL42 (fun s_ => [(25, s_.1), (28, s_.2.1), (29, s_.2.2.1), (32, s_.2.2.2.1), (33, s_.2.2.2.2.1), (36, s_.2.2.2.2.2)]) (fun s_ w' => (ofH w' gb161 Ao30 x162000_1 co30 Ao10 y158 co10 gb163 A162_0 l0_0 x4_1 c162_0 A162_1 c162_1 A162_2 c162_2 A162_3 c162_3) ∧ (Kd.R Kd.string 9 w' w.heap.size (fun k_ => Nb k_ s_.2.2.2.1 ∧ Nb k_ s_.2.2.2.2.2 ∧ Nb k_ (.slice Ao10 y158.length co10)) s_.2.1 y167) ∧ (Kd.R Kd.string 9 w' w.heap.size (fun k_ => Nb k_ s_.2.1 ∧ Nb k_ s_.2.2.2.2.2 ∧ Nb k_ (.slice Ao10 y158.length co10)) s_.2.2.2.1 y173) ∧ (Kd.R Kd.string 9 w' w.heap.size (fun k_ => Nb k_ s_.2.1 ∧ Nb k_ s_.2.2.2.1 ∧ Nb k_ (.slice Ao10 y158.length co10)) s_.2.2.2.2.2 y179) ∧ (Kd.S k43 43 w' w.heap.size (fun k_ => Nb k_ s_.2.1 ∧ Nb k_ s_.2.2.2.1 ∧ Nb k_ s_.2.2.2.2.2 ∧ Nb k_ (.slice Ao10 y158.length co10)) (.slice Ao30 x162000_1.length co30) x162000_1) ∧ (Kd.R Kd.string 9 w' w.heap.size (fun k_ => Nb k_ s_.2.1 ∧ Nb k_ s_.2.2.2.1 ∧ Nb k_ s_.2.2.2.2.2) (.slice Ao10 y158.length co10) y158) ∧ ofT w w' gb153 ad162 l0_0 c0_0 A0_1 l0_1 c0_1 gb154 gb161 Ao30 x162000_1 co30 Ao10 y158 co10 gb163 A162_0 x4_1 c162_0 A162_1 c162_1 A162_2 c162_2 A162_3 c162_3) ?_ ?_
          · skip
            rintro ⟨v165, v168, v171, v174, v177, v180⟩ w42 ⟨hS_, h0_, h1_, h2_, h3_, h4_, h5_, h6_, h7_, h8_, h9_⟩
            try dsimp only at h0_ h1_ h2_ h3_ h4_ h5_ h6_ h7_ h8_ h9_
            have n0 := ofA h0_; have n1 := ofA h1_; have n2 := ofA h2_; have n3 := ofA h3_; have n4 := ofA h4_; have n5 := ofA h5_; have n6 := ofA h6_; have n7 := ofA h7_; have n8 := ofA h8_; have n9 := ofA h9_; clear O13 O14 BK153 BK154 BK161 BK163 HB h0_ h1_ h2_ h3_ h4_ h5_ h6_ h7_ h8_ h9_; have O32 := n0; have O34 := n1; have O30 := n2; have O13 := n3; have O14 := n4; have BK153 := n5; have BK154 := n6; have BK161 := n7; have BK163 := n8; have HB := n9; clear n0 n1 n2 n3 n4 n5 n6 n7 n8 n9
            have hHeld := hS_
            refine norm_ (a' := ?_) ?_ ?_
            rotate_left
            · simp only [putAll, Act.put, List.setIfInBounds_toArray, List.set_cons_zero, List.set_cons_succ]
              rfl
            refine one_ (i := 14) (N := some 37) ofL43 rfl rfl (one_of HT_.out (by kernel_rfl)) (by decide) (fun K hK => ?_)
            refine Kd.R_lit_step Kd.string _ 9 ?hg (N := 37) ?hd (xs := ([] : List ByteArray)) (inner := []) (ok := fun _ => True) (okp := fun _ => True) ?hr ?hp (fun _ hk => hk) trivial (Below.refl _ _) (Nat.le_refl _) (by simp) ?_; (case hd => rfl); (case hg => rfl); (case hr => first | (go_simp; done) | (go_simp; rfl)); (case hp => exact (Reps.none _ _))
            intro v183 w43 ho44 hb hg_ hnew_; clear hg_ hnew_
            (first | rw [← Ny182.out] at ho44 | (simp only [Int.reduceToNat] at ho44; rw [← Ny182.out] at ho44))
            have n0 := ofA (Kd.S_elder' O13.out (Kd.R_base ho44) hb); have n1 := ofA (Kd.R_elder' O14.out (Kd.R_base ho44) hb); have n2 := ofA (Kd.R_elder' O32.out (Kd.R_base ho44) hb); have n3 := ofA (Kd.R_elder' O34.out (Kd.R_base ho44) hb); have n4 := ofA (Kd.R_elder' O30.out (Kd.R_base ho44) hb)
            have n5 := ofA (Kd.R_lower (Kd.R_new' (Kd.R_new' (Kd.R_new' (Kd.R_new' ho44 (Kd.R_lt O14.out)) (Kd.R_lt O32.out)) (Kd.R_lt O34.out)) (Kd.R_lt O30.out)) (below_size HB.out))
            have n10 := ofA (below_step HB.out hb); replace BK153 := ofA (blk_below BK153.out hb); replace BK154 := ofA (blk_below BK154.out hb); replace BK161 := ofA (blk_below BK161.out hb); replace BK163 := ofA (blk_below BK163.out hb); clear O13 O14 O32 O34 O30 HB; have O13 := n0; have O14 := n1; have O32 := n2; have O34 := n3; have O30 := n4; have O28 := n5; have HB := n10; clear n0 n1 n2 n3 n4 n5 n10 hb ho44
            refine hK.out _ _ (ofM BK161.out BK163.out) (fun hHeld => ?_)
            clear hK K
            refine norm_ (a' := ?_) ?_ ?_
            rotate_left
            · show Act.put _ (some 37) _ = _
              simp only [Act.put, List.setIfInBounds_toArray, List.set_cons_zero, List.set_cons_succ, i64_w, i32_w]
              rfl
            exact norm_ (by rfl) (J0 (v165, v168, v171, v174, v177, v180, v183) _ ⟨hHeld, (Kd.R_mono O32.out (fun _ hk => ⟨hk.1.1, ⟨hk.1.2.1, ⟨hk.2, hk.1.2.2⟩⟩⟩)), (Kd.R_mono O34.out (fun _ hk => ⟨hk.1.1, ⟨hk.1.2.1, ⟨hk.2, hk.1.2.2⟩⟩⟩)), (Kd.R_mono O30.out (fun _ hk => ⟨hk.1.1, ⟨hk.1.2.1, ⟨hk.2, hk.1.2.2⟩⟩⟩)), (Kd.R_mono O28.out (fun _ hk => ⟨hk.1.1.2, ⟨hk.1.2, ⟨hk.2, hk.1.1.1.2⟩⟩⟩)), (Kd.S_mono O13.out (fun _ hk => ⟨hk.1.1, ⟨hk.1.2.1, ⟨hk.1.2.2.1, ⟨hk.2, hk.1.2.2.2⟩⟩⟩⟩)), (Kd.R_mono O14.out (fun _ hk => ⟨hk.1.1, ⟨hk.1.2.1, ⟨hk.1.2.2, hk.2⟩⟩⟩)), BK153.out, BK154.out, BK161.out, BK163.out, HB.out⟩)
          intro J1
          refine join_ (σ := Value × Value × Value × Value × Value × Value) 7 ofL41 (fun s_ => [(25, s_.1), (28, s_.2.1), (29, s_.2.2.1), (32, s_.2.2.2.1), (33, s_.2.2.2.2.1), (37, s_.2.2.2.2.2)]) (fun s_ w' => (ofH w' gb161 Ao30 x162000_1 co30 Ao10 y158 co10 gb163 A162_0 l0_0 x4_1 c162_0 A162_1 c162_1 A162_2 c162_2 A162_3 c162_3) ∧ (Kd.R Kd.string 9 w' w.heap.size (fun k_ => Nb k_ s_.2.2.2.1 ∧ Nb k_ s_.2.2.2.2.1 ∧ Nb k_ s_.2.2.2.2.2 ∧ Nb k_ (.slice Ao10 y158.length co10)) s_.2.1 y167) ∧ (Kd.R Kd.string 9 w' w.heap.size (fun k_ => Nb k_ s_.2.1 ∧ Nb k_ s_.2.2.2.2.1 ∧ Nb k_ s_.2.2.2.2.2 ∧ Nb k_ (.slice Ao10 y158.length co10)) s_.2.2.2.1 y173) ∧ (Kd.R Kd.string 9 w' w.heap.size (fun k_ => Nb k_ s_.2.1 ∧ Nb k_ s_.2.2.2.1 ∧ Nb k_ s_.2.2.2.2.2 ∧ Nb k_ (.slice Ao10 y158.length co10)) s_.2.2.2.2.1 y176) ∧ (Kd.R Kd.string 9 w' w.heap.size (fun k_ => Nb k_ s_.2.1 ∧ Nb k_ s_.2.2.2.1 ∧ Nb k_ s_.2.2.2.2.1 ∧ Nb k_ (.slice Ao10 y158.length co10)) s_.2.2.2.2.2 y182) ∧ (Kd.S k43 43 w' w.heap.size (fun k_ => Nb k_ s_.2.1 ∧ Nb k_ s_.2.2.2.1 ∧ Nb k_ s_.2.2.2.2.1 ∧ Nb k_ s_.2.2.2.2.2 ∧ Nb k_ (.slice Ao10 y158.length co10)) (.slice Ao30 x162000_1.length co30) x162000_1) ∧ (Kd.R Kd.string 9 w' w.heap.size (fun k_ => Nb k_ s_.2.1 ∧ Nb k_ s_.2.2.2.1 ∧ Nb k_ s_.2.2.2.2.1 ∧ Nb k_ s_.2.2.2.2.2) (.slice Ao10 y158.length co10) y158) ∧ ofT w w' gb153 ad162 l0_0 c0_0 A0_1 l0_1 c0_1 gb154 gb161 Ao30 x162000_1 co30 Ao10 y158 co10 gb163 A162_0 x4_1 c162_0 A162_1 c162_1 A162_2 c162_2 A162_3 c162_3) ?_ ?_
          · skip
            rintro ⟨v165, v168, v171, v174, v177, v183⟩ w43 ⟨hS_, h0_, h1_, h2_, h3_, h4_, h5_, h6_, h7_, h8_, h9_, h10_⟩
            try dsimp only at h0_ h1_ h2_ h3_ h4_ h5_ h6_ h7_ h8_ h9_ h10_
            have n0 := ofA h0_; have n1 := ofA h1_; have n2 := ofA h2_; have n3 := ofA h3_; have n4 := ofA h4_; have n5 := ofA h5_; have n6 := ofA h6_; have n7 := ofA h7_; have n8 := ofA h8_; have n9 := ofA h9_; have n10 := ofA h10_; clear O13 O14 BK153 BK154 BK161 BK163 HB h0_ h1_ h2_ h3_ h4_ h5_ h6_ h7_ h8_ h9_ h10_; have O32 := n0; have O34 := n1; have O33 := n2; have O28 := n3; have O13 := n4; have O14 := n5; have BK153 := n6; have BK154 := n7; have BK161 := n8; have BK163 := n9; have HB := n10; clear n0 n1 n2 n3 n4 n5 n6 n7 n8 n9 n10
            have hHeld := hS_
            refine norm_ (a' := ?_) ?_ ?_
            rotate_left
            · simp only [putAll, Act.put, List.setIfInBounds_toArray, List.set_cons_zero, List.set_cons_succ]
              rfl
            refine one_ (i := 13) (N := some 36) ofL43 rfl rfl (one_of HT_.out (by kernel_rfl)) (by decide) (fun K hK => ?_)
            refine Kd.R_append_rows_step Kd.string (w0 := w) w.heap.size (by rfl) (.tmp 33) (.tmp 35) 23 9 (.string ⟨#[]⟩) 16 rfl Tryz.underlying23 info9 rfl (by decide) (by omega) v177 y176 ((rd_T38 l0_0 x4_1).f2) _ _ _ (fun k_ => Nb k_ (.slice Ao10 y158.length co10) ∧ Nb k_ v168 ∧ Nb k_ v174 ∧ Nb k_ v183) (fun _ => False) rfl rfl ?aO ?aR (fun _ _ h => h) (fun _ h => h.elim) ?aF ?aB ?aS ?aL ?_
            (case aR => repeat (first | exact (Kd.C_below HR162_2.out HB.out) | (with_reducible refine Kd.C_alloc ?_ _) | (with_reducible refine Kd.C_drewN ?_ _) | (with_reducible refine Kd.C_drew ?_)))
            (case aB => exact HB.out)
            (case aF => exact (fun k_ hk => ⟨Kd.fresh' (Kd.R_lt O14.out) k_ hk, Kd.fresh' (Kd.R_lt O32.out) k_ hk, Kd.fresh' (Kd.R_lt O34.out) k_ hk, Kd.fresh' (Kd.R_lt O28.out) k_ hk⟩))
            (case aO => exact (Kd.R_mono O33.out (fun _ hk => ⟨hk.2.2.2, ⟨hk.1, ⟨hk.2.1, hk.2.2.1⟩⟩⟩)))
            (case aS => exact (below_size HB.out))
            (case aL => have := LMc19.out; omega)
            intro v180 w44 ho hb hg hat
            rw [← Ny179.out] at ho
            have n0 := ofA (Kd.S_after (ok := (fun k_ => Nb k_ (.slice Ao10 y158.length co10) ∧ Nb k_ v168 ∧ Nb k_ v174 ∧ Nb k_ v183)) (Kd.S_mono O13.out (fun _ hk => ⟨⟨hk.2.2.2.2, ⟨hk.1, ⟨hk.2.1, hk.2.2.2.1⟩⟩⟩, hk.2.2.1⟩)) hg hat)
            have n1 := ofA (Kd.R_after (ok := (fun k_ => Nb k_ v168 ∧ Nb k_ v174 ∧ Nb k_ v183)) (Kd.R_mono O14.out (fun _ hk => ⟨⟨hk.1, ⟨hk.2.1, hk.2.2.2⟩⟩, hk.2.2.1⟩)) hg hat)
            have n6 := ofA (Kd.R_after (ok := (fun k_ => Nb k_ (.slice Ao10 y158.length co10) ∧ Nb k_ v174 ∧ Nb k_ v183)) (Kd.R_mono O32.out (fun _ hk => ⟨⟨hk.2.2.2, ⟨hk.1, hk.2.2.1⟩⟩, hk.2.1⟩)) hg hat)
            have n7 := ofA (Kd.R_after (ok := (fun k_ => Nb k_ (.slice Ao10 y158.length co10) ∧ Nb k_ v168 ∧ Nb k_ v183)) (Kd.R_mono O34.out (fun _ hk => ⟨⟨hk.2.2.2, ⟨hk.1, hk.2.2.1⟩⟩, hk.2.1⟩)) hg hat)
            have n8 := ofA (Kd.R_after (ok := (fun k_ => Nb k_ (.slice Ao10 y158.length co10) ∧ Nb k_ v168 ∧ Nb k_ v174)) (Kd.R_mono O28.out (fun _ hk => ⟨⟨hk.2.2.2, ⟨hk.1, hk.2.1⟩⟩, hk.2.2.1⟩)) hg hat)
            have n9 := ofA (hb); have n10 := ofA (ho); replace BK153 := ofA (blk_grown BK153.out hg (Kd.R_ne O33.out BK153.out (by decide))); replace BK154 := ofA (blk_grown BK154.out hg (Kd.R_ne O33.out BK154.out (by decide))); replace BK161 := ofA (blk_grown BK161.out hg (Kd.R_ne O33.out BK161.out (by decide))); replace BK163 := ofA (blk_grown BK163.out hg (Kd.R_ne O33.out BK163.out (by decide))); clear O13 O14 O32 O34 O28 HB O33; have O13 := n0; have O14 := n1; have O32 := n6; have O34 := n7; have O28 := n8; have HB := n9; have O30 := n10; clear n0 n1 n6 n7 n8 n9 n10 ho hb hg hat
            refine hK.out _ _ (ofM BK161.out BK163.out) (fun hHeld => ?_)
            clear hK K
            refine norm_ (a' := ?_) ?_ ?_
            rotate_left
            · show Act.put _ (some 36) _ = _
              simp only [Act.put, List.setIfInBounds_toArray, List.set_cons_zero, List.set_cons_succ, i64_w, i32_w]
              rfl
            exact norm_ (by rfl) (J0 (v165, v168, v171, v174, v177, v180, v183) _ ⟨hHeld, (Kd.R_mono O32.out (fun _ hk => ⟨hk.1.2.1, ⟨hk.2, ⟨hk.1.2.2, hk.1.1⟩⟩⟩)), (Kd.R_mono O34.out (fun _ hk => ⟨hk.1.2.1, ⟨hk.2, ⟨hk.1.2.2, hk.1.1⟩⟩⟩)), (Kd.R_mono O30.out (fun _ hk => ⟨hk.2.1, ⟨hk.2.2.1, ⟨hk.2.2.2, hk.1⟩⟩⟩)), (Kd.R_mono O28.out (fun _ hk => ⟨hk.1.2.1, ⟨hk.1.2.2, ⟨hk.2, hk.1.1⟩⟩⟩)), (Kd.S_mono O13.out (fun _ hk => ⟨hk.1.2.1, ⟨hk.1.2.2.1, ⟨hk.2, ⟨hk.1.2.2.2, hk.1.1⟩⟩⟩⟩)), (Kd.R_mono O14.out (fun _ hk => ⟨hk.1.1, ⟨hk.1.2.1, ⟨hk.2, hk.1.2.2⟩⟩⟩)), BK153.out, BK154.out, BK161.out, BK163.out, HB.out⟩)
          intro J2
          refine join_ (σ := Value × Value × Value × Value × Value) 8 ofL40 (fun s_ => [(25, s_.1), (28, s_.2.1), (29, s_.2.2.1), (32, s_.2.2.2.1), (33, s_.2.2.2.2)]) (fun s_ w' => (ofH w' gb161 Ao30 x162000_1 co30 Ao10 y158 co10 gb163 A162_0 l0_0 x4_1 c162_0 A162_1 c162_1 A162_2 c162_2 A162_3 c162_3) ∧ (Kd.R Kd.string 9 w' w.heap.size (fun k_ => Nb k_ s_.2.2.2.1 ∧ Nb k_ s_.2.2.2.2 ∧ Nb k_ (.slice Ao10 y158.length co10)) s_.2.1 y167) ∧ (Kd.R Kd.string 9 w' w.heap.size (fun k_ => Nb k_ s_.2.1 ∧ Nb k_ s_.2.2.2.2 ∧ Nb k_ (.slice Ao10 y158.length co10)) s_.2.2.2.1 y173) ∧ (Kd.R Kd.string 9 w' w.heap.size (fun k_ => Nb k_ s_.2.1 ∧ Nb k_ s_.2.2.2.1 ∧ Nb k_ (.slice Ao10 y158.length co10)) s_.2.2.2.2 y176) ∧ (Kd.S k43 43 w' w.heap.size (fun k_ => Nb k_ s_.2.1 ∧ Nb k_ s_.2.2.2.1 ∧ Nb k_ s_.2.2.2.2 ∧ Nb k_ (.slice Ao10 y158.length co10)) (.slice Ao30 x162000_1.length co30) x162000_1) ∧ (Kd.R Kd.string 9 w' w.heap.size (fun k_ => Nb k_ s_.2.1 ∧ Nb k_ s_.2.2.2.1 ∧ Nb k_ s_.2.2.2.2) (.slice Ao10 y158.length co10) y158) ∧ ofT w w' gb153 ad162 l0_0 c0_0 A0_1 l0_1 c0_1 gb154 gb161 Ao30 x162000_1 co30 Ao10 y158 co10 gb163 A162_0 x4_1 c162_0 A162_1 c162_1 A162_2 c162_2 A162_3 c162_3) ?_ ?_
          · skip
            rintro ⟨v165, v168, v171, v174, v177⟩ w41 ⟨hS_, h0_, h1_, h2_, h3_, h4_, h5_, h6_, h7_, h8_, h9_⟩
            try dsimp only at h0_ h1_ h2_ h3_ h4_ h5_ h6_ h7_ h8_ h9_
            have n0 := ofA h0_; have n1 := ofA h1_; have n2 := ofA h2_; have n3 := ofA h3_; have n4 := ofA h4_; have n5 := ofA h5_; have n6 := ofA h6_; have n7 := ofA h7_; have n8 := ofA h8_; have n9 := ofA h9_; clear O13 O14 BK153 BK154 BK161 BK163 HB h0_ h1_ h2_ h3_ h4_ h5_ h6_ h7_ h8_ h9_; have O32 := n0; have O34 := n1; have O33 := n2; have O13 := n3; have O14 := n4; have BK153 := n5; have BK154 := n6; have BK161 := n7; have BK163 := n8; have HB := n9; clear n0 n1 n2 n3 n4 n5 n6 n7 n8 n9
            have hHeld := hS_
            refine norm_ (a' := ?_) ?_ ?_
            rotate_left
            · simp only [putAll, Act.put, List.setIfInBounds_toArray, List.set_cons_zero, List.set_cons_succ]
              rfl
            refine two_ (i := 13) (j := 14) (Ni := some 36) (Nj := some 37) ofL42 ofL41 rfl rfl rfl rfl (two_of HT_.out (by kernel_rfl)) (by decide) (by decide) (fun K hK => ?_) (fun K hK => ?_)
            · skip
              refine Kd.R_append_rows_step Kd.string (w0 := w) w.heap.size (by rfl) (.tmp 33) (.tmp 35) 23 9 (.string ⟨#[]⟩) 16 rfl Tryz.underlying23 info9 rfl (by decide) (by omega) v177 y176 ((rd_T38 l0_0 x4_1).f2) _ _ _ (fun k_ => Nb k_ (.slice Ao10 y158.length co10) ∧ Nb k_ v168 ∧ Nb k_ v174) (fun _ => False) rfl rfl ?aO ?aR (fun _ _ h => h) (fun _ h => h.elim) ?aF ?aB ?aS ?aL ?_
              (case aR => repeat (first | exact (Kd.C_below HR162_2.out HB.out) | (with_reducible refine Kd.C_alloc ?_ _) | (with_reducible refine Kd.C_drewN ?_ _) | (with_reducible refine Kd.C_drew ?_)))
              (case aB => exact HB.out)
              (case aF => exact (fun k_ hk => ⟨Kd.fresh' (Kd.R_lt O14.out) k_ hk, Kd.fresh' (Kd.R_lt O32.out) k_ hk, Kd.fresh' (Kd.R_lt O34.out) k_ hk⟩))
              (case aO => exact (Kd.R_mono O33.out (fun _ hk => ⟨hk.2.2, ⟨hk.1, hk.2.1⟩⟩)))
              (case aS => exact (below_size HB.out))
              (case aL => have := LMc19.out; omega)
              intro v180 w42 ho hb hg hat
              rw [← Ny179.out] at ho
              have n0 := ofA (Kd.S_after (ok := (fun k_ => Nb k_ (.slice Ao10 y158.length co10) ∧ Nb k_ v168 ∧ Nb k_ v174)) (Kd.S_mono O13.out (fun _ hk => ⟨⟨hk.2.2.2, ⟨hk.1, hk.2.1⟩⟩, hk.2.2.1⟩)) hg hat)
              have n1 := ofA (Kd.R_after (ok := (fun k_ => Nb k_ v168 ∧ Nb k_ v174)) (Kd.R_mono O14.out (fun _ hk => ⟨⟨hk.1, hk.2.1⟩, hk.2.2⟩)) hg hat)
              have n6 := ofA (Kd.R_after (ok := (fun k_ => Nb k_ (.slice Ao10 y158.length co10) ∧ Nb k_ v174)) (Kd.R_mono O32.out (fun _ hk => ⟨⟨hk.2.2, hk.1⟩, hk.2.1⟩)) hg hat)
              have n7 := ofA (Kd.R_after (ok := (fun k_ => Nb k_ (.slice Ao10 y158.length co10) ∧ Nb k_ v168)) (Kd.R_mono O34.out (fun _ hk => ⟨⟨hk.2.2, hk.1⟩, hk.2.1⟩)) hg hat)
              have n8 := ofA (hb); have n9 := ofA (ho); replace BK153 := ofA (blk_grown BK153.out hg (Kd.R_ne O33.out BK153.out (by decide))); replace BK154 := ofA (blk_grown BK154.out hg (Kd.R_ne O33.out BK154.out (by decide))); replace BK161 := ofA (blk_grown BK161.out hg (Kd.R_ne O33.out BK161.out (by decide))); replace BK163 := ofA (blk_grown BK163.out hg (Kd.R_ne O33.out BK163.out (by decide))); clear O13 O14 O32 O34 HB O33; have O13 := n0; have O14 := n1; have O32 := n6; have O34 := n7; have HB := n8; have O30 := n9; clear n0 n1 n6 n7 n8 n9 ho hb hg hat
              refine hK.out _ _ (ofM BK161.out BK163.out) (fun hHeld => ?_)
              clear hK K
              refine norm_ (a' := ?_) ?_ ?_
              rotate_left
              · show Act.put _ (some 36) _ = _
                simp only [Act.put, List.setIfInBounds_toArray, List.set_cons_zero, List.set_cons_succ, i64_w, i32_w]
                rfl
              exact norm_ (by rfl) (J1 (v165, v168, v171, v174, v177, v180) _ ⟨hHeld, (Kd.R_mono O32.out (fun _ hk => ⟨hk.1.2, ⟨hk.2, hk.1.1⟩⟩)), (Kd.R_mono O34.out (fun _ hk => ⟨hk.1.2, ⟨hk.2, hk.1.1⟩⟩)), (Kd.R_mono O30.out (fun _ hk => ⟨hk.2.1, ⟨hk.2.2, hk.1⟩⟩)), (Kd.S_mono O13.out (fun _ hk => ⟨hk.1.2.1, ⟨hk.1.2.2, ⟨hk.2, hk.1.1⟩⟩⟩)), (Kd.R_mono O14.out (fun _ hk => ⟨hk.1.1, ⟨hk.1.2, hk.2⟩⟩)), BK153.out, BK154.out, BK161.out, BK163.out, HB.out⟩)
            · skip
              refine Kd.R_lit_step Kd.string _ 9 ?hg (N := 37) ?hd (xs := ([] : List ByteArray)) (inner := []) (ok := fun _ => True) (okp := fun _ => True) ?hr ?hp (fun _ hk => hk) trivial (Below.refl _ _) (Nat.le_refl _) (by simp) ?_; (case hd => rfl); (case hg => rfl); (case hr => first | (go_simp; done) | (go_simp; rfl)); (case hp => exact (Reps.none _ _))
              intro v183 w42 ho43 hb hg_ hnew_; clear hg_ hnew_
              (first | rw [← Ny182.out] at ho43 | (simp only [Int.reduceToNat] at ho43; rw [← Ny182.out] at ho43))
              have n0 := ofA (Kd.S_elder' O13.out (Kd.R_base ho43) hb); have n1 := ofA (Kd.R_elder' O14.out (Kd.R_base ho43) hb); have n2 := ofA (Kd.R_elder' O32.out (Kd.R_base ho43) hb); have n3 := ofA (Kd.R_elder' O34.out (Kd.R_base ho43) hb); have n4 := ofA (Kd.R_elder' O33.out (Kd.R_base ho43) hb)
              have n5 := ofA (Kd.R_lower (Kd.R_new' (Kd.R_new' (Kd.R_new' (Kd.R_new' ho43 (Kd.R_lt O14.out)) (Kd.R_lt O32.out)) (Kd.R_lt O34.out)) (Kd.R_lt O33.out)) (below_size HB.out))
              have n10 := ofA (below_step HB.out hb); replace BK153 := ofA (blk_below BK153.out hb); replace BK154 := ofA (blk_below BK154.out hb); replace BK161 := ofA (blk_below BK161.out hb); replace BK163 := ofA (blk_below BK163.out hb); clear O13 O14 O32 O34 O33 HB; have O13 := n0; have O14 := n1; have O32 := n2; have O34 := n3; have O33 := n4; have O28 := n5; have HB := n10; clear n0 n1 n2 n3 n4 n5 n10 hb ho43
              refine hK.out _ _ (ofM BK161.out BK163.out) (fun hHeld => ?_)
              clear hK K
              refine norm_ (a' := ?_) ?_ ?_
              rotate_left
              · show Act.put _ (some 37) _ = _
                simp only [Act.put, List.setIfInBounds_toArray, List.set_cons_zero, List.set_cons_succ, i64_w, i32_w]
                rfl
              exact norm_ (by rfl) (J2 (v165, v168, v171, v174, v177, v183) _ ⟨hHeld, (Kd.R_mono O32.out (fun _ hk => ⟨hk.1.1, ⟨hk.1.2.1, ⟨hk.2, hk.1.2.2⟩⟩⟩)), (Kd.R_mono O34.out (fun _ hk => ⟨hk.1.1, ⟨hk.1.2.1, ⟨hk.2, hk.1.2.2⟩⟩⟩)), (Kd.R_mono O33.out (fun _ hk => ⟨hk.1.1, ⟨hk.1.2.1, ⟨hk.2, hk.1.2.2⟩⟩⟩)), (Kd.R_mono O28.out (fun _ hk => ⟨hk.1.1.2, ⟨hk.1.2, ⟨hk.2, hk.1.1.1.2⟩⟩⟩)), (Kd.S_mono O13.out (fun _ hk => ⟨hk.1.1, ⟨hk.1.2.1, ⟨hk.1.2.2.1, ⟨hk.2, hk.1.2.2.2⟩⟩⟩⟩)), (Kd.R_mono O14.out (fun _ hk => ⟨hk.1.1, ⟨hk.1.2.1, ⟨hk.1.2.2, hk.2⟩⟩⟩)), BK153.out, BK154.out, BK161.out, BK163.out, HB.out⟩)
          intro J4
          refine join_ (σ := Value × Value × Value × Value × Value) 8 ofL39 (fun s_ => [(25, s_.1), (28, s_.2.1), (29, s_.2.2.1), (32, s_.2.2.2.1), (37, s_.2.2.2.2)]) (fun s_ w' => (ofH w' gb161 Ao30 x162000_1 co30 Ao10 y158 co10 gb163 A162_0 l0_0 x4_1 c162_0 A162_1 c162_1 A162_2 c162_2 A162_3 c162_3) ∧ (Kd.R Kd.string 9 w' w.heap.size (fun k_ => Nb k_ s_.2.2.2.1 ∧ Nb k_ s_.2.2.2.2 ∧ Nb k_ (.slice Ao10 y158.length co10)) s_.2.1 y167) ∧ (Kd.R Kd.string 9 w' w.heap.size (fun k_ => Nb k_ s_.2.1 ∧ Nb k_ s_.2.2.2.2 ∧ Nb k_ (.slice Ao10 y158.length co10)) s_.2.2.2.1 y173) ∧ (Kd.R Kd.string 9 w' w.heap.size (fun k_ => Nb k_ s_.2.1 ∧ Nb k_ s_.2.2.2.1 ∧ Nb k_ (.slice Ao10 y158.length co10)) s_.2.2.2.2 y182) ∧ (Kd.S k43 43 w' w.heap.size (fun k_ => Nb k_ s_.2.1 ∧ Nb k_ s_.2.2.2.1 ∧ Nb k_ s_.2.2.2.2 ∧ Nb k_ (.slice Ao10 y158.length co10)) (.slice Ao30 x162000_1.length co30) x162000_1) ∧ (Kd.R Kd.string 9 w' w.heap.size (fun k_ => Nb k_ s_.2.1 ∧ Nb k_ s_.2.2.2.1 ∧ Nb k_ s_.2.2.2.2) (.slice Ao10 y158.length co10) y158) ∧ ofT w w' gb153 ad162 l0_0 c0_0 A0_1 l0_1 c0_1 gb154 gb161 Ao30 x162000_1 co30 Ao10 y158 co10 gb163 A162_0 x4_1 c162_0 A162_1 c162_1 A162_2 c162_2 A162_3 c162_3) ?_ ?_
          · skip
            rintro ⟨v165, v168, v171, v174, v183⟩ w41 ⟨hS_, h0_, h1_, h2_, h3_, h4_, h5_, h6_, h7_, h8_, h9_⟩
            try dsimp only at h0_ h1_ h2_ h3_ h4_ h5_ h6_ h7_ h8_ h9_
            have n0 := ofA h0_; have n1 := ofA h1_; have n2 := ofA h2_; have n3 := ofA h3_; have n4 := ofA h4_; have n5 := ofA h5_; have n6 := ofA h6_; have n7 := ofA h7_; have n8 := ofA h8_; have n9 := ofA h9_; clear O13 O14 BK153 BK154 BK161 BK163 HB h0_ h1_ h2_ h3_ h4_ h5_ h6_ h7_ h8_ h9_; have O32 := n0; have O34 := n1; have O28 := n2; have O13 := n3; have O14 := n4; have BK153 := n5; have BK154 := n6; have BK161 := n7; have BK163 := n8; have HB := n9; clear n0 n1 n2 n3 n4 n5 n6 n7 n8 n9
            have hHeld := hS_
            refine norm_ (a' := ?_) ?_ ?_
            rotate_left
            · simp only [putAll, Act.put, List.setIfInBounds_toArray, List.set_cons_zero, List.set_cons_succ]
              rfl
            refine one_ (i := 10) (N := some 33) ofL41 rfl rfl (one_of HT_.out (by kernel_rfl)) (by decide) (fun K hK => ?_)
            refine Kd.R_lit_step Kd.string _ 9 ?hg (N := 33) ?hd (xs := ([] : List ByteArray)) (inner := []) (ok := fun _ => True) (okp := fun _ => True) ?hr ?hp (fun _ hk => hk) trivial (Below.refl _ _) (Nat.le_refl _) (by simp) ?_; (case hd => rfl); (case hg => rfl); (case hr => first | (go_simp; done) | (go_simp; rfl)); (case hp => exact (Reps.none _ _))
            intro v177 w42 ho43 hb hg_ hnew_; clear hg_ hnew_
            (first | rw [← Ny176.out] at ho43 | (simp only [Int.reduceToNat] at ho43; rw [← Ny176.out] at ho43))
            have n0 := ofA (Kd.S_elder' O13.out (Kd.R_base ho43) hb); have n1 := ofA (Kd.R_elder' O14.out (Kd.R_base ho43) hb); have n2 := ofA (Kd.R_elder' O32.out (Kd.R_base ho43) hb); have n3 := ofA (Kd.R_elder' O34.out (Kd.R_base ho43) hb); have n4 := ofA (Kd.R_elder' O28.out (Kd.R_base ho43) hb)
            have n5 := ofA (Kd.R_lower (Kd.R_new' (Kd.R_new' (Kd.R_new' (Kd.R_new' ho43 (Kd.R_lt O14.out)) (Kd.R_lt O32.out)) (Kd.R_lt O34.out)) (Kd.R_lt O28.out)) (below_size HB.out))
            have n10 := ofA (below_step HB.out hb); replace BK153 := ofA (blk_below BK153.out hb); replace BK154 := ofA (blk_below BK154.out hb); replace BK161 := ofA (blk_below BK161.out hb); replace BK163 := ofA (blk_below BK163.out hb); clear O13 O14 O32 O34 O28 HB; have O13 := n0; have O14 := n1; have O32 := n2; have O34 := n3; have O28 := n4; have O33 := n5; have HB := n10; clear n0 n1 n2 n3 n4 n5 n10 hb ho43
            refine hK.out _ _ (ofM BK161.out BK163.out) (fun hHeld => ?_)
            clear hK K
            refine norm_ (a' := ?_) ?_ ?_
            rotate_left
            · show Act.put _ (some 33) _ = _
              simp only [Act.put, List.setIfInBounds_toArray, List.set_cons_zero, List.set_cons_succ, i64_w, i32_w]
              rfl
            exact norm_ (by rfl) (J2 (v165, v168, v171, v174, v177, v183) _ ⟨hHeld, (Kd.R_mono O32.out (fun _ hk => ⟨hk.1.1, ⟨hk.2, ⟨hk.1.2.1, hk.1.2.2⟩⟩⟩)), (Kd.R_mono O34.out (fun _ hk => ⟨hk.1.1, ⟨hk.2, ⟨hk.1.2.1, hk.1.2.2⟩⟩⟩)), (Kd.R_mono O33.out (fun _ hk => ⟨hk.1.1.2, ⟨hk.1.2, ⟨hk.2, hk.1.1.1.2⟩⟩⟩)), (Kd.R_mono O28.out (fun _ hk => ⟨hk.1.1, ⟨hk.1.2.1, ⟨hk.2, hk.1.2.2⟩⟩⟩)), (Kd.S_mono O13.out (fun _ hk => ⟨hk.1.1, ⟨hk.1.2.1, ⟨hk.2, ⟨hk.1.2.2.1, hk.1.2.2.2⟩⟩⟩⟩)), (Kd.R_mono O14.out (fun _ hk => ⟨hk.1.1, ⟨hk.1.2.1, ⟨hk.2, hk.1.2.2⟩⟩⟩)), BK153.out, BK154.out, BK161.out, BK163.out, HB.out⟩)
          intro J5
          refine join_ (σ := Value × Value × Value × Value × Value) 8 ofL37 (fun s_ => [(25, s_.1), (28, s_.2.1), (29, s_.2.2.1), (33, s_.2.2.2.1), (37, s_.2.2.2.2)]) (fun s_ w' => (ofH w' gb161 Ao30 x162000_1 co30 Ao10 y158 co10 gb163 A162_0 l0_0 x4_1 c162_0 A162_1 c162_1 A162_2 c162_2 A162_3 c162_3) ∧ (Kd.R Kd.string 9 w' w.heap.size (fun k_ => Nb k_ s_.2.2.1 ∧ Nb k_ s_.2.2.2.1 ∧ Nb k_ s_.2.2.2.2 ∧ Nb k_ (.slice Ao10 y158.length co10)) s_.2.1 y167) ∧ (Kd.R Kd.string 9 w' w.heap.size (fun k_ => Nb k_ s_.2.1 ∧ Nb k_ s_.2.2.2.1 ∧ Nb k_ s_.2.2.2.2 ∧ Nb k_ (.slice Ao10 y158.length co10)) s_.2.2.1 y170) ∧ (Kd.R Kd.string 9 w' w.heap.size (fun k_ => Nb k_ s_.2.1 ∧ Nb k_ s_.2.2.1 ∧ Nb k_ s_.2.2.2.2 ∧ Nb k_ (.slice Ao10 y158.length co10)) s_.2.2.2.1 y176) ∧ (Kd.R Kd.string 9 w' w.heap.size (fun k_ => Nb k_ s_.2.1 ∧ Nb k_ s_.2.2.1 ∧ Nb k_ s_.2.2.2.1 ∧ Nb k_ (.slice Ao10 y158.length co10)) s_.2.2.2.2 y182) ∧ (Kd.S k43 43 w' w.heap.size (fun k_ => Nb k_ s_.2.1 ∧ Nb k_ s_.2.2.1 ∧ Nb k_ s_.2.2.2.1 ∧ Nb k_ s_.2.2.2.2 ∧ Nb k_ (.slice Ao10 y158.length co10)) (.slice Ao30 x162000_1.length co30) x162000_1) ∧ (Kd.R Kd.string 9 w' w.heap.size (fun k_ => Nb k_ s_.2.1 ∧ Nb k_ s_.2.2.1 ∧ Nb k_ s_.2.2.2.1 ∧ Nb k_ s_.2.2.2.2) (.slice Ao10 y158.length co10) y158) ∧ ofT w w' gb153 ad162 l0_0 c0_0 A0_1 l0_1 c0_1 gb154 gb161 Ao30 x162000_1 co30 Ao10 y158 co10 gb163 A162_0 x4_1 c162_0 A162_1 c162_1 A162_2 c162_2 A162_3 c162_3) ?_ ?_
          · skip
            rintro ⟨v165, v168, v171, v177, v183⟩ w42 ⟨hS_, h0_, h1_, h2_, h3_, h4_, h5_, h6_, h7_, h8_, h9_, h10_⟩
            try dsimp only at h0_ h1_ h2_ h3_ h4_ h5_ h6_ h7_ h8_ h9_ h10_
            have n0 := ofA h0_; have n1 := ofA h1_; have n2 := ofA h2_; have n3 := ofA h3_; have n4 := ofA h4_; have n5 := ofA h5_; have n6 := ofA h6_; have n7 := ofA h7_; have n8 := ofA h8_; have n9 := ofA h9_; have n10 := ofA h10_; clear O13 O14 BK153 BK154 BK161 BK163 HB h0_ h1_ h2_ h3_ h4_ h5_ h6_ h7_ h8_ h9_ h10_; have O32 := n0; have O29 := n1; have O33 := n2; have O28 := n3; have O13 := n4; have O14 := n5; have BK153 := n6; have BK154 := n7; have BK161 := n8; have BK163 := n9; have HB := n10; clear n0 n1 n2 n3 n4 n5 n6 n7 n8 n9 n10
            have hHeld := hS_
            refine norm_ (a' := ?_) ?_ ?_
            rotate_left
            · simp only [putAll, Act.put, List.setIfInBounds_toArray, List.set_cons_zero, List.set_cons_succ]
              rfl
            refine one_ (i := 9) (N := some 32) ofL41 rfl rfl (one_of HT_.out (by kernel_rfl)) (by decide) (fun K hK => ?_)
            refine Kd.R_append_rows_step Kd.string (w0 := w) w.heap.size (by rfl) (.tmp 29) (.tmp 31) 23 9 (.string ⟨#[]⟩) 16 rfl Tryz.underlying23 info9 rfl (by decide) (by omega) v171 y170 ((rd_T38 l0_0 x4_1).f1) _ _ _ (fun k_ => Nb k_ (.slice Ao10 y158.length co10) ∧ Nb k_ v168 ∧ Nb k_ v177 ∧ Nb k_ v183) (fun _ => False) rfl rfl ?aO ?aR (fun _ _ h => h) (fun _ h => h.elim) ?aF ?aB ?aS ?aL ?_
            (case aR => repeat (first | exact (Kd.C_below HR162_1.out HB.out) | (with_reducible refine Kd.C_alloc ?_ _) | (with_reducible refine Kd.C_drewN ?_ _) | (with_reducible refine Kd.C_drew ?_)))
            (case aB => exact HB.out)
            (case aF => exact (fun k_ hk => ⟨Kd.fresh' (Kd.R_lt O14.out) k_ hk, Kd.fresh' (Kd.R_lt O32.out) k_ hk, Kd.fresh' (Kd.R_lt O33.out) k_ hk, Kd.fresh' (Kd.R_lt O28.out) k_ hk⟩))
            (case aO => exact (Kd.R_mono O29.out (fun _ hk => ⟨hk.2.2.2, ⟨hk.1, ⟨hk.2.1, hk.2.2.1⟩⟩⟩)))
            (case aS => exact (below_size HB.out))
            (case aL => have := LMc18.out; omega)
            intro v174 w43 ho hb hg hat
            rw [← Ny173.out] at ho
            have n0 := ofA (Kd.S_after (ok := (fun k_ => Nb k_ (.slice Ao10 y158.length co10) ∧ Nb k_ v168 ∧ Nb k_ v177 ∧ Nb k_ v183)) (Kd.S_mono O13.out (fun _ hk => ⟨⟨hk.2.2.2.2, ⟨hk.1, ⟨hk.2.2.1, hk.2.2.2.1⟩⟩⟩, hk.2.1⟩)) hg hat)
            have n1 := ofA (Kd.R_after (ok := (fun k_ => Nb k_ v168 ∧ Nb k_ v177 ∧ Nb k_ v183)) (Kd.R_mono O14.out (fun _ hk => ⟨⟨hk.1, ⟨hk.2.2.1, hk.2.2.2⟩⟩, hk.2.1⟩)) hg hat)
            have n6 := ofA (Kd.R_after (ok := (fun k_ => Nb k_ (.slice Ao10 y158.length co10) ∧ Nb k_ v177 ∧ Nb k_ v183)) (Kd.R_mono O32.out (fun _ hk => ⟨⟨hk.2.2.2, ⟨hk.2.1, hk.2.2.1⟩⟩, hk.1⟩)) hg hat)
            have n7 := ofA (Kd.R_after (ok := (fun k_ => Nb k_ (.slice Ao10 y158.length co10) ∧ Nb k_ v168 ∧ Nb k_ v183)) (Kd.R_mono O33.out (fun _ hk => ⟨⟨hk.2.2.2, ⟨hk.1, hk.2.2.1⟩⟩, hk.2.1⟩)) hg hat)
            have n8 := ofA (Kd.R_after (ok := (fun k_ => Nb k_ (.slice Ao10 y158.length co10) ∧ Nb k_ v168 ∧ Nb k_ v177)) (Kd.R_mono O28.out (fun _ hk => ⟨⟨hk.2.2.2, ⟨hk.1, hk.2.2.1⟩⟩, hk.2.1⟩)) hg hat)
            have n9 := ofA (hb); have n10 := ofA (ho); replace BK153 := ofA (blk_grown BK153.out hg (Kd.R_ne O29.out BK153.out (by decide))); replace BK154 := ofA (blk_grown BK154.out hg (Kd.R_ne O29.out BK154.out (by decide))); replace BK161 := ofA (blk_grown BK161.out hg (Kd.R_ne O29.out BK161.out (by decide))); replace BK163 := ofA (blk_grown BK163.out hg (Kd.R_ne O29.out BK163.out (by decide))); clear O13 O14 O32 O33 O28 HB O29; have O13 := n0; have O14 := n1; have O32 := n6; have O33 := n7; have O28 := n8; have HB := n9; have O34 := n10; clear n0 n1 n6 n7 n8 n9 n10 ho hb hg hat
            refine hK.out _ _ (ofM BK161.out BK163.out) (fun hHeld => ?_)
            clear hK K
            refine norm_ (a' := ?_) ?_ ?_
            rotate_left
            · show Act.put _ (some 32) _ = _
              simp only [Act.put, List.setIfInBounds_toArray, List.set_cons_zero, List.set_cons_succ, i64_w, i32_w]
              rfl
            exact norm_ (by rfl) (J2 (v165, v168, v171, v174, v177, v183) _ ⟨hHeld, (Kd.R_mono O32.out (fun _ hk => ⟨hk.2, ⟨hk.1.2.1, ⟨hk.1.2.2, hk.1.1⟩⟩⟩)), (Kd.R_mono O34.out (fun _ hk => ⟨hk.2.1, ⟨hk.2.2.1, ⟨hk.2.2.2, hk.1⟩⟩⟩)), (Kd.R_mono O33.out (fun _ hk => ⟨hk.1.2.1, ⟨hk.2, ⟨hk.1.2.2, hk.1.1⟩⟩⟩)), (Kd.R_mono O28.out (fun _ hk => ⟨hk.1.2.1, ⟨hk.2, ⟨hk.1.2.2, hk.1.1⟩⟩⟩)), (Kd.S_mono O13.out (fun _ hk => ⟨hk.1.2.1, ⟨hk.2, ⟨hk.1.2.2.1, ⟨hk.1.2.2.2, hk.1.1⟩⟩⟩⟩)), (Kd.R_mono O14.out (fun _ hk => ⟨hk.1.1, ⟨hk.2, ⟨hk.1.2.1, hk.1.2.2⟩⟩⟩)), BK153.out, BK154.out, BK161.out, BK163.out, HB.out⟩)
          intro J3
          refine join_ (σ := Value × Value × Value × Value) 9 ofL38 (fun s_ => [(25, s_.1), (28, s_.2.1), (29, s_.2.2.1), (32, s_.2.2.2)]) (fun s_ w' => (ofH w' gb161 Ao30 x162000_1 co30 Ao10 y158 co10 gb163 A162_0 l0_0 x4_1 c162_0 A162_1 c162_1 A162_2 c162_2 A162_3 c162_3) ∧ (Kd.R Kd.string 9 w' w.heap.size (fun k_ => Nb k_ s_.2.2.2 ∧ Nb k_ (.slice Ao10 y158.length co10)) s_.2.1 y167) ∧ (Kd.R Kd.string 9 w' w.heap.size (fun k_ => Nb k_ s_.2.1 ∧ Nb k_ (.slice Ao10 y158.length co10)) s_.2.2.2 y173) ∧ (Kd.S k43 43 w' w.heap.size (fun k_ => Nb k_ s_.2.1 ∧ Nb k_ s_.2.2.2 ∧ Nb k_ (.slice Ao10 y158.length co10)) (.slice Ao30 x162000_1.length co30) x162000_1) ∧ (Kd.R Kd.string 9 w' w.heap.size (fun k_ => Nb k_ s_.2.1 ∧ Nb k_ s_.2.2.2) (.slice Ao10 y158.length co10) y158) ∧ ofT w w' gb153 ad162 l0_0 c0_0 A0_1 l0_1 c0_1 gb154 gb161 Ao30 x162000_1 co30 Ao10 y158 co10 gb163 A162_0 x4_1 c162_0 A162_1 c162_1 A162_2 c162_2 A162_3 c162_3) ?_ ?_
          · skip
            rintro ⟨v165, v168, v171, v174⟩ w39 ⟨hS_, h0_, h1_, h2_, h3_, h4_, h5_, h6_, h7_, h8_⟩
            try dsimp only at h0_ h1_ h2_ h3_ h4_ h5_ h6_ h7_ h8_
            have n0 := ofA h0_; have n1 := ofA h1_; have n2 := ofA h2_; have n3 := ofA h3_; have n4 := ofA h4_; have n5 := ofA h5_; have n6 := ofA h6_; have n7 := ofA h7_; have n8 := ofA h8_; clear O13 O14 BK153 BK154 BK161 BK163 HB h0_ h1_ h2_ h3_ h4_ h5_ h6_ h7_ h8_; have O32 := n0; have O34 := n1; have O13 := n2; have O14 := n3; have BK153 := n4; have BK154 := n5; have BK161 := n6; have BK163 := n7; have HB := n8; clear n0 n1 n2 n3 n4 n5 n6 n7 n8
            have hHeld := hS_
            refine norm_ (a' := ?_) ?_ ?_
            rotate_left
            · simp only [putAll, Act.put, List.setIfInBounds_toArray, List.set_cons_zero, List.set_cons_succ]
              rfl
            refine two_ (i := 10) (j := 14) (Ni := some 33) (Nj := some 37) ofL40 ofL39 rfl rfl rfl rfl (two_of HT_.out (by kernel_rfl)) (by decide) (by decide) (fun K hK => ?_) (fun K hK => ?_)
            · skip
              refine Kd.R_lit_step Kd.string _ 9 ?hg (N := 33) ?hd (xs := ([] : List ByteArray)) (inner := []) (ok := fun _ => True) (okp := fun _ => True) ?hr ?hp (fun _ hk => hk) trivial (Below.refl _ _) (Nat.le_refl _) (by simp) ?_; (case hd => rfl); (case hg => rfl); (case hr => first | (go_simp; done) | (go_simp; rfl)); (case hp => exact (Reps.none _ _))
              intro v177 w40 ho41 hb hg_ hnew_; clear hg_ hnew_
              (first | rw [← Ny176.out] at ho41 | (simp only [Int.reduceToNat] at ho41; rw [← Ny176.out] at ho41))
              have n0 := ofA (Kd.S_elder' O13.out (Kd.R_base ho41) hb); have n1 := ofA (Kd.R_elder' O14.out (Kd.R_base ho41) hb); have n2 := ofA (Kd.R_elder' O32.out (Kd.R_base ho41) hb); have n3 := ofA (Kd.R_elder' O34.out (Kd.R_base ho41) hb)
              have n4 := ofA (Kd.R_lower (Kd.R_new' (Kd.R_new' (Kd.R_new' ho41 (Kd.R_lt O14.out)) (Kd.R_lt O32.out)) (Kd.R_lt O34.out)) (below_size HB.out))
              have n9 := ofA (below_step HB.out hb); replace BK153 := ofA (blk_below BK153.out hb); replace BK154 := ofA (blk_below BK154.out hb); replace BK161 := ofA (blk_below BK161.out hb); replace BK163 := ofA (blk_below BK163.out hb); clear O13 O14 O32 O34 HB; have O13 := n0; have O14 := n1; have O32 := n2; have O34 := n3; have O33 := n4; have HB := n9; clear n0 n1 n2 n3 n4 n9 hb ho41
              refine hK.out _ _ (ofM BK161.out BK163.out) (fun hHeld => ?_)
              clear hK K
              refine norm_ (a' := ?_) ?_ ?_
              rotate_left
              · show Act.put _ (some 33) _ = _
                simp only [Act.put, List.setIfInBounds_toArray, List.set_cons_zero, List.set_cons_succ, i64_w, i32_w]
                rfl
              exact norm_ (by rfl) (J4 (v165, v168, v171, v174, v177) _ ⟨hHeld, (Kd.R_mono O32.out (fun _ hk => ⟨hk.1.1, ⟨hk.2, hk.1.2⟩⟩)), (Kd.R_mono O34.out (fun _ hk => ⟨hk.1.1, ⟨hk.2, hk.1.2⟩⟩)), (Kd.R_mono O33.out (fun _ hk => ⟨hk.1.2, ⟨hk.2, hk.1.1.2⟩⟩)), (Kd.S_mono O13.out (fun _ hk => ⟨hk.1.1, ⟨hk.1.2.1, ⟨hk.2, hk.1.2.2⟩⟩⟩)), (Kd.R_mono O14.out (fun _ hk => ⟨hk.1.1, ⟨hk.1.2, hk.2⟩⟩)), BK153.out, BK154.out, BK161.out, BK163.out, HB.out⟩)
            · skip
              refine Kd.R_lit_step Kd.string _ 9 ?hg (N := 37) ?hd (xs := ([] : List ByteArray)) (inner := []) (ok := fun _ => True) (okp := fun _ => True) ?hr ?hp (fun _ hk => hk) trivial (Below.refl _ _) (Nat.le_refl _) (by simp) ?_; (case hd => rfl); (case hg => rfl); (case hr => first | (go_simp; done) | (go_simp; rfl)); (case hp => exact (Reps.none _ _))
              intro v183 w40 ho41 hb hg_ hnew_; clear hg_ hnew_
              (first | rw [← Ny182.out] at ho41 | (simp only [Int.reduceToNat] at ho41; rw [← Ny182.out] at ho41))
              have n0 := ofA (Kd.S_elder' O13.out (Kd.R_base ho41) hb); have n1 := ofA (Kd.R_elder' O14.out (Kd.R_base ho41) hb); have n2 := ofA (Kd.R_elder' O32.out (Kd.R_base ho41) hb); have n3 := ofA (Kd.R_elder' O34.out (Kd.R_base ho41) hb)
              have n4 := ofA (Kd.R_lower (Kd.R_new' (Kd.R_new' (Kd.R_new' ho41 (Kd.R_lt O14.out)) (Kd.R_lt O32.out)) (Kd.R_lt O34.out)) (below_size HB.out))
              have n9 := ofA (below_step HB.out hb); replace BK153 := ofA (blk_below BK153.out hb); replace BK154 := ofA (blk_below BK154.out hb); replace BK161 := ofA (blk_below BK161.out hb); replace BK163 := ofA (blk_below BK163.out hb); clear O13 O14 O32 O34 HB; have O13 := n0; have O14 := n1; have O32 := n2; have O34 := n3; have O28 := n4; have HB := n9; clear n0 n1 n2 n3 n4 n9 hb ho41
              refine hK.out _ _ (ofM BK161.out BK163.out) (fun hHeld => ?_)
              clear hK K
              refine norm_ (a' := ?_) ?_ ?_
              rotate_left
              · show Act.put _ (some 37) _ = _
                simp only [Act.put, List.setIfInBounds_toArray, List.set_cons_zero, List.set_cons_succ, i64_w, i32_w]
                rfl
              exact norm_ (by rfl) (J5 (v165, v168, v171, v174, v183) _ ⟨hHeld, (Kd.R_mono O32.out (fun _ hk => ⟨hk.1.1, ⟨hk.2, hk.1.2⟩⟩)), (Kd.R_mono O34.out (fun _ hk => ⟨hk.1.1, ⟨hk.2, hk.1.2⟩⟩)), (Kd.R_mono O28.out (fun _ hk => ⟨hk.1.2, ⟨hk.2, hk.1.1.2⟩⟩)), (Kd.S_mono O13.out (fun _ hk => ⟨hk.1.1, ⟨hk.1.2.1, ⟨hk.2, hk.1.2.2⟩⟩⟩)), (Kd.R_mono O14.out (fun _ hk => ⟨hk.1.1, ⟨hk.1.2, hk.2⟩⟩)), BK153.out, BK154.out, BK161.out, BK163.out, HB.out⟩)
          intro J11
          refine join_ (σ := Value × Value × Value × Value) 9 ofL36 (fun s_ => [(25, s_.1), (28, s_.2.1), (29, s_.2.2.1), (33, s_.2.2.2)]) (fun s_ w' => (ofH w' gb161 Ao30 x162000_1 co30 Ao10 y158 co10 gb163 A162_0 l0_0 x4_1 c162_0 A162_1 c162_1 A162_2 c162_2 A162_3 c162_3) ∧ (Kd.R Kd.string 9 w' w.heap.size (fun k_ => Nb k_ s_.2.2.1 ∧ Nb k_ s_.2.2.2 ∧ Nb k_ (.slice Ao10 y158.length co10)) s_.2.1 y167) ∧ (Kd.R Kd.string 9 w' w.heap.size (fun k_ => Nb k_ s_.2.1 ∧ Nb k_ s_.2.2.2 ∧ Nb k_ (.slice Ao10 y158.length co10)) s_.2.2.1 y170) ∧ (Kd.R Kd.string 9 w' w.heap.size (fun k_ => Nb k_ s_.2.1 ∧ Nb k_ s_.2.2.1 ∧ Nb k_ (.slice Ao10 y158.length co10)) s_.2.2.2 y176) ∧ (Kd.S k43 43 w' w.heap.size (fun k_ => Nb k_ s_.2.1 ∧ Nb k_ s_.2.2.1 ∧ Nb k_ s_.2.2.2 ∧ Nb k_ (.slice Ao10 y158.length co10)) (.slice Ao30 x162000_1.length co30) x162000_1) ∧ (Kd.R Kd.string 9 w' w.heap.size (fun k_ => Nb k_ s_.2.1 ∧ Nb k_ s_.2.2.1 ∧ Nb k_ s_.2.2.2) (.slice Ao10 y158.length co10) y158) ∧ ofT w w' gb153 ad162 l0_0 c0_0 A0_1 l0_1 c0_1 gb154 gb161 Ao30 x162000_1 co30 Ao10 y158 co10 gb163 A162_0 x4_1 c162_0 A162_1 c162_1 A162_2 c162_2 A162_3 c162_3) ?_ ?_
          · skip
            rintro ⟨v165, v168, v171, v177⟩ w40 ⟨hS_, h0_, h1_, h2_, h3_, h4_, h5_, h6_, h7_, h8_, h9_⟩
            try dsimp only at h0_ h1_ h2_ h3_ h4_ h5_ h6_ h7_ h8_ h9_
            have n0 := ofA h0_; have n1 := ofA h1_; have n2 := ofA h2_; have n3 := ofA h3_; have n4 := ofA h4_; have n5 := ofA h5_; have n6 := ofA h6_; have n7 := ofA h7_; have n8 := ofA h8_; have n9 := ofA h9_; clear O13 O14 BK153 BK154 BK161 BK163 HB h0_ h1_ h2_ h3_ h4_ h5_ h6_ h7_ h8_ h9_; have O32 := n0; have O29 := n1; have O33 := n2; have O13 := n3; have O14 := n4; have BK153 := n5; have BK154 := n6; have BK161 := n7; have BK163 := n8; have HB := n9; clear n0 n1 n2 n3 n4 n5 n6 n7 n8 n9
            have hHeld := hS_
            refine norm_ (a' := ?_) ?_ ?_
            rotate_left
            · simp only [putAll, Act.put, List.setIfInBounds_toArray, List.set_cons_zero, List.set_cons_succ]
              rfl
            refine two_ (i := 9) (j := 14) (Ni := some 32) (Nj := some 37) ofL40 ofL37 rfl rfl rfl rfl (two_of HT_.out (by kernel_rfl)) (by decide) (by decide) (fun K hK => ?_) (fun K hK => ?_)
            · skip
              refine Kd.R_append_rows_step Kd.string (w0 := w) w.heap.size (by rfl) (.tmp 29) (.tmp 31) 23 9 (.string ⟨#[]⟩) 16 rfl Tryz.underlying23 info9 rfl (by decide) (by omega) v171 y170 ((rd_T38 l0_0 x4_1).f1) _ _ _ (fun k_ => Nb k_ (.slice Ao10 y158.length co10) ∧ Nb k_ v168 ∧ Nb k_ v177) (fun _ => False) rfl rfl ?aO ?aR (fun _ _ h => h) (fun _ h => h.elim) ?aF ?aB ?aS ?aL ?_
              (case aR => repeat (first | exact (Kd.C_below HR162_1.out HB.out) | (with_reducible refine Kd.C_alloc ?_ _) | (with_reducible refine Kd.C_drewN ?_ _) | (with_reducible refine Kd.C_drew ?_)))
              (case aB => exact HB.out)
              (case aF => exact (fun k_ hk => ⟨Kd.fresh' (Kd.R_lt O14.out) k_ hk, Kd.fresh' (Kd.R_lt O32.out) k_ hk, Kd.fresh' (Kd.R_lt O33.out) k_ hk⟩))
              (case aO => exact (Kd.R_mono O29.out (fun _ hk => ⟨hk.2.2, ⟨hk.1, hk.2.1⟩⟩)))
              (case aS => exact (below_size HB.out))
              (case aL => have := LMc18.out; omega)
              intro v174 w41 ho hb hg hat
              rw [← Ny173.out] at ho
              have n0 := ofA (Kd.S_after (ok := (fun k_ => Nb k_ (.slice Ao10 y158.length co10) ∧ Nb k_ v168 ∧ Nb k_ v177)) (Kd.S_mono O13.out (fun _ hk => ⟨⟨hk.2.2.2, ⟨hk.1, hk.2.2.1⟩⟩, hk.2.1⟩)) hg hat)
              have n1 := ofA (Kd.R_after (ok := (fun k_ => Nb k_ v168 ∧ Nb k_ v177)) (Kd.R_mono O14.out (fun _ hk => ⟨⟨hk.1, hk.2.2⟩, hk.2.1⟩)) hg hat)
              have n6 := ofA (Kd.R_after (ok := (fun k_ => Nb k_ (.slice Ao10 y158.length co10) ∧ Nb k_ v177)) (Kd.R_mono O32.out (fun _ hk => ⟨⟨hk.2.2, hk.2.1⟩, hk.1⟩)) hg hat)
              have n7 := ofA (Kd.R_after (ok := (fun k_ => Nb k_ (.slice Ao10 y158.length co10) ∧ Nb k_ v168)) (Kd.R_mono O33.out (fun _ hk => ⟨⟨hk.2.2, hk.1⟩, hk.2.1⟩)) hg hat)
              have n8 := ofA (hb); have n9 := ofA (ho); replace BK153 := ofA (blk_grown BK153.out hg (Kd.R_ne O29.out BK153.out (by decide))); replace BK154 := ofA (blk_grown BK154.out hg (Kd.R_ne O29.out BK154.out (by decide))); replace BK161 := ofA (blk_grown BK161.out hg (Kd.R_ne O29.out BK161.out (by decide))); replace BK163 := ofA (blk_grown BK163.out hg (Kd.R_ne O29.out BK163.out (by decide))); clear O13 O14 O32 O33 HB O29; have O13 := n0; have O14 := n1; have O32 := n6; have O33 := n7; have HB := n8; have O34 := n9; clear n0 n1 n6 n7 n8 n9 ho hb hg hat
              refine hK.out _ _ (ofM BK161.out BK163.out) (fun hHeld => ?_)
              clear hK K
              refine norm_ (a' := ?_) ?_ ?_
              rotate_left
              · show Act.put _ (some 32) _ = _
                simp only [Act.put, List.setIfInBounds_toArray, List.set_cons_zero, List.set_cons_succ, i64_w, i32_w]
                rfl
              exact norm_ (by rfl) (J4 (v165, v168, v171, v174, v177) _ ⟨hHeld, (Kd.R_mono O32.out (fun _ hk => ⟨hk.2, ⟨hk.1.2, hk.1.1⟩⟩)), (Kd.R_mono O34.out (fun _ hk => ⟨hk.2.1, ⟨hk.2.2, hk.1⟩⟩)), (Kd.R_mono O33.out (fun _ hk => ⟨hk.1.2, ⟨hk.2, hk.1.1⟩⟩)), (Kd.S_mono O13.out (fun _ hk => ⟨hk.1.2.1, ⟨hk.2, ⟨hk.1.2.2, hk.1.1⟩⟩⟩)), (Kd.R_mono O14.out (fun _ hk => ⟨hk.1.1, ⟨hk.2, hk.1.2⟩⟩)), BK153.out, BK154.out, BK161.out, BK163.out, HB.out⟩)
            · skip
              refine Kd.R_lit_step Kd.string _ 9 ?hg (N := 37) ?hd (xs := ([] : List ByteArray)) (inner := []) (ok := fun _ => True) (okp := fun _ => True) ?hr ?hp (fun _ hk => hk) trivial (Below.refl _ _) (Nat.le_refl _) (by simp) ?_; (case hd => rfl); (case hg => rfl); (case hr => first | (go_simp; done) | (go_simp; rfl)); (case hp => exact (Reps.none _ _))
              intro v183 w41 ho42 hb hg_ hnew_; clear hg_ hnew_
              (first | rw [← Ny182.out] at ho42 | (simp only [Int.reduceToNat] at ho42; rw [← Ny182.out] at ho42))
              have n0 := ofA (Kd.S_elder' O13.out (Kd.R_base ho42) hb); have n1 := ofA (Kd.R_elder' O14.out (Kd.R_base ho42) hb); have n2 := ofA (Kd.R_elder' O32.out (Kd.R_base ho42) hb); have n3 := ofA (Kd.R_elder' O29.out (Kd.R_base ho42) hb); have n4 := ofA (Kd.R_elder' O33.out (Kd.R_base ho42) hb)
              have n5 := ofA (Kd.R_lower (Kd.R_new' (Kd.R_new' (Kd.R_new' (Kd.R_new' ho42 (Kd.R_lt O14.out)) (Kd.R_lt O32.out)) (Kd.R_lt O29.out)) (Kd.R_lt O33.out)) (below_size HB.out))
              have n10 := ofA (below_step HB.out hb); replace BK153 := ofA (blk_below BK153.out hb); replace BK154 := ofA (blk_below BK154.out hb); replace BK161 := ofA (blk_below BK161.out hb); replace BK163 := ofA (blk_below BK163.out hb); clear O13 O14 O32 O29 O33 HB; have O13 := n0; have O14 := n1; have O32 := n2; have O29 := n3; have O33 := n4; have O28 := n5; have HB := n10; clear n0 n1 n2 n3 n4 n5 n10 hb ho42
              refine hK.out _ _ (ofM BK161.out BK163.out) (fun hHeld => ?_)
              clear hK K
              refine norm_ (a' := ?_) ?_ ?_
              rotate_left
              · show Act.put _ (some 37) _ = _
                simp only [Act.put, List.setIfInBounds_toArray, List.set_cons_zero, List.set_cons_succ, i64_w, i32_w]
                rfl
              exact norm_ (by rfl) (J3 (v165, v168, v171, v177, v183) _ ⟨hHeld, (Kd.R_mono O32.out (fun _ hk => ⟨hk.1.1, ⟨hk.1.2.1, ⟨hk.2, hk.1.2.2⟩⟩⟩)), (Kd.R_mono O29.out (fun _ hk => ⟨hk.1.1, ⟨hk.1.2.1, ⟨hk.2, hk.1.2.2⟩⟩⟩)), (Kd.R_mono O33.out (fun _ hk => ⟨hk.1.1, ⟨hk.1.2.1, ⟨hk.2, hk.1.2.2⟩⟩⟩)), (Kd.R_mono O28.out (fun _ hk => ⟨hk.1.1.2, ⟨hk.1.2, ⟨hk.2, hk.1.1.1.2⟩⟩⟩)), (Kd.S_mono O13.out (fun _ hk => ⟨hk.1.1, ⟨hk.1.2.1, ⟨hk.1.2.2.1, ⟨hk.2, hk.1.2.2.2⟩⟩⟩⟩)), (Kd.R_mono O14.out (fun _ hk => ⟨hk.1.1, ⟨hk.1.2.1, ⟨hk.1.2.2, hk.2⟩⟩⟩)), BK153.out, BK154.out, BK161.out, BK163.out, HB.out⟩)
          intro J8
          refine join_ (σ := Value × Value × Value × Value) 9 ofL35 (fun s_ => [(25, s_.1), (28, s_.2.1), (29, s_.2.2.1), (37, s_.2.2.2)]) (fun s_ w' => (ofH w' gb161 Ao30 x162000_1 co30 Ao10 y158 co10 gb163 A162_0 l0_0 x4_1 c162_0 A162_1 c162_1 A162_2 c162_2 A162_3 c162_3) ∧ (Kd.R Kd.string 9 w' w.heap.size (fun k_ => Nb k_ s_.2.2.1 ∧ Nb k_ s_.2.2.2 ∧ Nb k_ (.slice Ao10 y158.length co10)) s_.2.1 y167) ∧ (Kd.R Kd.string 9 w' w.heap.size (fun k_ => Nb k_ s_.2.1 ∧ Nb k_ s_.2.2.2 ∧ Nb k_ (.slice Ao10 y158.length co10)) s_.2.2.1 y170) ∧ (Kd.R Kd.string 9 w' w.heap.size (fun k_ => Nb k_ s_.2.1 ∧ Nb k_ s_.2.2.1 ∧ Nb k_ (.slice Ao10 y158.length co10)) s_.2.2.2 y182) ∧ (Kd.S k43 43 w' w.heap.size (fun k_ => Nb k_ s_.2.1 ∧ Nb k_ s_.2.2.1 ∧ Nb k_ s_.2.2.2 ∧ Nb k_ (.slice Ao10 y158.length co10)) (.slice Ao30 x162000_1.length co30) x162000_1) ∧ (Kd.R Kd.string 9 w' w.heap.size (fun k_ => Nb k_ s_.2.1 ∧ Nb k_ s_.2.2.1 ∧ Nb k_ s_.2.2.2) (.slice Ao10 y158.length co10) y158) ∧ ofT w w' gb153 ad162 l0_0 c0_0 A0_1 l0_1 c0_1 gb154 gb161 Ao30 x162000_1 co30 Ao10 y158 co10 gb163 A162_0 x4_1 c162_0 A162_1 c162_1 A162_2 c162_2 A162_3 c162_3) ?_ ?_
          · skip
            rintro ⟨v165, v168, v171, v183⟩ w40 ⟨hS_, h0_, h1_, h2_, h3_, h4_, h5_, h6_, h7_, h8_, h9_⟩
            try dsimp only at h0_ h1_ h2_ h3_ h4_ h5_ h6_ h7_ h8_ h9_
            have n0 := ofA h0_; have n1 := ofA h1_; have n2 := ofA h2_; have n3 := ofA h3_; have n4 := ofA h4_; have n5 := ofA h5_; have n6 := ofA h6_; have n7 := ofA h7_; have n8 := ofA h8_; have n9 := ofA h9_; clear O13 O14 BK153 BK154 BK161 BK163 HB h0_ h1_ h2_ h3_ h4_ h5_ h6_ h7_ h8_ h9_; have O32 := n0; have O29 := n1; have O28 := n2; have O13 := n3; have O14 := n4; have BK153 := n5; have BK154 := n6; have BK161 := n7; have BK163 := n8; have HB := n9; clear n0 n1 n2 n3 n4 n5 n6 n7 n8 n9
            have hHeld := hS_
            refine norm_ (a' := ?_) ?_ ?_
            rotate_left
            · simp only [putAll, Act.put, List.setIfInBounds_toArray, List.set_cons_zero, List.set_cons_succ]
              rfl
            refine two_ (i := 9) (j := 10) (Ni := some 32) (Nj := some 33) ofL39 ofL37 rfl rfl rfl rfl (two_of HT_.out (by kernel_rfl)) (by decide) (by decide) (fun K hK => ?_) (fun K hK => ?_)
            · skip
              refine Kd.R_append_rows_step Kd.string (w0 := w) w.heap.size (by rfl) (.tmp 29) (.tmp 31) 23 9 (.string ⟨#[]⟩) 16 rfl Tryz.underlying23 info9 rfl (by decide) (by omega) v171 y170 ((rd_T38 l0_0 x4_1).f1) _ _ _ (fun k_ => Nb k_ (.slice Ao10 y158.length co10) ∧ Nb k_ v168 ∧ Nb k_ v183) (fun _ => False) rfl rfl ?aO ?aR (fun _ _ h => h) (fun _ h => h.elim) ?aF ?aB ?aS ?aL ?_
              (case aR => repeat (first | exact (Kd.C_below HR162_1.out HB.out) | (with_reducible refine Kd.C_alloc ?_ _) | (with_reducible refine Kd.C_drewN ?_ _) | (with_reducible refine Kd.C_drew ?_)))
              (case aB => exact HB.out)
              (case aF => exact (fun k_ hk => ⟨Kd.fresh' (Kd.R_lt O14.out) k_ hk, Kd.fresh' (Kd.R_lt O32.out) k_ hk, Kd.fresh' (Kd.R_lt O28.out) k_ hk⟩))
              (case aO => exact (Kd.R_mono O29.out (fun _ hk => ⟨hk.2.2, ⟨hk.1, hk.2.1⟩⟩)))
              (case aS => exact (below_size HB.out))
              (case aL => have := LMc18.out; omega)
              intro v174 w41 ho hb hg hat
              rw [← Ny173.out] at ho
              have n0 := ofA (Kd.S_after (ok := (fun k_ => Nb k_ (.slice Ao10 y158.length co10) ∧ Nb k_ v168 ∧ Nb k_ v183)) (Kd.S_mono O13.out (fun _ hk => ⟨⟨hk.2.2.2, ⟨hk.1, hk.2.2.1⟩⟩, hk.2.1⟩)) hg hat)
              have n1 := ofA (Kd.R_after (ok := (fun k_ => Nb k_ v168 ∧ Nb k_ v183)) (Kd.R_mono O14.out (fun _ hk => ⟨⟨hk.1, hk.2.2⟩, hk.2.1⟩)) hg hat)
              have n6 := ofA (Kd.R_after (ok := (fun k_ => Nb k_ (.slice Ao10 y158.length co10) ∧ Nb k_ v183)) (Kd.R_mono O32.out (fun _ hk => ⟨⟨hk.2.2, hk.2.1⟩, hk.1⟩)) hg hat)
              have n7 := ofA (Kd.R_after (ok := (fun k_ => Nb k_ (.slice Ao10 y158.length co10) ∧ Nb k_ v168)) (Kd.R_mono O28.out (fun _ hk => ⟨⟨hk.2.2, hk.1⟩, hk.2.1⟩)) hg hat)
              have n8 := ofA (hb); have n9 := ofA (ho); replace BK153 := ofA (blk_grown BK153.out hg (Kd.R_ne O29.out BK153.out (by decide))); replace BK154 := ofA (blk_grown BK154.out hg (Kd.R_ne O29.out BK154.out (by decide))); replace BK161 := ofA (blk_grown BK161.out hg (Kd.R_ne O29.out BK161.out (by decide))); replace BK163 := ofA (blk_grown BK163.out hg (Kd.R_ne O29.out BK163.out (by decide))); clear O13 O14 O32 O28 HB O29; have O13 := n0; have O14 := n1; have O32 := n6; have O28 := n7; have HB := n8; have O34 := n9; clear n0 n1 n6 n7 n8 n9 ho hb hg hat
              refine hK.out _ _ (ofM BK161.out BK163.out) (fun hHeld => ?_)
              clear hK K
              refine norm_ (a' := ?_) ?_ ?_
              rotate_left
              · show Act.put _ (some 32) _ = _
                simp only [Act.put, List.setIfInBounds_toArray, List.set_cons_zero, List.set_cons_succ, i64_w, i32_w]
                rfl
              exact norm_ (by rfl) (J5 (v165, v168, v171, v174, v183) _ ⟨hHeld, (Kd.R_mono O32.out (fun _ hk => ⟨hk.2, ⟨hk.1.2, hk.1.1⟩⟩)), (Kd.R_mono O34.out (fun _ hk => ⟨hk.2.1, ⟨hk.2.2, hk.1⟩⟩)), (Kd.R_mono O28.out (fun _ hk => ⟨hk.1.2, ⟨hk.2, hk.1.1⟩⟩)), (Kd.S_mono O13.out (fun _ hk => ⟨hk.1.2.1, ⟨hk.2, ⟨hk.1.2.2, hk.1.1⟩⟩⟩)), (Kd.R_mono O14.out (fun _ hk => ⟨hk.1.1, ⟨hk.2, hk.1.2⟩⟩)), BK153.out, BK154.out, BK161.out, BK163.out, HB.out⟩)
            · skip
              refine Kd.R_lit_step Kd.string _ 9 ?hg (N := 33) ?hd (xs := ([] : List ByteArray)) (inner := []) (ok := fun _ => True) (okp := fun _ => True) ?hr ?hp (fun _ hk => hk) trivial (Below.refl _ _) (Nat.le_refl _) (by simp) ?_; (case hd => rfl); (case hg => rfl); (case hr => first | (go_simp; done) | (go_simp; rfl)); (case hp => exact (Reps.none _ _))
              intro v177 w41 ho42 hb hg_ hnew_; clear hg_ hnew_
              (first | rw [← Ny176.out] at ho42 | (simp only [Int.reduceToNat] at ho42; rw [← Ny176.out] at ho42))
              have n0 := ofA (Kd.S_elder' O13.out (Kd.R_base ho42) hb); have n1 := ofA (Kd.R_elder' O14.out (Kd.R_base ho42) hb); have n2 := ofA (Kd.R_elder' O32.out (Kd.R_base ho42) hb); have n3 := ofA (Kd.R_elder' O29.out (Kd.R_base ho42) hb); have n4 := ofA (Kd.R_elder' O28.out (Kd.R_base ho42) hb)
              have n5 := ofA (Kd.R_lower (Kd.R_new' (Kd.R_new' (Kd.R_new' (Kd.R_new' ho42 (Kd.R_lt O14.out)) (Kd.R_lt O32.out)) (Kd.R_lt O29.out)) (Kd.R_lt O28.out)) (below_size HB.out))
              have n10 := ofA (below_step HB.out hb); replace BK153 := ofA (blk_below BK153.out hb); replace BK154 := ofA (blk_below BK154.out hb); replace BK161 := ofA (blk_below BK161.out hb); replace BK163 := ofA (blk_below BK163.out hb); clear O13 O14 O32 O29 O28 HB; have O13 := n0; have O14 := n1; have O32 := n2; have O29 := n3; have O28 := n4; have O33 := n5; have HB := n10; clear n0 n1 n2 n3 n4 n5 n10 hb ho42
              refine hK.out _ _ (ofM BK161.out BK163.out) (fun hHeld => ?_)
              clear hK K
              refine norm_ (a' := ?_) ?_ ?_
              rotate_left
              · show Act.put _ (some 33) _ = _
                simp only [Act.put, List.setIfInBounds_toArray, List.set_cons_zero, List.set_cons_succ, i64_w, i32_w]
                rfl
              exact norm_ (by rfl) (J3 (v165, v168, v171, v177, v183) _ ⟨hHeld, (Kd.R_mono O32.out (fun _ hk => ⟨hk.1.1, ⟨hk.2, ⟨hk.1.2.1, hk.1.2.2⟩⟩⟩)), (Kd.R_mono O29.out (fun _ hk => ⟨hk.1.1, ⟨hk.2, ⟨hk.1.2.1, hk.1.2.2⟩⟩⟩)), (Kd.R_mono O33.out (fun _ hk => ⟨hk.1.1.2, ⟨hk.1.2, ⟨hk.2, hk.1.1.1.2⟩⟩⟩)), (Kd.R_mono O28.out (fun _ hk => ⟨hk.1.1, ⟨hk.1.2.1, ⟨hk.2, hk.1.2.2⟩⟩⟩)), (Kd.S_mono O13.out (fun _ hk => ⟨hk.1.1, ⟨hk.1.2.1, ⟨hk.2, ⟨hk.1.2.2.1, hk.1.2.2.2⟩⟩⟩⟩)), (Kd.R_mono O14.out (fun _ hk => ⟨hk.1.1, ⟨hk.1.2.1, ⟨hk.2, hk.1.2.2⟩⟩⟩)), BK153.out, BK154.out, BK161.out, BK163.out, HB.out⟩)
          intro J9
          refine join_ (σ := Value × Value × Value × Value) 9 ofL33 (fun s_ => [(25, s_.1), (28, s_.2.1), (33, s_.2.2.1), (37, s_.2.2.2)]) (fun s_ w' => (ofH w' gb161 Ao30 x162000_1 co30 Ao10 y158 co10 gb163 A162_0 l0_0 x4_1 c162_0 A162_1 c162_1 A162_2 c162_2 A162_3 c162_3) ∧ (Kd.R Kd.string 9 w' w.heap.size (fun k_ => Nb k_ s_.2.2.1 ∧ Nb k_ s_.2.2.2 ∧ Nb k_ (.slice Ao10 y158.length co10)) s_.2.1 y167) ∧ (Kd.R Kd.string 9 w' w.heap.size (fun k_ => Nb k_ s_.2.1 ∧ Nb k_ s_.2.2.2 ∧ Nb k_ (.slice Ao10 y158.length co10)) s_.2.2.1 y176) ∧ (Kd.R Kd.string 9 w' w.heap.size (fun k_ => Nb k_ s_.2.1 ∧ Nb k_ s_.2.2.1 ∧ Nb k_ (.slice Ao10 y158.length co10)) s_.2.2.2 y182) ∧ (Kd.S k43 43 w' w.heap.size (fun k_ => Nb k_ s_.2.1 ∧ Nb k_ s_.2.2.1 ∧ Nb k_ s_.2.2.2 ∧ Nb k_ (.slice Ao10 y158.length co10)) (.slice Ao30 x162000_1.length co30) x162000_1) ∧ (Kd.R Kd.string 9 w' w.heap.size (fun k_ => Nb k_ s_.2.1 ∧ Nb k_ s_.2.2.1 ∧ Nb k_ s_.2.2.2) (.slice Ao10 y158.length co10) y158) ∧ ofT w w' gb153 ad162 l0_0 c0_0 A0_1 l0_1 c0_1 gb154 gb161 Ao30 x162000_1 co30 Ao10 y158 co10 gb163 A162_0 x4_1 c162_0 A162_1 c162_1 A162_2 c162_2 A162_3 c162_3) ?_ ?_
          · skip
            rintro ⟨v165, v168, v177, v183⟩ w40 ⟨hS_, h0_, h1_, h2_, h3_, h4_, h5_, h6_, h7_, h8_, h9_⟩
            try dsimp only at h0_ h1_ h2_ h3_ h4_ h5_ h6_ h7_ h8_ h9_
            have n0 := ofA h0_; have n1 := ofA h1_; have n2 := ofA h2_; have n3 := ofA h3_; have n4 := ofA h4_; have n5 := ofA h5_; have n6 := ofA h6_; have n7 := ofA h7_; have n8 := ofA h8_; have n9 := ofA h9_; clear O13 O14 BK153 BK154 BK161 BK163 HB h0_ h1_ h2_ h3_ h4_ h5_ h6_ h7_ h8_ h9_; have O32 := n0; have O33 := n1; have O28 := n2; have O13 := n3; have O14 := n4; have BK153 := n5; have BK154 := n6; have BK161 := n7; have BK163 := n8; have HB := n9; clear n0 n1 n2 n3 n4 n5 n6 n7 n8 n9
            have hHeld := hS_
            refine norm_ (a' := ?_) ?_ ?_
            rotate_left
            · simp only [putAll, Act.put, List.setIfInBounds_toArray, List.set_cons_zero, List.set_cons_succ]
              rfl
            refine one_ (i := 6) (N := some 29) ofL37 rfl rfl (one_of HT_.out (by kernel_rfl)) (by decide) (fun K hK => ?_)
            refine Kd.R_lit_step Kd.string _ 9 ?hg (N := 29) ?hd (xs := ([] : List ByteArray)) (inner := []) (ok := fun _ => True) (okp := fun _ => True) ?hr ?hp (fun _ hk => hk) trivial (Below.refl _ _) (Nat.le_refl _) (by simp) ?_; (case hd => rfl); (case hg => rfl); (case hr => first | (go_simp; done) | (go_simp; rfl)); (case hp => exact (Reps.none _ _))
            intro v171 w41 ho42 hb hg_ hnew_; clear hg_ hnew_
            (first | rw [← Ny170.out] at ho42 | (simp only [Int.reduceToNat] at ho42; rw [← Ny170.out] at ho42))
            have n0 := ofA (Kd.S_elder' O13.out (Kd.R_base ho42) hb); have n1 := ofA (Kd.R_elder' O14.out (Kd.R_base ho42) hb); have n2 := ofA (Kd.R_elder' O32.out (Kd.R_base ho42) hb); have n3 := ofA (Kd.R_elder' O33.out (Kd.R_base ho42) hb); have n4 := ofA (Kd.R_elder' O28.out (Kd.R_base ho42) hb)
            have n5 := ofA (Kd.R_lower (Kd.R_new' (Kd.R_new' (Kd.R_new' (Kd.R_new' ho42 (Kd.R_lt O14.out)) (Kd.R_lt O32.out)) (Kd.R_lt O33.out)) (Kd.R_lt O28.out)) (below_size HB.out))
            have n10 := ofA (below_step HB.out hb); replace BK153 := ofA (blk_below BK153.out hb); replace BK154 := ofA (blk_below BK154.out hb); replace BK161 := ofA (blk_below BK161.out hb); replace BK163 := ofA (blk_below BK163.out hb); clear O13 O14 O32 O33 O28 HB; have O13 := n0; have O14 := n1; have O32 := n2; have O33 := n3; have O28 := n4; have O29 := n5; have HB := n10; clear n0 n1 n2 n3 n4 n5 n10 hb ho42
            refine hK.out _ _ (ofM BK161.out BK163.out) (fun hHeld => ?_)
            clear hK K
            refine norm_ (a' := ?_) ?_ ?_
            rotate_left
            · show Act.put _ (some 29) _ = _
              simp only [Act.put, List.setIfInBounds_toArray, List.set_cons_zero, List.set_cons_succ, i64_w, i32_w]
              rfl
            exact norm_ (by rfl) (J3 (v165, v168, v171, v177, v183) _ ⟨hHeld, (Kd.R_mono O32.out (fun _ hk => ⟨hk.2, ⟨hk.1.1, ⟨hk.1.2.1, hk.1.2.2⟩⟩⟩)), (Kd.R_mono O29.out (fun _ hk => ⟨hk.1.1.2, ⟨hk.1.2, ⟨hk.2, hk.1.1.1.2⟩⟩⟩)), (Kd.R_mono O33.out (fun _ hk => ⟨hk.1.1, ⟨hk.2, ⟨hk.1.2.1, hk.1.2.2⟩⟩⟩)), (Kd.R_mono O28.out (fun _ hk => ⟨hk.1.1, ⟨hk.2, ⟨hk.1.2.1, hk.1.2.2⟩⟩⟩)), (Kd.S_mono O13.out (fun _ hk => ⟨hk.1.1, ⟨hk.2, ⟨hk.1.2.1, ⟨hk.1.2.2.1, hk.1.2.2.2⟩⟩⟩⟩)), (Kd.R_mono O14.out (fun _ hk => ⟨hk.1.1, ⟨hk.2, ⟨hk.1.2.1, hk.1.2.2⟩⟩⟩)), BK153.out, BK154.out, BK161.out, BK163.out, HB.out⟩)
          intro J7
          refine join_ (σ := Value × Value × Value × Value) 9 ofL29 (fun s_ => [(25, s_.1), (29, s_.2.1), (33, s_.2.2.1), (37, s_.2.2.2)]) (fun s_ w' => (ofH w' gb161 Ao30 x162000_1 co30 Ao10 y158 co10 gb163 A162_0 l0_0 x4_1 c162_0 A162_1 c162_1 A162_2 c162_2 A162_3 c162_3) ∧ (Kd.R Kd.string 9 w' w.heap.size (fun k_ => Nb k_ s_.2.1 ∧ Nb k_ s_.2.2.1 ∧ Nb k_ s_.2.2.2 ∧ Nb k_ (.slice Ao10 y158.length co10)) s_.1 y164) ∧ (Kd.R Kd.string 9 w' w.heap.size (fun k_ => Nb k_ s_.1 ∧ Nb k_ s_.2.2.1 ∧ Nb k_ s_.2.2.2 ∧ Nb k_ (.slice Ao10 y158.length co10)) s_.2.1 y170) ∧ (Kd.R Kd.string 9 w' w.heap.size (fun k_ => Nb k_ s_.1 ∧ Nb k_ s_.2.1 ∧ Nb k_ s_.2.2.2 ∧ Nb k_ (.slice Ao10 y158.length co10)) s_.2.2.1 y176) ∧ (Kd.R Kd.string 9 w' w.heap.size (fun k_ => Nb k_ s_.1 ∧ Nb k_ s_.2.1 ∧ Nb k_ s_.2.2.1 ∧ Nb k_ (.slice Ao10 y158.length co10)) s_.2.2.2 y182) ∧ (Kd.S k43 43 w' w.heap.size (fun k_ => Nb k_ s_.1 ∧ Nb k_ s_.2.1 ∧ Nb k_ s_.2.2.1 ∧ Nb k_ s_.2.2.2 ∧ Nb k_ (.slice Ao10 y158.length co10)) (.slice Ao30 x162000_1.length co30) x162000_1) ∧ (Kd.R Kd.string 9 w' w.heap.size (fun k_ => Nb k_ s_.1 ∧ Nb k_ s_.2.1 ∧ Nb k_ s_.2.2.1 ∧ Nb k_ s_.2.2.2) (.slice Ao10 y158.length co10) y158) ∧ ofT w w' gb153 ad162 l0_0 c0_0 A0_1 l0_1 c0_1 gb154 gb161 Ao30 x162000_1 co30 Ao10 y158 co10 gb163 A162_0 x4_1 c162_0 A162_1 c162_1 A162_2 c162_2 A162_3 c162_3) ?_ ?_
          · skip
            rintro ⟨v165, v171, v177, v183⟩ w41 ⟨hS_, h0_, h1_, h2_, h3_, h4_, h5_, h6_, h7_, h8_, h9_, h10_⟩
            try dsimp only at h0_ h1_ h2_ h3_ h4_ h5_ h6_ h7_ h8_ h9_ h10_
            have n0 := ofA h0_; have n1 := ofA h1_; have n2 := ofA h2_; have n3 := ofA h3_; have n4 := ofA h4_; have n5 := ofA h5_; have n6 := ofA h6_; have n7 := ofA h7_; have n8 := ofA h8_; have n9 := ofA h9_; have n10 := ofA h10_; clear O13 O14 BK153 BK154 BK161 BK163 HB h0_ h1_ h2_ h3_ h4_ h5_ h6_ h7_ h8_ h9_ h10_; have O36 := n0; have O29 := n1; have O33 := n2; have O28 := n3; have O13 := n4; have O14 := n5; have BK153 := n6; have BK154 := n7; have BK161 := n8; have BK163 := n9; have HB := n10; clear n0 n1 n2 n3 n4 n5 n6 n7 n8 n9 n10
            have hHeld := hS_
            refine norm_ (a' := ?_) ?_ ?_
            rotate_left
            · simp only [putAll, Act.put, List.setIfInBounds_toArray, List.set_cons_zero, List.set_cons_succ]
              rfl
            refine one_ (i := 5) (N := some 28) ofL37 rfl rfl (one_of HT_.out (by kernel_rfl)) (by decide) (fun K hK => ?_)
            refine Kd.R_append_rows_step Kd.string (w0 := w) w.heap.size (by rfl) (.tmp 25) (.tmp 27) 23 9 (.string ⟨#[]⟩) 16 rfl Tryz.underlying23 info9 rfl (by decide) (by omega) v165 y164 ((rd_T38 l0_0 x4_1).f0) _ _ _ (fun k_ => Nb k_ (.slice Ao10 y158.length co10) ∧ Nb k_ v171 ∧ Nb k_ v177 ∧ Nb k_ v183) (fun _ => False) rfl rfl ?aO ?aR (fun _ _ h => h) (fun _ h => h.elim) ?aF ?aB ?aS ?aL ?_
            (case aR => repeat (first | exact (Kd.C_below HR162_0.out HB.out) | (with_reducible refine Kd.C_alloc ?_ _) | (with_reducible refine Kd.C_drewN ?_ _) | (with_reducible refine Kd.C_drew ?_)))
            (case aB => exact HB.out)
            (case aF => exact (fun k_ hk => ⟨Kd.fresh' (Kd.R_lt O14.out) k_ hk, Kd.fresh' (Kd.R_lt O29.out) k_ hk, Kd.fresh' (Kd.R_lt O33.out) k_ hk, Kd.fresh' (Kd.R_lt O28.out) k_ hk⟩))
            (case aO => exact (Kd.R_mono O36.out (fun _ hk => ⟨hk.2.2.2, ⟨hk.1, ⟨hk.2.1, hk.2.2.1⟩⟩⟩)))
            (case aS => exact (below_size HB.out))
            (case aL => have := LMc17.out; omega)
            intro v168 w42 ho hb hg hat
            rw [← Ny167.out] at ho
            have n0 := ofA (Kd.S_after (ok := (fun k_ => Nb k_ (.slice Ao10 y158.length co10) ∧ Nb k_ v171 ∧ Nb k_ v177 ∧ Nb k_ v183)) (Kd.S_mono O13.out (fun _ hk => ⟨⟨hk.2.2.2.2, ⟨hk.2.1, ⟨hk.2.2.1, hk.2.2.2.1⟩⟩⟩, hk.1⟩)) hg hat)
            have n1 := ofA (Kd.R_after (ok := (fun k_ => Nb k_ v171 ∧ Nb k_ v177 ∧ Nb k_ v183)) (Kd.R_mono O14.out (fun _ hk => ⟨⟨hk.2.1, ⟨hk.2.2.1, hk.2.2.2⟩⟩, hk.1⟩)) hg hat)
            have n6 := ofA (Kd.R_after (ok := (fun k_ => Nb k_ (.slice Ao10 y158.length co10) ∧ Nb k_ v177 ∧ Nb k_ v183)) (Kd.R_mono O29.out (fun _ hk => ⟨⟨hk.2.2.2, ⟨hk.2.1, hk.2.2.1⟩⟩, hk.1⟩)) hg hat)
            have n7 := ofA (Kd.R_after (ok := (fun k_ => Nb k_ (.slice Ao10 y158.length co10) ∧ Nb k_ v171 ∧ Nb k_ v183)) (Kd.R_mono O33.out (fun _ hk => ⟨⟨hk.2.2.2, ⟨hk.2.1, hk.2.2.1⟩⟩, hk.1⟩)) hg hat)
            have n8 := ofA (Kd.R_after (ok := (fun k_ => Nb k_ (.slice Ao10 y158.length co10) ∧ Nb k_ v171 ∧ Nb k_ v177)) (Kd.R_mono O28.out (fun _ hk => ⟨⟨hk.2.2.2, ⟨hk.2.1, hk.2.2.1⟩⟩, hk.1⟩)) hg hat)
            have n9 := ofA (hb); have n10 := ofA (ho); replace BK153 := ofA (blk_grown BK153.out hg (Kd.R_ne O36.out BK153.out (by decide))); replace BK154 := ofA (blk_grown BK154.out hg (Kd.R_ne O36.out BK154.out (by decide))); replace BK161 := ofA (blk_grown BK161.out hg (Kd.R_ne O36.out BK161.out (by decide))); replace BK163 := ofA (blk_grown BK163.out hg (Kd.R_ne O36.out BK163.out (by decide))); clear O13 O14 O29 O33 O28 HB O36; have O13 := n0; have O14 := n1; have O29 := n6; have O33 := n7; have O28 := n8; have HB := n9; have O32 := n10; clear n0 n1 n6 n7 n8 n9 n10 ho hb hg hat
            refine hK.out _ _ (ofM BK161.out BK163.out) (fun hHeld => ?_)
            clear hK K
            refine norm_ (a' := ?_) ?_ ?_
            rotate_left
            · show Act.put _ (some 28) _ = _
              simp only [Act.put, List.setIfInBounds_toArray, List.set_cons_zero, List.set_cons_succ, i64_w, i32_w]
              rfl
            exact norm_ (by rfl) (J3 (v165, v168, v171, v177, v183) _ ⟨hHeld, (Kd.R_mono O32.out (fun _ hk => ⟨hk.2.1, ⟨hk.2.2.1, ⟨hk.2.2.2, hk.1⟩⟩⟩)), (Kd.R_mono O29.out (fun _ hk => ⟨hk.2, ⟨hk.1.2.1, ⟨hk.1.2.2, hk.1.1⟩⟩⟩)), (Kd.R_mono O33.out (fun _ hk => ⟨hk.2, ⟨hk.1.2.1, ⟨hk.1.2.2, hk.1.1⟩⟩⟩)), (Kd.R_mono O28.out (fun _ hk => ⟨hk.2, ⟨hk.1.2.1, ⟨hk.1.2.2, hk.1.1⟩⟩⟩)), (Kd.S_mono O13.out (fun _ hk => ⟨hk.2, ⟨hk.1.2.1, ⟨hk.1.2.2.1, ⟨hk.1.2.2.2, hk.1.1⟩⟩⟩⟩)), (Kd.R_mono O14.out (fun _ hk => ⟨hk.2, ⟨hk.1.1, ⟨hk.1.2.1, hk.1.2.2⟩⟩⟩)), BK153.out, BK154.out, BK161.out, BK163.out, HB.out⟩)
          intro J6
          refine join_ (σ := Value × Value × Value) 10 ofL34 (fun s_ => [(25, s_.1), (28, s_.2.1), (29, s_.2.2)]) (fun s_ w' => (ofH w' gb161 Ao30 x162000_1 co30 Ao10 y158 co10 gb163 A162_0 l0_0 x4_1 c162_0 A162_1 c162_1 A162_2 c162_2 A162_3 c162_3) ∧ (Kd.R Kd.string 9 w' w.heap.size (fun k_ => Nb k_ s_.2.2 ∧ Nb k_ (.slice Ao10 y158.length co10)) s_.2.1 y167) ∧ (Kd.R Kd.string 9 w' w.heap.size (fun k_ => Nb k_ s_.2.1 ∧ Nb k_ (.slice Ao10 y158.length co10)) s_.2.2 y170) ∧ (Kd.S k43 43 w' w.heap.size (fun k_ => Nb k_ s_.2.1 ∧ Nb k_ s_.2.2 ∧ Nb k_ (.slice Ao10 y158.length co10)) (.slice Ao30 x162000_1.length co30) x162000_1) ∧ (Kd.R Kd.string 9 w' w.heap.size (fun k_ => Nb k_ s_.2.1 ∧ Nb k_ s_.2.2) (.slice Ao10 y158.length co10) y158) ∧ ofT w w' gb153 ad162 l0_0 c0_0 A0_1 l0_1 c0_1 gb154 gb161 Ao30 x162000_1 co30 Ao10 y158 co10 gb163 A162_0 x4_1 c162_0 A162_1 c162_1 A162_2 c162_2 A162_3 c162_3) ?_ ?_
          · skip
            rintro ⟨v165, v168, v171⟩ w38 ⟨hS_, h0_, h1_, h2_, h3_, h4_, h5_, h6_, h7_, h8_⟩
            try dsimp only at h0_ h1_ h2_ h3_ h4_ h5_ h6_ h7_ h8_
            have n0 := ofA h0_; have n1 := ofA h1_; have n2 := ofA h2_; have n3 := ofA h3_; have n4 := ofA h4_; have n5 := ofA h5_; have n6 := ofA h6_; have n7 := ofA h7_; have n8 := ofA h8_; clear O13 O14 BK153 BK154 BK161 BK163 HB h0_ h1_ h2_ h3_ h4_ h5_ h6_ h7_ h8_; have O32 := n0; have O29 := n1; have O13 := n2; have O14 := n3; have BK153 := n4; have BK154 := n5; have BK161 := n6; have BK163 := n7; have HB := n8; clear n0 n1 n2 n3 n4 n5 n6 n7 n8
            have hHeld := hS_
            refine norm_ (a' := ?_) ?_ ?_
            rotate_left
            · simp only [putAll, Act.put, List.setIfInBounds_toArray, List.set_cons_zero, List.set_cons_succ]
              rfl
            refine three_ (i := 9) (j := 10) (k := 14) (Ni := some 32) (Nj := some 33) (Nk := some 37) ofL38 ofL36 ofL35 rfl rfl rfl rfl rfl rfl (three_of HT_.out (by kernel_rfl)) (by decide) (by decide) (by decide) (fun K hK => ?_) (fun K hK => ?_) (fun K hK => ?_)
            · skip
              refine Kd.R_append_rows_step Kd.string (w0 := w) w.heap.size (by rfl) (.tmp 29) (.tmp 31) 23 9 (.string ⟨#[]⟩) 16 rfl Tryz.underlying23 info9 rfl (by decide) (by omega) v171 y170 ((rd_T38 l0_0 x4_1).f1) _ _ _ (fun k_ => Nb k_ (.slice Ao10 y158.length co10) ∧ Nb k_ v168) (fun _ => False) rfl rfl ?aO ?aR (fun _ _ h => h) (fun _ h => h.elim) ?aF ?aB ?aS ?aL ?_
              (case aR => repeat (first | exact (Kd.C_below HR162_1.out HB.out) | (with_reducible refine Kd.C_alloc ?_ _) | (with_reducible refine Kd.C_drewN ?_ _) | (with_reducible refine Kd.C_drew ?_)))
              (case aB => exact HB.out)
              (case aF => exact (fun k_ hk => ⟨Kd.fresh' (Kd.R_lt O14.out) k_ hk, Kd.fresh' (Kd.R_lt O32.out) k_ hk⟩))
              (case aO => exact (Kd.R_mono O29.out (fun _ hk => ⟨hk.2, hk.1⟩)))
              (case aS => exact (below_size HB.out))
              (case aL => have := LMc18.out; omega)
              intro v174 w39 ho hb hg hat
              rw [← Ny173.out] at ho
              have n0 := ofA (Kd.S_after (ok := (fun k_ => Nb k_ (.slice Ao10 y158.length co10) ∧ Nb k_ v168)) (Kd.S_mono O13.out (fun _ hk => ⟨⟨hk.2.2, hk.1⟩, hk.2.1⟩)) hg hat)
              have n1 := ofA (Kd.R_after (ok := (fun k_ => Nb k_ v168)) O14.out hg hat)
              have n6 := ofA (Kd.R_after (ok := (fun k_ => Nb k_ (.slice Ao10 y158.length co10))) (Kd.R_mono O32.out (fun _ hk => ⟨hk.2, hk.1⟩)) hg hat)
              have n7 := ofA (hb); have n8 := ofA (ho); replace BK153 := ofA (blk_grown BK153.out hg (Kd.R_ne O29.out BK153.out (by decide))); replace BK154 := ofA (blk_grown BK154.out hg (Kd.R_ne O29.out BK154.out (by decide))); replace BK161 := ofA (blk_grown BK161.out hg (Kd.R_ne O29.out BK161.out (by decide))); replace BK163 := ofA (blk_grown BK163.out hg (Kd.R_ne O29.out BK163.out (by decide))); clear O13 O14 O32 HB O29; have O13 := n0; have O14 := n1; have O32 := n6; have HB := n7; have O34 := n8; clear n0 n1 n6 n7 n8 ho hb hg hat
              refine hK.out _ _ (ofM BK161.out BK163.out) (fun hHeld => ?_)
              clear hK K
              refine norm_ (a' := ?_) ?_ ?_
              rotate_left
              · show Act.put _ (some 32) _ = _
                simp only [Act.put, List.setIfInBounds_toArray, List.set_cons_zero, List.set_cons_succ, i64_w, i32_w]
                rfl
              exact norm_ (by rfl) (J11 (v165, v168, v171, v174) _ ⟨hHeld, (Kd.R_mono O32.out (fun _ hk => ⟨hk.2, hk.1⟩)), (Kd.R_mono O34.out (fun _ hk => ⟨hk.2, hk.1⟩)), (Kd.S_mono O13.out (fun _ hk => ⟨hk.1.2, ⟨hk.2, hk.1.1⟩⟩)), O14.out, BK153.out, BK154.out, BK161.out, BK163.out, HB.out⟩)
            · skip
              refine Kd.R_lit_step Kd.string _ 9 ?hg (N := 33) ?hd (xs := ([] : List ByteArray)) (inner := []) (ok := fun _ => True) (okp := fun _ => True) ?hr ?hp (fun _ hk => hk) trivial (Below.refl _ _) (Nat.le_refl _) (by simp) ?_; (case hd => rfl); (case hg => rfl); (case hr => first | (go_simp; done) | (go_simp; rfl)); (case hp => exact (Reps.none _ _))
              intro v177 w39 ho40 hb hg_ hnew_; clear hg_ hnew_
              (first | rw [← Ny176.out] at ho40 | (simp only [Int.reduceToNat] at ho40; rw [← Ny176.out] at ho40))
              have n0 := ofA (Kd.S_elder' O13.out (Kd.R_base ho40) hb); have n1 := ofA (Kd.R_elder' O14.out (Kd.R_base ho40) hb); have n2 := ofA (Kd.R_elder' O32.out (Kd.R_base ho40) hb); have n3 := ofA (Kd.R_elder' O29.out (Kd.R_base ho40) hb)
              have n4 := ofA (Kd.R_lower (Kd.R_new' (Kd.R_new' (Kd.R_new' ho40 (Kd.R_lt O14.out)) (Kd.R_lt O32.out)) (Kd.R_lt O29.out)) (below_size HB.out))
              have n9 := ofA (below_step HB.out hb); replace BK153 := ofA (blk_below BK153.out hb); replace BK154 := ofA (blk_below BK154.out hb); replace BK161 := ofA (blk_below BK161.out hb); replace BK163 := ofA (blk_below BK163.out hb); clear O13 O14 O32 O29 HB; have O13 := n0; have O14 := n1; have O32 := n2; have O29 := n3; have O33 := n4; have HB := n9; clear n0 n1 n2 n3 n4 n9 hb ho40
              refine hK.out _ _ (ofM BK161.out BK163.out) (fun hHeld => ?_)
              clear hK K
              refine norm_ (a' := ?_) ?_ ?_
              rotate_left
              · show Act.put _ (some 33) _ = _
                simp only [Act.put, List.setIfInBounds_toArray, List.set_cons_zero, List.set_cons_succ, i64_w, i32_w]
                rfl
              exact norm_ (by rfl) (J8 (v165, v168, v171, v177) _ ⟨hHeld, (Kd.R_mono O32.out (fun _ hk => ⟨hk.1.1, ⟨hk.2, hk.1.2⟩⟩)), (Kd.R_mono O29.out (fun _ hk => ⟨hk.1.1, ⟨hk.2, hk.1.2⟩⟩)), (Kd.R_mono O33.out (fun _ hk => ⟨hk.1.2, ⟨hk.2, hk.1.1.2⟩⟩)), (Kd.S_mono O13.out (fun _ hk => ⟨hk.1.1, ⟨hk.1.2.1, ⟨hk.2, hk.1.2.2⟩⟩⟩)), (Kd.R_mono O14.out (fun _ hk => ⟨hk.1.1, ⟨hk.1.2, hk.2⟩⟩)), BK153.out, BK154.out, BK161.out, BK163.out, HB.out⟩)
            · skip
              refine Kd.R_lit_step Kd.string _ 9 ?hg (N := 37) ?hd (xs := ([] : List ByteArray)) (inner := []) (ok := fun _ => True) (okp := fun _ => True) ?hr ?hp (fun _ hk => hk) trivial (Below.refl _ _) (Nat.le_refl _) (by simp) ?_; (case hd => rfl); (case hg => rfl); (case hr => first | (go_simp; done) | (go_simp; rfl)); (case hp => exact (Reps.none _ _))
              intro v183 w39 ho40 hb hg_ hnew_; clear hg_ hnew_
              (first | rw [← Ny182.out] at ho40 | (simp only [Int.reduceToNat] at ho40; rw [← Ny182.out] at ho40))
              have n0 := ofA (Kd.S_elder' O13.out (Kd.R_base ho40) hb); have n1 := ofA (Kd.R_elder' O14.out (Kd.R_base ho40) hb); have n2 := ofA (Kd.R_elder' O32.out (Kd.R_base ho40) hb); have n3 := ofA (Kd.R_elder' O29.out (Kd.R_base ho40) hb)
              have n4 := ofA (Kd.R_lower (Kd.R_new' (Kd.R_new' (Kd.R_new' ho40 (Kd.R_lt O14.out)) (Kd.R_lt O32.out)) (Kd.R_lt O29.out)) (below_size HB.out))
              have n9 := ofA (below_step HB.out hb); replace BK153 := ofA (blk_below BK153.out hb); replace BK154 := ofA (blk_below BK154.out hb); replace BK161 := ofA (blk_below BK161.out hb); replace BK163 := ofA (blk_below BK163.out hb); clear O13 O14 O32 O29 HB; have O13 := n0; have O14 := n1; have O32 := n2; have O29 := n3; have O28 := n4; have HB := n9; clear n0 n1 n2 n3 n4 n9 hb ho40
              refine hK.out _ _ (ofM BK161.out BK163.out) (fun hHeld => ?_)
              clear hK K
              refine norm_ (a' := ?_) ?_ ?_
              rotate_left
              · show Act.put _ (some 37) _ = _
                simp only [Act.put, List.setIfInBounds_toArray, List.set_cons_zero, List.set_cons_succ, i64_w, i32_w]
                rfl
              exact norm_ (by rfl) (J9 (v165, v168, v171, v183) _ ⟨hHeld, (Kd.R_mono O32.out (fun _ hk => ⟨hk.1.1, ⟨hk.2, hk.1.2⟩⟩)), (Kd.R_mono O29.out (fun _ hk => ⟨hk.1.1, ⟨hk.2, hk.1.2⟩⟩)), (Kd.R_mono O28.out (fun _ hk => ⟨hk.1.2, ⟨hk.2, hk.1.1.2⟩⟩)), (Kd.S_mono O13.out (fun _ hk => ⟨hk.1.1, ⟨hk.1.2.1, ⟨hk.2, hk.1.2.2⟩⟩⟩)), (Kd.R_mono O14.out (fun _ hk => ⟨hk.1.1, ⟨hk.1.2, hk.2⟩⟩)), BK153.out, BK154.out, BK161.out, BK163.out, HB.out⟩)
          intro J20
          refine join_ (σ := Value × Value × Value) 10 ofL32 (fun s_ => [(25, s_.1), (28, s_.2.1), (33, s_.2.2)]) (fun s_ w' => (ofH w' gb161 Ao30 x162000_1 co30 Ao10 y158 co10 gb163 A162_0 l0_0 x4_1 c162_0 A162_1 c162_1 A162_2 c162_2 A162_3 c162_3) ∧ (Kd.R Kd.string 9 w' w.heap.size (fun k_ => Nb k_ s_.2.2 ∧ Nb k_ (.slice Ao10 y158.length co10)) s_.2.1 y167) ∧ (Kd.R Kd.string 9 w' w.heap.size (fun k_ => Nb k_ s_.2.1 ∧ Nb k_ (.slice Ao10 y158.length co10)) s_.2.2 y176) ∧ (Kd.S k43 43 w' w.heap.size (fun k_ => Nb k_ s_.2.1 ∧ Nb k_ s_.2.2 ∧ Nb k_ (.slice Ao10 y158.length co10)) (.slice Ao30 x162000_1.length co30) x162000_1) ∧ (Kd.R Kd.string 9 w' w.heap.size (fun k_ => Nb k_ s_.2.1 ∧ Nb k_ s_.2.2) (.slice Ao10 y158.length co10) y158) ∧ ofT w w' gb153 ad162 l0_0 c0_0 A0_1 l0_1 c0_1 gb154 gb161 Ao30 x162000_1 co30 Ao10 y158 co10 gb163 A162_0 x4_1 c162_0 A162_1 c162_1 A162_2 c162_2 A162_3 c162_3) ?_ ?_
          · skip
            rintro ⟨v165, v168, v177⟩ w38 ⟨hS_, h0_, h1_, h2_, h3_, h4_, h5_, h6_, h7_, h8_⟩
            try dsimp only at h0_ h1_ h2_ h3_ h4_ h5_ h6_ h7_ h8_
            have n0 := ofA h0_; have n1 := ofA h1_; have n2 := ofA h2_; have n3 := ofA h3_; have n4 := ofA h4_; have n5 := ofA h5_; have n6 := ofA h6_; have n7 := ofA h7_; have n8 := ofA h8_; clear O13 O14 BK153 BK154 BK161 BK163 HB h0_ h1_ h2_ h3_ h4_ h5_ h6_ h7_ h8_; have O32 := n0; have O33 := n1; have O13 := n2; have O14 := n3; have BK153 := n4; have BK154 := n5; have BK161 := n6; have BK163 := n7; have HB := n8; clear n0 n1 n2 n3 n4 n5 n6 n7 n8
            have hHeld := hS_
            refine norm_ (a' := ?_) ?_ ?_
            rotate_left
            · simp only [putAll, Act.put, List.setIfInBounds_toArray, List.set_cons_zero, List.set_cons_succ]
              rfl
            refine two_ (i := 6) (j := 14) (Ni := some 29) (Nj := some 37) ofL36 ofL33 rfl rfl rfl rfl (two_of HT_.out (by kernel_rfl)) (by decide) (by decide) (fun K hK => ?_) (fun K hK => ?_)
            · skip
              refine Kd.R_lit_step Kd.string _ 9 ?hg (N := 29) ?hd (xs := ([] : List ByteArray)) (inner := []) (ok := fun _ => True) (okp := fun _ => True) ?hr ?hp (fun _ hk => hk) trivial (Below.refl _ _) (Nat.le_refl _) (by simp) ?_; (case hd => rfl); (case hg => rfl); (case hr => first | (go_simp; done) | (go_simp; rfl)); (case hp => exact (Reps.none _ _))
              intro v171 w39 ho40 hb hg_ hnew_; clear hg_ hnew_
              (first | rw [← Ny170.out] at ho40 | (simp only [Int.reduceToNat] at ho40; rw [← Ny170.out] at ho40))
              have n0 := ofA (Kd.S_elder' O13.out (Kd.R_base ho40) hb); have n1 := ofA (Kd.R_elder' O14.out (Kd.R_base ho40) hb); have n2 := ofA (Kd.R_elder' O32.out (Kd.R_base ho40) hb); have n3 := ofA (Kd.R_elder' O33.out (Kd.R_base ho40) hb)
              have n4 := ofA (Kd.R_lower (Kd.R_new' (Kd.R_new' (Kd.R_new' ho40 (Kd.R_lt O14.out)) (Kd.R_lt O32.out)) (Kd.R_lt O33.out)) (below_size HB.out))
              have n9 := ofA (below_step HB.out hb); replace BK153 := ofA (blk_below BK153.out hb); replace BK154 := ofA (blk_below BK154.out hb); replace BK161 := ofA (blk_below BK161.out hb); replace BK163 := ofA (blk_below BK163.out hb); clear O13 O14 O32 O33 HB; have O13 := n0; have O14 := n1; have O32 := n2; have O33 := n3; have O29 := n4; have HB := n9; clear n0 n1 n2 n3 n4 n9 hb ho40
              refine hK.out _ _ (ofM BK161.out BK163.out) (fun hHeld => ?_)
              clear hK K
              refine norm_ (a' := ?_) ?_ ?_
              rotate_left
              · show Act.put _ (some 29) _ = _
                simp only [Act.put, List.setIfInBounds_toArray, List.set_cons_zero, List.set_cons_succ, i64_w, i32_w]
                rfl
              exact norm_ (by rfl) (J8 (v165, v168, v171, v177) _ ⟨hHeld, (Kd.R_mono O32.out (fun _ hk => ⟨hk.2, ⟨hk.1.1, hk.1.2⟩⟩)), (Kd.R_mono O29.out (fun _ hk => ⟨hk.1.2, ⟨hk.2, hk.1.1.2⟩⟩)), (Kd.R_mono O33.out (fun _ hk => ⟨hk.1.1, ⟨hk.2, hk.1.2⟩⟩)), (Kd.S_mono O13.out (fun _ hk => ⟨hk.1.1, ⟨hk.2, ⟨hk.1.2.1, hk.1.2.2⟩⟩⟩)), (Kd.R_mono O14.out (fun _ hk => ⟨hk.1.1, ⟨hk.2, hk.1.2⟩⟩)), BK153.out, BK154.out, BK161.out, BK163.out, HB.out⟩)
            · skip
              refine Kd.R_lit_step Kd.string _ 9 ?hg (N := 37) ?hd (xs := ([] : List ByteArray)) (inner := []) (ok := fun _ => True) (okp := fun _ => True) ?hr ?hp (fun _ hk => hk) trivial (Below.refl _ _) (Nat.le_refl _) (by simp) ?_; (case hd => rfl); (case hg => rfl); (case hr => first | (go_simp; done) | (go_simp; rfl)); (case hp => exact (Reps.none _ _))
              intro v183 w39 ho40 hb hg_ hnew_; clear hg_ hnew_
              (first | rw [← Ny182.out] at ho40 | (simp only [Int.reduceToNat] at ho40; rw [← Ny182.out] at ho40))
              have n0 := ofA (Kd.S_elder' O13.out (Kd.R_base ho40) hb); have n1 := ofA (Kd.R_elder' O14.out (Kd.R_base ho40) hb); have n2 := ofA (Kd.R_elder' O32.out (Kd.R_base ho40) hb); have n3 := ofA (Kd.R_elder' O33.out (Kd.R_base ho40) hb)
              have n4 := ofA (Kd.R_lower (Kd.R_new' (Kd.R_new' (Kd.R_new' ho40 (Kd.R_lt O14.out)) (Kd.R_lt O32.out)) (Kd.R_lt O33.out)) (below_size HB.out))
              have n9 := ofA (below_step HB.out hb); replace BK153 := ofA (blk_below BK153.out hb); replace BK154 := ofA (blk_below BK154.out hb); replace BK161 := ofA (blk_below BK161.out hb); replace BK163 := ofA (blk_below BK163.out hb); clear O13 O14 O32 O33 HB; have O13 := n0; have O14 := n1; have O32 := n2; have O33 := n3; have O28 := n4; have HB := n9; clear n0 n1 n2 n3 n4 n9 hb ho40
              refine hK.out _ _ (ofM BK161.out BK163.out) (fun hHeld => ?_)
              clear hK K
              refine norm_ (a' := ?_) ?_ ?_
              rotate_left
              · show Act.put _ (some 37) _ = _
                simp only [Act.put, List.setIfInBounds_toArray, List.set_cons_zero, List.set_cons_succ, i64_w, i32_w]
                rfl
              exact norm_ (by rfl) (J7 (v165, v168, v177, v183) _ ⟨hHeld, (Kd.R_mono O32.out (fun _ hk => ⟨hk.1.1, ⟨hk.2, hk.1.2⟩⟩)), (Kd.R_mono O33.out (fun _ hk => ⟨hk.1.1, ⟨hk.2, hk.1.2⟩⟩)), (Kd.R_mono O28.out (fun _ hk => ⟨hk.1.2, ⟨hk.2, hk.1.1.2⟩⟩)), (Kd.S_mono O13.out (fun _ hk => ⟨hk.1.1, ⟨hk.1.2.1, ⟨hk.2, hk.1.2.2⟩⟩⟩)), (Kd.R_mono O14.out (fun _ hk => ⟨hk.1.1, ⟨hk.1.2, hk.2⟩⟩)), BK153.out, BK154.out, BK161.out, BK163.out, HB.out⟩)
          intro J16
          refine join_ (σ := Value × Value × Value) 10 ofL31 (fun s_ => [(25, s_.1), (28, s_.2.1), (37, s_.2.2)]) (fun s_ w' => (ofH w' gb161 Ao30 x162000_1 co30 Ao10 y158 co10 gb163 A162_0 l0_0 x4_1 c162_0 A162_1 c162_1 A162_2 c162_2 A162_3 c162_3) ∧ (Kd.R Kd.string 9 w' w.heap.size (fun k_ => Nb k_ s_.2.2 ∧ Nb k_ (.slice Ao10 y158.length co10)) s_.2.1 y167) ∧ (Kd.R Kd.string 9 w' w.heap.size (fun k_ => Nb k_ s_.2.1 ∧ Nb k_ (.slice Ao10 y158.length co10)) s_.2.2 y182) ∧ (Kd.S k43 43 w' w.heap.size (fun k_ => Nb k_ s_.2.1 ∧ Nb k_ s_.2.2 ∧ Nb k_ (.slice Ao10 y158.length co10)) (.slice Ao30 x162000_1.length co30) x162000_1) ∧ (Kd.R Kd.string 9 w' w.heap.size (fun k_ => Nb k_ s_.2.1 ∧ Nb k_ s_.2.2) (.slice Ao10 y158.length co10) y158) ∧ ofT w w' gb153 ad162 l0_0 c0_0 A0_1 l0_1 c0_1 gb154 gb161 Ao30 x162000_1 co30 Ao10 y158 co10 gb163 A162_0 x4_1 c162_0 A162_1 c162_1 A162_2 c162_2 A162_3 c162_3) ?_ ?_
          · skip
            rintro ⟨v165, v168, v183⟩ w38 ⟨hS_, h0_, h1_, h2_, h3_, h4_, h5_, h6_, h7_, h8_⟩
            try dsimp only at h0_ h1_ h2_ h3_ h4_ h5_ h6_ h7_ h8_
            have n0 := ofA h0_; have n1 := ofA h1_; have n2 := ofA h2_; have n3 := ofA h3_; have n4 := ofA h4_; have n5 := ofA h5_; have n6 := ofA h6_; have n7 := ofA h7_; have n8 := ofA h8_; clear O13 O14 BK153 BK154 BK161 BK163 HB h0_ h1_ h2_ h3_ h4_ h5_ h6_ h7_ h8_; have O32 := n0; have O28 := n1; have O13 := n2; have O14 := n3; have BK153 := n4; have BK154 := n5; have BK161 := n6; have BK163 := n7; have HB := n8; clear n0 n1 n2 n3 n4 n5 n6 n7 n8
            have hHeld := hS_
            refine norm_ (a' := ?_) ?_ ?_
            rotate_left
            · simp only [putAll, Act.put, List.setIfInBounds_toArray, List.set_cons_zero, List.set_cons_succ]
              rfl
            refine two_ (i := 6) (j := 10) (Ni := some 29) (Nj := some 33) ofL35 ofL33 rfl rfl rfl rfl (two_of HT_.out (by kernel_rfl)) (by decide) (by decide) (fun K hK => ?_) (fun K hK => ?_)
            · skip
              refine Kd.R_lit_step Kd.string _ 9 ?hg (N := 29) ?hd (xs := ([] : List ByteArray)) (inner := []) (ok := fun _ => True) (okp := fun _ => True) ?hr ?hp (fun _ hk => hk) trivial (Below.refl _ _) (Nat.le_refl _) (by simp) ?_; (case hd => rfl); (case hg => rfl); (case hr => first | (go_simp; done) | (go_simp; rfl)); (case hp => exact (Reps.none _ _))
              intro v171 w39 ho40 hb hg_ hnew_; clear hg_ hnew_
              (first | rw [← Ny170.out] at ho40 | (simp only [Int.reduceToNat] at ho40; rw [← Ny170.out] at ho40))
              have n0 := ofA (Kd.S_elder' O13.out (Kd.R_base ho40) hb); have n1 := ofA (Kd.R_elder' O14.out (Kd.R_base ho40) hb); have n2 := ofA (Kd.R_elder' O32.out (Kd.R_base ho40) hb); have n3 := ofA (Kd.R_elder' O28.out (Kd.R_base ho40) hb)
              have n4 := ofA (Kd.R_lower (Kd.R_new' (Kd.R_new' (Kd.R_new' ho40 (Kd.R_lt O14.out)) (Kd.R_lt O32.out)) (Kd.R_lt O28.out)) (below_size HB.out))
              have n9 := ofA (below_step HB.out hb); replace BK153 := ofA (blk_below BK153.out hb); replace BK154 := ofA (blk_below BK154.out hb); replace BK161 := ofA (blk_below BK161.out hb); replace BK163 := ofA (blk_below BK163.out hb); clear O13 O14 O32 O28 HB; have O13 := n0; have O14 := n1; have O32 := n2; have O28 := n3; have O29 := n4; have HB := n9; clear n0 n1 n2 n3 n4 n9 hb ho40
              refine hK.out _ _ (ofM BK161.out BK163.out) (fun hHeld => ?_)
              clear hK K
              refine norm_ (a' := ?_) ?_ ?_
              rotate_left
              · show Act.put _ (some 29) _ = _
                simp only [Act.put, List.setIfInBounds_toArray, List.set_cons_zero, List.set_cons_succ, i64_w, i32_w]
                rfl
              exact norm_ (by rfl) (J9 (v165, v168, v171, v183) _ ⟨hHeld, (Kd.R_mono O32.out (fun _ hk => ⟨hk.2, ⟨hk.1.1, hk.1.2⟩⟩)), (Kd.R_mono O29.out (fun _ hk => ⟨hk.1.2, ⟨hk.2, hk.1.1.2⟩⟩)), (Kd.R_mono O28.out (fun _ hk => ⟨hk.1.1, ⟨hk.2, hk.1.2⟩⟩)), (Kd.S_mono O13.out (fun _ hk => ⟨hk.1.1, ⟨hk.2, ⟨hk.1.2.1, hk.1.2.2⟩⟩⟩)), (Kd.R_mono O14.out (fun _ hk => ⟨hk.1.1, ⟨hk.2, hk.1.2⟩⟩)), BK153.out, BK154.out, BK161.out, BK163.out, HB.out⟩)
            · skip
              refine Kd.R_lit_step Kd.string _ 9 ?hg (N := 33) ?hd (xs := ([] : List ByteArray)) (inner := []) (ok := fun _ => True) (okp := fun _ => True) ?hr ?hp (fun _ hk => hk) trivial (Below.refl _ _) (Nat.le_refl _) (by simp) ?_; (case hd => rfl); (case hg => rfl); (case hr => first | (go_simp; done) | (go_simp; rfl)); (case hp => exact (Reps.none _ _))
              intro v177 w39 ho40 hb hg_ hnew_; clear hg_ hnew_
              (first | rw [← Ny176.out] at ho40 | (simp only [Int.reduceToNat] at ho40; rw [← Ny176.out] at ho40))
              have n0 := ofA (Kd.S_elder' O13.out (Kd.R_base ho40) hb); have n1 := ofA (Kd.R_elder' O14.out (Kd.R_base ho40) hb); have n2 := ofA (Kd.R_elder' O32.out (Kd.R_base ho40) hb); have n3 := ofA (Kd.R_elder' O28.out (Kd.R_base ho40) hb)
              have n4 := ofA (Kd.R_lower (Kd.R_new' (Kd.R_new' (Kd.R_new' ho40 (Kd.R_lt O14.out)) (Kd.R_lt O32.out)) (Kd.R_lt O28.out)) (below_size HB.out))
              have n9 := ofA (below_step HB.out hb); replace BK153 := ofA (blk_below BK153.out hb); replace BK154 := ofA (blk_below BK154.out hb); replace BK161 := ofA (blk_below BK161.out hb); replace BK163 := ofA (blk_below BK163.out hb); clear O13 O14 O32 O28 HB; have O13 := n0; have O14 := n1; have O32 := n2; have O28 := n3; have O33 := n4; have HB := n9; clear n0 n1 n2 n3 n4 n9 hb ho40
              refine hK.out _ _ (ofM BK161.out BK163.out) (fun hHeld => ?_)
              clear hK K
              refine norm_ (a' := ?_) ?_ ?_
              rotate_left
              · show Act.put _ (some 33) _ = _
                simp only [Act.put, List.setIfInBounds_toArray, List.set_cons_zero, List.set_cons_succ, i64_w, i32_w]
                rfl
              exact norm_ (by rfl) (J7 (v165, v168, v177, v183) _ ⟨hHeld, (Kd.R_mono O32.out (fun _ hk => ⟨hk.2, ⟨hk.1.1, hk.1.2⟩⟩)), (Kd.R_mono O33.out (fun _ hk => ⟨hk.1.2, ⟨hk.2, hk.1.1.2⟩⟩)), (Kd.R_mono O28.out (fun _ hk => ⟨hk.1.1, ⟨hk.2, hk.1.2⟩⟩)), (Kd.S_mono O13.out (fun _ hk => ⟨hk.1.1, ⟨hk.2, ⟨hk.1.2.1, hk.1.2.2⟩⟩⟩)), (Kd.R_mono O14.out (fun _ hk => ⟨hk.1.1, ⟨hk.2, hk.1.2⟩⟩)), BK153.out, BK154.out, BK161.out, BK163.out, HB.out⟩)
          intro J15
          refine join_ (σ := Value × Value × Value) 10 ofL28 (fun s_ => [(25, s_.1), (29, s_.2.1), (33, s_.2.2)]) (fun s_ w' => (ofH w' gb161 Ao30 x162000_1 co30 Ao10 y158 co10 gb163 A162_0 l0_0 x4_1 c162_0 A162_1 c162_1 A162_2 c162_2 A162_3 c162_3) ∧ (Kd.R Kd.string 9 w' w.heap.size (fun k_ => Nb k_ s_.2.1 ∧ Nb k_ s_.2.2 ∧ Nb k_ (.slice Ao10 y158.length co10)) s_.1 y164) ∧ (Kd.R Kd.string 9 w' w.heap.size (fun k_ => Nb k_ s_.1 ∧ Nb k_ s_.2.2 ∧ Nb k_ (.slice Ao10 y158.length co10)) s_.2.1 y170) ∧ (Kd.R Kd.string 9 w' w.heap.size (fun k_ => Nb k_ s_.1 ∧ Nb k_ s_.2.1 ∧ Nb k_ (.slice Ao10 y158.length co10)) s_.2.2 y176) ∧ (Kd.S k43 43 w' w.heap.size (fun k_ => Nb k_ s_.1 ∧ Nb k_ s_.2.1 ∧ Nb k_ s_.2.2 ∧ Nb k_ (.slice Ao10 y158.length co10)) (.slice Ao30 x162000_1.length co30) x162000_1) ∧ (Kd.R Kd.string 9 w' w.heap.size (fun k_ => Nb k_ s_.1 ∧ Nb k_ s_.2.1 ∧ Nb k_ s_.2.2) (.slice Ao10 y158.length co10) y158) ∧ ofT w w' gb153 ad162 l0_0 c0_0 A0_1 l0_1 c0_1 gb154 gb161 Ao30 x162000_1 co30 Ao10 y158 co10 gb163 A162_0 x4_1 c162_0 A162_1 c162_1 A162_2 c162_2 A162_3 c162_3) ?_ ?_
          · skip
            rintro ⟨v165, v171, v177⟩ w39 ⟨hS_, h0_, h1_, h2_, h3_, h4_, h5_, h6_, h7_, h8_, h9_⟩
            try dsimp only at h0_ h1_ h2_ h3_ h4_ h5_ h6_ h7_ h8_ h9_
            have n0 := ofA h0_; have n1 := ofA h1_; have n2 := ofA h2_; have n3 := ofA h3_; have n4 := ofA h4_; have n5 := ofA h5_; have n6 := ofA h6_; have n7 := ofA h7_; have n8 := ofA h8_; have n9 := ofA h9_; clear O13 O14 BK153 BK154 BK161 BK163 HB h0_ h1_ h2_ h3_ h4_ h5_ h6_ h7_ h8_ h9_; have O36 := n0; have O29 := n1; have O33 := n2; have O13 := n3; have O14 := n4; have BK153 := n5; have BK154 := n6; have BK161 := n7; have BK163 := n8; have HB := n9; clear n0 n1 n2 n3 n4 n5 n6 n7 n8 n9
            have hHeld := hS_
            refine norm_ (a' := ?_) ?_ ?_
            rotate_left
            · simp only [putAll, Act.put, List.setIfInBounds_toArray, List.set_cons_zero, List.set_cons_succ]
              rfl
            refine two_ (i := 5) (j := 14) (Ni := some 28) (Nj := some 37) ofL36 ofL29 rfl rfl rfl rfl (two_of HT_.out (by kernel_rfl)) (by decide) (by decide) (fun K hK => ?_) (fun K hK => ?_)
            · skip
              refine Kd.R_append_rows_step Kd.string (w0 := w) w.heap.size (by rfl) (.tmp 25) (.tmp 27) 23 9 (.string ⟨#[]⟩) 16 rfl Tryz.underlying23 info9 rfl (by decide) (by omega) v165 y164 ((rd_T38 l0_0 x4_1).f0) _ _ _ (fun k_ => Nb k_ (.slice Ao10 y158.length co10) ∧ Nb k_ v171 ∧ Nb k_ v177) (fun _ => False) rfl rfl ?aO ?aR (fun _ _ h => h) (fun _ h => h.elim) ?aF ?aB ?aS ?aL ?_
              (case aR => repeat (first | exact (Kd.C_below HR162_0.out HB.out) | (with_reducible refine Kd.C_alloc ?_ _) | (with_reducible refine Kd.C_drewN ?_ _) | (with_reducible refine Kd.C_drew ?_)))
              (case aB => exact HB.out)
              (case aF => exact (fun k_ hk => ⟨Kd.fresh' (Kd.R_lt O14.out) k_ hk, Kd.fresh' (Kd.R_lt O29.out) k_ hk, Kd.fresh' (Kd.R_lt O33.out) k_ hk⟩))
              (case aO => exact (Kd.R_mono O36.out (fun _ hk => ⟨hk.2.2, ⟨hk.1, hk.2.1⟩⟩)))
              (case aS => exact (below_size HB.out))
              (case aL => have := LMc17.out; omega)
              intro v168 w40 ho hb hg hat
              rw [← Ny167.out] at ho
              have n0 := ofA (Kd.S_after (ok := (fun k_ => Nb k_ (.slice Ao10 y158.length co10) ∧ Nb k_ v171 ∧ Nb k_ v177)) (Kd.S_mono O13.out (fun _ hk => ⟨⟨hk.2.2.2, ⟨hk.2.1, hk.2.2.1⟩⟩, hk.1⟩)) hg hat)
              have n1 := ofA (Kd.R_after (ok := (fun k_ => Nb k_ v171 ∧ Nb k_ v177)) (Kd.R_mono O14.out (fun _ hk => ⟨⟨hk.2.1, hk.2.2⟩, hk.1⟩)) hg hat)
              have n6 := ofA (Kd.R_after (ok := (fun k_ => Nb k_ (.slice Ao10 y158.length co10) ∧ Nb k_ v177)) (Kd.R_mono O29.out (fun _ hk => ⟨⟨hk.2.2, hk.2.1⟩, hk.1⟩)) hg hat)
              have n7 := ofA (Kd.R_after (ok := (fun k_ => Nb k_ (.slice Ao10 y158.length co10) ∧ Nb k_ v171)) (Kd.R_mono O33.out (fun _ hk => ⟨⟨hk.2.2, hk.2.1⟩, hk.1⟩)) hg hat)
              have n8 := ofA (hb); have n9 := ofA (ho); replace BK153 := ofA (blk_grown BK153.out hg (Kd.R_ne O36.out BK153.out (by decide))); replace BK154 := ofA (blk_grown BK154.out hg (Kd.R_ne O36.out BK154.out (by decide))); replace BK161 := ofA (blk_grown BK161.out hg (Kd.R_ne O36.out BK161.out (by decide))); replace BK163 := ofA (blk_grown BK163.out hg (Kd.R_ne O36.out BK163.out (by decide))); clear O13 O14 O29 O33 HB O36; have O13 := n0; have O14 := n1; have O29 := n6; have O33 := n7; have HB := n8; have O32 := n9; clear n0 n1 n6 n7 n8 n9 ho hb hg hat
              refine hK.out _ _ (ofM BK161.out BK163.out) (fun hHeld => ?_)
              clear hK K
              refine norm_ (a' := ?_) ?_ ?_
              rotate_left
              · show Act.put _ (some 28) _ = _
                simp only [Act.put, List.setIfInBounds_toArray, List.set_cons_zero, List.set_cons_succ, i64_w, i32_w]
                rfl
              exact norm_ (by rfl) (J8 (v165, v168, v171, v177) _ ⟨hHeld, (Kd.R_mono O32.out (fun _ hk => ⟨hk.2.1, ⟨hk.2.2, hk.1⟩⟩)), (Kd.R_mono O29.out (fun _ hk => ⟨hk.2, ⟨hk.1.2, hk.1.1⟩⟩)), (Kd.R_mono O33.out (fun _ hk => ⟨hk.2, ⟨hk.1.2, hk.1.1⟩⟩)), (Kd.S_mono O13.out (fun _ hk => ⟨hk.2, ⟨hk.1.2.1, ⟨hk.1.2.2, hk.1.1⟩⟩⟩)), (Kd.R_mono O14.out (fun _ hk => ⟨hk.2, ⟨hk.1.1, hk.1.2⟩⟩)), BK153.out, BK154.out, BK161.out, BK163.out, HB.out⟩)
            · skip
              refine Kd.R_lit_step Kd.string _ 9 ?hg (N := 37) ?hd (xs := ([] : List ByteArray)) (inner := []) (ok := fun _ => True) (okp := fun _ => True) ?hr ?hp (fun _ hk => hk) trivial (Below.refl _ _) (Nat.le_refl _) (by simp) ?_; (case hd => rfl); (case hg => rfl); (case hr => first | (go_simp; done) | (go_simp; rfl)); (case hp => exact (Reps.none _ _))
              intro v183 w40 ho41 hb hg_ hnew_; clear hg_ hnew_
              (first | rw [← Ny182.out] at ho41 | (simp only [Int.reduceToNat] at ho41; rw [← Ny182.out] at ho41))
              have n0 := ofA (Kd.S_elder' O13.out (Kd.R_base ho41) hb); have n1 := ofA (Kd.R_elder' O14.out (Kd.R_base ho41) hb); have n2 := ofA (Kd.R_elder' O36.out (Kd.R_base ho41) hb); have n3 := ofA (Kd.R_elder' O29.out (Kd.R_base ho41) hb); have n4 := ofA (Kd.R_elder' O33.out (Kd.R_base ho41) hb)
              have n5 := ofA (Kd.R_lower (Kd.R_new' (Kd.R_new' (Kd.R_new' (Kd.R_new' ho41 (Kd.R_lt O14.out)) (Kd.R_lt O36.out)) (Kd.R_lt O29.out)) (Kd.R_lt O33.out)) (below_size HB.out))
              have n10 := ofA (below_step HB.out hb); replace BK153 := ofA (blk_below BK153.out hb); replace BK154 := ofA (blk_below BK154.out hb); replace BK161 := ofA (blk_below BK161.out hb); replace BK163 := ofA (blk_below BK163.out hb); clear O13 O14 O36 O29 O33 HB; have O13 := n0; have O14 := n1; have O36 := n2; have O29 := n3; have O33 := n4; have O28 := n5; have HB := n10; clear n0 n1 n2 n3 n4 n5 n10 hb ho41
              refine hK.out _ _ (ofM BK161.out BK163.out) (fun hHeld => ?_)
              clear hK K
              refine norm_ (a' := ?_) ?_ ?_
              rotate_left
              · show Act.put _ (some 37) _ = _
                simp only [Act.put, List.setIfInBounds_toArray, List.set_cons_zero, List.set_cons_succ, i64_w, i32_w]
                rfl
              exact norm_ (by rfl) (J6 (v165, v171, v177, v183) _ ⟨hHeld, (Kd.R_mono O36.out (fun _ hk => ⟨hk.1.1, ⟨hk.1.2.1, ⟨hk.2, hk.1.2.2⟩⟩⟩)), (Kd.R_mono O29.out (fun _ hk => ⟨hk.1.1, ⟨hk.1.2.1, ⟨hk.2, hk.1.2.2⟩⟩⟩)), (Kd.R_mono O33.out (fun _ hk => ⟨hk.1.1, ⟨hk.1.2.1, ⟨hk.2, hk.1.2.2⟩⟩⟩)), (Kd.R_mono O28.out (fun _ hk => ⟨hk.1.1.2, ⟨hk.1.2, ⟨hk.2, hk.1.1.1.2⟩⟩⟩)), (Kd.S_mono O13.out (fun _ hk => ⟨hk.1.1, ⟨hk.1.2.1, ⟨hk.1.2.2.1, ⟨hk.2, hk.1.2.2.2⟩⟩⟩⟩)), (Kd.R_mono O14.out (fun _ hk => ⟨hk.1.1, ⟨hk.1.2.1, ⟨hk.1.2.2, hk.2⟩⟩⟩)), BK153.out, BK154.out, BK161.out, BK163.out, HB.out⟩)
          intro J18
          refine join_ (σ := Value × Value × Value) 10 ofL27 (fun s_ => [(25, s_.1), (29, s_.2.1), (37, s_.2.2)]) (fun s_ w' => (ofH w' gb161 Ao30 x162000_1 co30 Ao10 y158 co10 gb163 A162_0 l0_0 x4_1 c162_0 A162_1 c162_1 A162_2 c162_2 A162_3 c162_3) ∧ (Kd.R Kd.string 9 w' w.heap.size (fun k_ => Nb k_ s_.2.1 ∧ Nb k_ s_.2.2 ∧ Nb k_ (.slice Ao10 y158.length co10)) s_.1 y164) ∧ (Kd.R Kd.string 9 w' w.heap.size (fun k_ => Nb k_ s_.1 ∧ Nb k_ s_.2.2 ∧ Nb k_ (.slice Ao10 y158.length co10)) s_.2.1 y170) ∧ (Kd.R Kd.string 9 w' w.heap.size (fun k_ => Nb k_ s_.1 ∧ Nb k_ s_.2.1 ∧ Nb k_ (.slice Ao10 y158.length co10)) s_.2.2 y182) ∧ (Kd.S k43 43 w' w.heap.size (fun k_ => Nb k_ s_.1 ∧ Nb k_ s_.2.1 ∧ Nb k_ s_.2.2 ∧ Nb k_ (.slice Ao10 y158.length co10)) (.slice Ao30 x162000_1.length co30) x162000_1) ∧ (Kd.R Kd.string 9 w' w.heap.size (fun k_ => Nb k_ s_.1 ∧ Nb k_ s_.2.1 ∧ Nb k_ s_.2.2) (.slice Ao10 y158.length co10) y158) ∧ ofT w w' gb153 ad162 l0_0 c0_0 A0_1 l0_1 c0_1 gb154 gb161 Ao30 x162000_1 co30 Ao10 y158 co10 gb163 A162_0 x4_1 c162_0 A162_1 c162_1 A162_2 c162_2 A162_3 c162_3) ?_ ?_
          · skip
            rintro ⟨v165, v171, v183⟩ w39 ⟨hS_, h0_, h1_, h2_, h3_, h4_, h5_, h6_, h7_, h8_, h9_⟩
            try dsimp only at h0_ h1_ h2_ h3_ h4_ h5_ h6_ h7_ h8_ h9_
            have n0 := ofA h0_; have n1 := ofA h1_; have n2 := ofA h2_; have n3 := ofA h3_; have n4 := ofA h4_; have n5 := ofA h5_; have n6 := ofA h6_; have n7 := ofA h7_; have n8 := ofA h8_; have n9 := ofA h9_; clear O13 O14 BK153 BK154 BK161 BK163 HB h0_ h1_ h2_ h3_ h4_ h5_ h6_ h7_ h8_ h9_; have O36 := n0; have O29 := n1; have O28 := n2; have O13 := n3; have O14 := n4; have BK153 := n5; have BK154 := n6; have BK161 := n7; have BK163 := n8; have HB := n9; clear n0 n1 n2 n3 n4 n5 n6 n7 n8 n9
            have hHeld := hS_
            refine norm_ (a' := ?_) ?_ ?_
            rotate_left
            · simp only [putAll, Act.put, List.setIfInBounds_toArray, List.set_cons_zero, List.set_cons_succ]
              rfl
            refine two_ (i := 5) (j := 10) (Ni := some 28) (Nj := some 33) ofL35 ofL29 rfl rfl rfl rfl (two_of HT_.out (by kernel_rfl)) (by decide) (by decide) (fun K hK => ?_) (fun K hK => ?_)
            · skip
              refine Kd.R_append_rows_step Kd.string (w0 := w) w.heap.size (by rfl) (.tmp 25) (.tmp 27) 23 9 (.string ⟨#[]⟩) 16 rfl Tryz.underlying23 info9 rfl (by decide) (by omega) v165 y164 ((rd_T38 l0_0 x4_1).f0) _ _ _ (fun k_ => Nb k_ (.slice Ao10 y158.length co10) ∧ Nb k_ v171 ∧ Nb k_ v183) (fun _ => False) rfl rfl ?aO ?aR (fun _ _ h => h) (fun _ h => h.elim) ?aF ?aB ?aS ?aL ?_
              (case aR => repeat (first | exact (Kd.C_below HR162_0.out HB.out) | (with_reducible refine Kd.C_alloc ?_ _) | (with_reducible refine Kd.C_drewN ?_ _) | (with_reducible refine Kd.C_drew ?_)))
              (case aB => exact HB.out)
              (case aF => exact (fun k_ hk => ⟨Kd.fresh' (Kd.R_lt O14.out) k_ hk, Kd.fresh' (Kd.R_lt O29.out) k_ hk, Kd.fresh' (Kd.R_lt O28.out) k_ hk⟩))
              (case aO => exact (Kd.R_mono O36.out (fun _ hk => ⟨hk.2.2, ⟨hk.1, hk.2.1⟩⟩)))
              (case aS => exact (below_size HB.out))
              (case aL => have := LMc17.out; omega)
              intro v168 w40 ho hb hg hat
              rw [← Ny167.out] at ho
              have n0 := ofA (Kd.S_after (ok := (fun k_ => Nb k_ (.slice Ao10 y158.length co10) ∧ Nb k_ v171 ∧ Nb k_ v183)) (Kd.S_mono O13.out (fun _ hk => ⟨⟨hk.2.2.2, ⟨hk.2.1, hk.2.2.1⟩⟩, hk.1⟩)) hg hat)
              have n1 := ofA (Kd.R_after (ok := (fun k_ => Nb k_ v171 ∧ Nb k_ v183)) (Kd.R_mono O14.out (fun _ hk => ⟨⟨hk.2.1, hk.2.2⟩, hk.1⟩)) hg hat)
              have n6 := ofA (Kd.R_after (ok := (fun k_ => Nb k_ (.slice Ao10 y158.length co10) ∧ Nb k_ v183)) (Kd.R_mono O29.out (fun _ hk => ⟨⟨hk.2.2, hk.2.1⟩, hk.1⟩)) hg hat)
              have n7 := ofA (Kd.R_after (ok := (fun k_ => Nb k_ (.slice Ao10 y158.length co10) ∧ Nb k_ v171)) (Kd.R_mono O28.out (fun _ hk => ⟨⟨hk.2.2, hk.2.1⟩, hk.1⟩)) hg hat)
              have n8 := ofA (hb); have n9 := ofA (ho); replace BK153 := ofA (blk_grown BK153.out hg (Kd.R_ne O36.out BK153.out (by decide))); replace BK154 := ofA (blk_grown BK154.out hg (Kd.R_ne O36.out BK154.out (by decide))); replace BK161 := ofA (blk_grown BK161.out hg (Kd.R_ne O36.out BK161.out (by decide))); replace BK163 := ofA (blk_grown BK163.out hg (Kd.R_ne O36.out BK163.out (by decide))); clear O13 O14 O29 O28 HB O36; have O13 := n0; have O14 := n1; have O29 := n6; have O28 := n7; have HB := n8; have O32 := n9; clear n0 n1 n6 n7 n8 n9 ho hb hg hat
              refine hK.out _ _ (ofM BK161.out BK163.out) (fun hHeld => ?_)
              clear hK K
              refine norm_ (a' := ?_) ?_ ?_
              rotate_left
              · show Act.put _ (some 28) _ = _
                simp only [Act.put, List.setIfInBounds_toArray, List.set_cons_zero, List.set_cons_succ, i64_w, i32_w]
                rfl
              exact norm_ (by rfl) (J9 (v165, v168, v171, v183) _ ⟨hHeld, (Kd.R_mono O32.out (fun _ hk => ⟨hk.2.1, ⟨hk.2.2, hk.1⟩⟩)), (Kd.R_mono O29.out (fun _ hk => ⟨hk.2, ⟨hk.1.2, hk.1.1⟩⟩)), (Kd.R_mono O28.out (fun _ hk => ⟨hk.2, ⟨hk.1.2, hk.1.1⟩⟩)), (Kd.S_mono O13.out (fun _ hk => ⟨hk.2, ⟨hk.1.2.1, ⟨hk.1.2.2, hk.1.1⟩⟩⟩)), (Kd.R_mono O14.out (fun _ hk => ⟨hk.2, ⟨hk.1.1, hk.1.2⟩⟩)), BK153.out, BK154.out, BK161.out, BK163.out, HB.out⟩)
            · skip
              refine Kd.R_lit_step Kd.string _ 9 ?hg (N := 33) ?hd (xs := ([] : List ByteArray)) (inner := []) (ok := fun _ => True) (okp := fun _ => True) ?hr ?hp (fun _ hk => hk) trivial (Below.refl _ _) (Nat.le_refl _) (by simp) ?_; (case hd => rfl); (case hg => rfl); (case hr => first | (go_simp; done) | (go_simp; rfl)); (case hp => exact (Reps.none _ _))
              intro v177 w40 ho41 hb hg_ hnew_; clear hg_ hnew_
              (first | rw [← Ny176.out] at ho41 | (simp only [Int.reduceToNat] at ho41; rw [← Ny176.out] at ho41))
              have n0 := ofA (Kd.S_elder' O13.out (Kd.R_base ho41) hb); have n1 := ofA (Kd.R_elder' O14.out (Kd.R_base ho41) hb); have n2 := ofA (Kd.R_elder' O36.out (Kd.R_base ho41) hb); have n3 := ofA (Kd.R_elder' O29.out (Kd.R_base ho41) hb); have n4 := ofA (Kd.R_elder' O28.out (Kd.R_base ho41) hb)
              have n5 := ofA (Kd.R_lower (Kd.R_new' (Kd.R_new' (Kd.R_new' (Kd.R_new' ho41 (Kd.R_lt O14.out)) (Kd.R_lt O36.out)) (Kd.R_lt O29.out)) (Kd.R_lt O28.out)) (below_size HB.out))
              have n10 := ofA (below_step HB.out hb); replace BK153 := ofA (blk_below BK153.out hb); replace BK154 := ofA (blk_below BK154.out hb); replace BK161 := ofA (blk_below BK161.out hb); replace BK163 := ofA (blk_below BK163.out hb); clear O13 O14 O36 O29 O28 HB; have O13 := n0; have O14 := n1; have O36 := n2; have O29 := n3; have O28 := n4; have O33 := n5; have HB := n10; clear n0 n1 n2 n3 n4 n5 n10 hb ho41
              refine hK.out _ _ (ofM BK161.out BK163.out) (fun hHeld => ?_)
              clear hK K
              refine norm_ (a' := ?_) ?_ ?_
              rotate_left
              · show Act.put _ (some 33) _ = _
                simp only [Act.put, List.setIfInBounds_toArray, List.set_cons_zero, List.set_cons_succ, i64_w, i32_w]
                rfl
              exact norm_ (by rfl) (J6 (v165, v171, v177, v183) _ ⟨hHeld, (Kd.R_mono O36.out (fun _ hk => ⟨hk.1.1, ⟨hk.2, ⟨hk.1.2.1, hk.1.2.2⟩⟩⟩)), (Kd.R_mono O29.out (fun _ hk => ⟨hk.1.1, ⟨hk.2, ⟨hk.1.2.1, hk.1.2.2⟩⟩⟩)), (Kd.R_mono O33.out (fun _ hk => ⟨hk.1.1.2, ⟨hk.1.2, ⟨hk.2, hk.1.1.1.2⟩⟩⟩)), (Kd.R_mono O28.out (fun _ hk => ⟨hk.1.1, ⟨hk.1.2.1, ⟨hk.2, hk.1.2.2⟩⟩⟩)), (Kd.S_mono O13.out (fun _ hk => ⟨hk.1.1, ⟨hk.1.2.1, ⟨hk.2, ⟨hk.1.2.2.1, hk.1.2.2.2⟩⟩⟩⟩)), (Kd.R_mono O14.out (fun _ hk => ⟨hk.1.1, ⟨hk.1.2.1, ⟨hk.2, hk.1.2.2⟩⟩⟩)), BK153.out, BK154.out, BK161.out, BK163.out, HB.out⟩)
          intro J17
          refine join_ (σ := Value × Value × Value) 10 ofL25 (fun s_ => [(25, s_.1), (33, s_.2.1), (37, s_.2.2)]) (fun s_ w' => (ofH w' gb161 Ao30 x162000_1 co30 Ao10 y158 co10 gb163 A162_0 l0_0 x4_1 c162_0 A162_1 c162_1 A162_2 c162_2 A162_3 c162_3) ∧ (Kd.R Kd.string 9 w' w.heap.size (fun k_ => Nb k_ s_.2.1 ∧ Nb k_ s_.2.2 ∧ Nb k_ (.slice Ao10 y158.length co10)) s_.1 y164) ∧ (Kd.R Kd.string 9 w' w.heap.size (fun k_ => Nb k_ s_.1 ∧ Nb k_ s_.2.2 ∧ Nb k_ (.slice Ao10 y158.length co10)) s_.2.1 y176) ∧ (Kd.R Kd.string 9 w' w.heap.size (fun k_ => Nb k_ s_.1 ∧ Nb k_ s_.2.1 ∧ Nb k_ (.slice Ao10 y158.length co10)) s_.2.2 y182) ∧ (Kd.S k43 43 w' w.heap.size (fun k_ => Nb k_ s_.1 ∧ Nb k_ s_.2.1 ∧ Nb k_ s_.2.2 ∧ Nb k_ (.slice Ao10 y158.length co10)) (.slice Ao30 x162000_1.length co30) x162000_1) ∧ (Kd.R Kd.string 9 w' w.heap.size (fun k_ => Nb k_ s_.1 ∧ Nb k_ s_.2.1 ∧ Nb k_ s_.2.2) (.slice Ao10 y158.length co10) y158) ∧ ofT w w' gb153 ad162 l0_0 c0_0 A0_1 l0_1 c0_1 gb154 gb161 Ao30 x162000_1 co30 Ao10 y158 co10 gb163 A162_0 x4_1 c162_0 A162_1 c162_1 A162_2 c162_2 A162_3 c162_3) ?_ ?_
          · skip
            rintro ⟨v165, v177, v183⟩ w39 ⟨hS_, h0_, h1_, h2_, h3_, h4_, h5_, h6_, h7_, h8_, h9_⟩
            try dsimp only at h0_ h1_ h2_ h3_ h4_ h5_ h6_ h7_ h8_ h9_
            have n0 := ofA h0_; have n1 := ofA h1_; have n2 := ofA h2_; have n3 := ofA h3_; have n4 := ofA h4_; have n5 := ofA h5_; have n6 := ofA h6_; have n7 := ofA h7_; have n8 := ofA h8_; have n9 := ofA h9_; clear O13 O14 BK153 BK154 BK161 BK163 HB h0_ h1_ h2_ h3_ h4_ h5_ h6_ h7_ h8_ h9_; have O36 := n0; have O33 := n1; have O28 := n2; have O13 := n3; have O14 := n4; have BK153 := n5; have BK154 := n6; have BK161 := n7; have BK163 := n8; have HB := n9; clear n0 n1 n2 n3 n4 n5 n6 n7 n8 n9
            have hHeld := hS_
            refine norm_ (a' := ?_) ?_ ?_
            rotate_left
            · simp only [putAll, Act.put, List.setIfInBounds_toArray, List.set_cons_zero, List.set_cons_succ]
              rfl
            refine two_ (i := 5) (j := 6) (Ni := some 28) (Nj := some 29) ofL33 ofL29 rfl rfl rfl rfl (two_of HT_.out (by kernel_rfl)) (by decide) (by decide) (fun K hK => ?_) (fun K hK => ?_)
            · skip
              refine Kd.R_append_rows_step Kd.string (w0 := w) w.heap.size (by rfl) (.tmp 25) (.tmp 27) 23 9 (.string ⟨#[]⟩) 16 rfl Tryz.underlying23 info9 rfl (by decide) (by omega) v165 y164 ((rd_T38 l0_0 x4_1).f0) _ _ _ (fun k_ => Nb k_ (.slice Ao10 y158.length co10) ∧ Nb k_ v177 ∧ Nb k_ v183) (fun _ => False) rfl rfl ?aO ?aR (fun _ _ h => h) (fun _ h => h.elim) ?aF ?aB ?aS ?aL ?_
              (case aR => repeat (first | exact (Kd.C_below HR162_0.out HB.out) | (with_reducible refine Kd.C_alloc ?_ _) | (with_reducible refine Kd.C_drewN ?_ _) | (with_reducible refine Kd.C_drew ?_)))
              (case aB => exact HB.out)
              (case aF => exact (fun k_ hk => ⟨Kd.fresh' (Kd.R_lt O14.out) k_ hk, Kd.fresh' (Kd.R_lt O33.out) k_ hk, Kd.fresh' (Kd.R_lt O28.out) k_ hk⟩))
              (case aO => exact (Kd.R_mono O36.out (fun _ hk => ⟨hk.2.2, ⟨hk.1, hk.2.1⟩⟩)))
              (case aS => exact (below_size HB.out))
              (case aL => have := LMc17.out; omega)
              intro v168 w40 ho hb hg hat
              rw [← Ny167.out] at ho
              have n0 := ofA (Kd.S_after (ok := (fun k_ => Nb k_ (.slice Ao10 y158.length co10) ∧ Nb k_ v177 ∧ Nb k_ v183)) (Kd.S_mono O13.out (fun _ hk => ⟨⟨hk.2.2.2, ⟨hk.2.1, hk.2.2.1⟩⟩, hk.1⟩)) hg hat)
              have n1 := ofA (Kd.R_after (ok := (fun k_ => Nb k_ v177 ∧ Nb k_ v183)) (Kd.R_mono O14.out (fun _ hk => ⟨⟨hk.2.1, hk.2.2⟩, hk.1⟩)) hg hat)
              have n6 := ofA (Kd.R_after (ok := (fun k_ => Nb k_ (.slice Ao10 y158.length co10) ∧ Nb k_ v183)) (Kd.R_mono O33.out (fun _ hk => ⟨⟨hk.2.2, hk.2.1⟩, hk.1⟩)) hg hat)
              have n7 := ofA (Kd.R_after (ok := (fun k_ => Nb k_ (.slice Ao10 y158.length co10) ∧ Nb k_ v177)) (Kd.R_mono O28.out (fun _ hk => ⟨⟨hk.2.2, hk.2.1⟩, hk.1⟩)) hg hat)
              have n8 := ofA (hb); have n9 := ofA (ho); replace BK153 := ofA (blk_grown BK153.out hg (Kd.R_ne O36.out BK153.out (by decide))); replace BK154 := ofA (blk_grown BK154.out hg (Kd.R_ne O36.out BK154.out (by decide))); replace BK161 := ofA (blk_grown BK161.out hg (Kd.R_ne O36.out BK161.out (by decide))); replace BK163 := ofA (blk_grown BK163.out hg (Kd.R_ne O36.out BK163.out (by decide))); clear O13 O14 O33 O28 HB O36; have O13 := n0; have O14 := n1; have O33 := n6; have O28 := n7; have HB := n8; have O32 := n9; clear n0 n1 n6 n7 n8 n9 ho hb hg hat
              refine hK.out _ _ (ofM BK161.out BK163.out) (fun hHeld => ?_)
              clear hK K
              refine norm_ (a' := ?_) ?_ ?_
              rotate_left
              · show Act.put _ (some 28) _ = _
                simp only [Act.put, List.setIfInBounds_toArray, List.set_cons_zero, List.set_cons_succ, i64_w, i32_w]
                rfl
              exact norm_ (by rfl) (J7 (v165, v168, v177, v183) _ ⟨hHeld, (Kd.R_mono O32.out (fun _ hk => ⟨hk.2.1, ⟨hk.2.2, hk.1⟩⟩)), (Kd.R_mono O33.out (fun _ hk => ⟨hk.2, ⟨hk.1.2, hk.1.1⟩⟩)), (Kd.R_mono O28.out (fun _ hk => ⟨hk.2, ⟨hk.1.2, hk.1.1⟩⟩)), (Kd.S_mono O13.out (fun _ hk => ⟨hk.2, ⟨hk.1.2.1, ⟨hk.1.2.2, hk.1.1⟩⟩⟩)), (Kd.R_mono O14.out (fun _ hk => ⟨hk.2, ⟨hk.1.1, hk.1.2⟩⟩)), BK153.out, BK154.out, BK161.out, BK163.out, HB.out⟩)
            · skip
              refine Kd.R_lit_step Kd.string _ 9 ?hg (N := 29) ?hd (xs := ([] : List ByteArray)) (inner := []) (ok := fun _ => True) (okp := fun _ => True) ?hr ?hp (fun _ hk => hk) trivial (Below.refl _ _) (Nat.le_refl _) (by simp) ?_; (case hd => rfl); (case hg => rfl); (case hr => first | (go_simp; done) | (go_simp; rfl)); (case hp => exact (Reps.none _ _))
              intro v171 w40 ho41 hb hg_ hnew_; clear hg_ hnew_
              (first | rw [← Ny170.out] at ho41 | (simp only [Int.reduceToNat] at ho41; rw [← Ny170.out] at ho41))
              have n0 := ofA (Kd.S_elder' O13.out (Kd.R_base ho41) hb); have n1 := ofA (Kd.R_elder' O14.out (Kd.R_base ho41) hb); have n2 := ofA (Kd.R_elder' O36.out (Kd.R_base ho41) hb); have n3 := ofA (Kd.R_elder' O33.out (Kd.R_base ho41) hb); have n4 := ofA (Kd.R_elder' O28.out (Kd.R_base ho41) hb)
              have n5 := ofA (Kd.R_lower (Kd.R_new' (Kd.R_new' (Kd.R_new' (Kd.R_new' ho41 (Kd.R_lt O14.out)) (Kd.R_lt O36.out)) (Kd.R_lt O33.out)) (Kd.R_lt O28.out)) (below_size HB.out))
              have n10 := ofA (below_step HB.out hb); replace BK153 := ofA (blk_below BK153.out hb); replace BK154 := ofA (blk_below BK154.out hb); replace BK161 := ofA (blk_below BK161.out hb); replace BK163 := ofA (blk_below BK163.out hb); clear O13 O14 O36 O33 O28 HB; have O13 := n0; have O14 := n1; have O36 := n2; have O33 := n3; have O28 := n4; have O29 := n5; have HB := n10; clear n0 n1 n2 n3 n4 n5 n10 hb ho41
              refine hK.out _ _ (ofM BK161.out BK163.out) (fun hHeld => ?_)
              clear hK K
              refine norm_ (a' := ?_) ?_ ?_
              rotate_left
              · show Act.put _ (some 29) _ = _
                simp only [Act.put, List.setIfInBounds_toArray, List.set_cons_zero, List.set_cons_succ, i64_w, i32_w]
                rfl
              exact norm_ (by rfl) (J6 (v165, v171, v177, v183) _ ⟨hHeld, (Kd.R_mono O36.out (fun _ hk => ⟨hk.2, ⟨hk.1.1, ⟨hk.1.2.1, hk.1.2.2⟩⟩⟩)), (Kd.R_mono O29.out (fun _ hk => ⟨hk.1.1.2, ⟨hk.1.2, ⟨hk.2, hk.1.1.1.2⟩⟩⟩)), (Kd.R_mono O33.out (fun _ hk => ⟨hk.1.1, ⟨hk.2, ⟨hk.1.2.1, hk.1.2.2⟩⟩⟩)), (Kd.R_mono O28.out (fun _ hk => ⟨hk.1.1, ⟨hk.2, ⟨hk.1.2.1, hk.1.2.2⟩⟩⟩)), (Kd.S_mono O13.out (fun _ hk => ⟨hk.1.1, ⟨hk.2, ⟨hk.1.2.1, ⟨hk.1.2.2.1, hk.1.2.2.2⟩⟩⟩⟩)), (Kd.R_mono O14.out (fun _ hk => ⟨hk.1.1, ⟨hk.2, ⟨hk.1.2.1, hk.1.2.2⟩⟩⟩)), BK153.out, BK154.out, BK161.out, BK163.out, HB.out⟩)
          intro J12
          refine join_ (σ := Value × Value × Value) 10 ofL21 (fun s_ => [(29, s_.1), (33, s_.2.1), (37, s_.2.2)]) (fun s_ w' => (ofH w' gb161 Ao30 x162000_1 co30 Ao10 y158 co10 gb163 A162_0 l0_0 x4_1 c162_0 A162_1 c162_1 A162_2 c162_2 A162_3 c162_3) ∧ (Kd.R Kd.string 9 w' w.heap.size (fun k_ => Nb k_ s_.2.1 ∧ Nb k_ s_.2.2 ∧ Nb k_ (.slice Ao10 y158.length co10)) s_.1 y170) ∧ (Kd.R Kd.string 9 w' w.heap.size (fun k_ => Nb k_ s_.1 ∧ Nb k_ s_.2.2 ∧ Nb k_ (.slice Ao10 y158.length co10)) s_.2.1 y176) ∧ (Kd.R Kd.string 9 w' w.heap.size (fun k_ => Nb k_ s_.1 ∧ Nb k_ s_.2.1 ∧ Nb k_ (.slice Ao10 y158.length co10)) s_.2.2 y182) ∧ (Kd.S k43 43 w' w.heap.size (fun k_ => Nb k_ s_.1 ∧ Nb k_ s_.2.1 ∧ Nb k_ s_.2.2 ∧ Nb k_ (.slice Ao10 y158.length co10)) (.slice Ao30 x162000_1.length co30) x162000_1) ∧ (Kd.R Kd.string 9 w' w.heap.size (fun k_ => Nb k_ s_.1 ∧ Nb k_ s_.2.1 ∧ Nb k_ s_.2.2) (.slice Ao10 y158.length co10) y158) ∧ ofT w w' gb153 ad162 l0_0 c0_0 A0_1 l0_1 c0_1 gb154 gb161 Ao30 x162000_1 co30 Ao10 y158 co10 gb163 A162_0 x4_1 c162_0 A162_1 c162_1 A162_2 c162_2 A162_3 c162_3) ?_ ?_
          · skip
            rintro ⟨v171, v177, v183⟩ w39 ⟨hS_, h0_, h1_, h2_, h3_, h4_, h5_, h6_, h7_, h8_, h9_⟩
            try dsimp only at h0_ h1_ h2_ h3_ h4_ h5_ h6_ h7_ h8_ h9_
            have n0 := ofA h0_; have n1 := ofA h1_; have n2 := ofA h2_; have n3 := ofA h3_; have n4 := ofA h4_; have n5 := ofA h5_; have n6 := ofA h6_; have n7 := ofA h7_; have n8 := ofA h8_; have n9 := ofA h9_; clear O13 O14 BK153 BK154 BK161 BK163 HB h0_ h1_ h2_ h3_ h4_ h5_ h6_ h7_ h8_ h9_; have O29 := n0; have O33 := n1; have O28 := n2; have O13 := n3; have O14 := n4; have BK153 := n5; have BK154 := n6; have BK161 := n7; have BK163 := n8; have HB := n9; clear n0 n1 n2 n3 n4 n5 n6 n7 n8 n9
            have hHeld := hS_
            refine norm_ (a' := ?_) ?_ ?_
            rotate_left
            · simp only [putAll, Act.put, List.setIfInBounds_toArray, List.set_cons_zero, List.set_cons_succ]
              rfl
            refine one_ (i := 2) (N := some 25) ofL29 rfl rfl (one_of HT_.out (by kernel_rfl)) (by decide) (fun K hK => ?_)
            refine Kd.R_lit_step Kd.string _ 9 ?hg (N := 25) ?hd (xs := ([] : List ByteArray)) (inner := []) (ok := fun _ => True) (okp := fun _ => True) ?hr ?hp (fun _ hk => hk) trivial (Below.refl _ _) (Nat.le_refl _) (by simp) ?_; (case hd => rfl); (case hg => rfl); (case hr => first | (go_simp; done) | (go_simp; rfl)); (case hp => exact (Reps.none _ _))
            intro v165 w40 ho41 hb hg_ hnew_; clear hg_ hnew_
            (first | rw [← Ny164.out] at ho41 | (simp only [Int.reduceToNat] at ho41; rw [← Ny164.out] at ho41))
            have n0 := ofA (Kd.S_elder' O13.out (Kd.R_base ho41) hb); have n1 := ofA (Kd.R_elder' O14.out (Kd.R_base ho41) hb); have n2 := ofA (Kd.R_elder' O29.out (Kd.R_base ho41) hb); have n3 := ofA (Kd.R_elder' O33.out (Kd.R_base ho41) hb); have n4 := ofA (Kd.R_elder' O28.out (Kd.R_base ho41) hb)
            have n5 := ofA (Kd.R_lower (Kd.R_new' (Kd.R_new' (Kd.R_new' (Kd.R_new' ho41 (Kd.R_lt O14.out)) (Kd.R_lt O29.out)) (Kd.R_lt O33.out)) (Kd.R_lt O28.out)) (below_size HB.out))
            have n10 := ofA (below_step HB.out hb); replace BK153 := ofA (blk_below BK153.out hb); replace BK154 := ofA (blk_below BK154.out hb); replace BK161 := ofA (blk_below BK161.out hb); replace BK163 := ofA (blk_below BK163.out hb); clear O13 O14 O29 O33 O28 HB; have O13 := n0; have O14 := n1; have O29 := n2; have O33 := n3; have O28 := n4; have O36 := n5; have HB := n10; clear n0 n1 n2 n3 n4 n5 n10 hb ho41
            refine hK.out _ _ (ofM BK161.out BK163.out) (fun hHeld => ?_)
            clear hK K
            refine norm_ (a' := ?_) ?_ ?_
            rotate_left
            · show Act.put _ (some 25) _ = _
              simp only [Act.put, List.setIfInBounds_toArray, List.set_cons_zero, List.set_cons_succ, i64_w, i32_w]
              rfl
            exact norm_ (by rfl) (J6 (v165, v171, v177, v183) _ ⟨hHeld, (Kd.R_mono O36.out (fun _ hk => ⟨hk.1.1.2, ⟨hk.1.2, ⟨hk.2, hk.1.1.1.2⟩⟩⟩)), (Kd.R_mono O29.out (fun _ hk => ⟨hk.2, ⟨hk.1.1, ⟨hk.1.2.1, hk.1.2.2⟩⟩⟩)), (Kd.R_mono O33.out (fun _ hk => ⟨hk.2, ⟨hk.1.1, ⟨hk.1.2.1, hk.1.2.2⟩⟩⟩)), (Kd.R_mono O28.out (fun _ hk => ⟨hk.2, ⟨hk.1.1, ⟨hk.1.2.1, hk.1.2.2⟩⟩⟩)), (Kd.S_mono O13.out (fun _ hk => ⟨hk.2, ⟨hk.1.1, ⟨hk.1.2.1, ⟨hk.1.2.2.1, hk.1.2.2.2⟩⟩⟩⟩)), (Kd.R_mono O14.out (fun _ hk => ⟨hk.2, ⟨hk.1.1, ⟨hk.1.2.1, hk.1.2.2⟩⟩⟩)), BK153.out, BK154.out, BK161.out, BK163.out, HB.out⟩)
          intro J10
          refine join_ (σ := Value × Value) 11 ofL30 (fun s_ => [(25, s_.1), (28, s_.2)]) (fun s_ w' => (ofH w' gb161 Ao30 x162000_1 co30 Ao10 y158 co10 gb163 A162_0 l0_0 x4_1 c162_0 A162_1 c162_1 A162_2 c162_2 A162_3 c162_3) ∧ (Kd.R Kd.string 9 w' w.heap.size (fun k_ => Nb k_ (.slice Ao10 y158.length co10)) s_.2 y167) ∧ (Kd.S k43 43 w' w.heap.size (fun k_ => Nb k_ s_.2 ∧ Nb k_ (.slice Ao10 y158.length co10)) (.slice Ao30 x162000_1.length co30) x162000_1) ∧ (Kd.R Kd.string 9 w' w.heap.size (fun k_ => Nb k_ s_.2) (.slice Ao10 y158.length co10) y158) ∧ ofT w w' gb153 ad162 l0_0 c0_0 A0_1 l0_1 c0_1 gb154 gb161 Ao30 x162000_1 co30 Ao10 y158 co10 gb163 A162_0 x4_1 c162_0 A162_1 c162_1 A162_2 c162_2 A162_3 c162_3) ?_ ?_
          · skip
            rintro ⟨v165, v168⟩ w36 ⟨hS_, h0_, h1_, h2_, h3_, h4_, h5_, h6_, h7_⟩
            try dsimp only at h0_ h1_ h2_ h3_ h4_ h5_ h6_ h7_
            have n0 := ofA h0_; have n1 := ofA h1_; have n2 := ofA h2_; have n3 := ofA h3_; have n4 := ofA h4_; have n5 := ofA h5_; have n6 := ofA h6_; have n7 := ofA h7_; clear O13 O14 BK153 BK154 BK161 BK163 HB h0_ h1_ h2_ h3_ h4_ h5_ h6_ h7_; have O32 := n0; have O13 := n1; have O14 := n2; have BK153 := n3; have BK154 := n4; have BK161 := n5; have BK163 := n6; have HB := n7; clear n0 n1 n2 n3 n4 n5 n6 n7
            have hHeld := hS_
            refine norm_ (a' := ?_) ?_ ?_
            rotate_left
            · simp only [putAll, Act.put, List.setIfInBounds_toArray, List.set_cons_zero, List.set_cons_succ]
              rfl
            refine three_ (i := 6) (j := 10) (k := 14) (Ni := some 29) (Nj := some 33) (Nk := some 37) ofL34 ofL32 ofL31 rfl rfl rfl rfl rfl rfl (three_of HT_.out (by kernel_rfl)) (by decide) (by decide) (by decide) (fun K hK => ?_) (fun K hK => ?_) (fun K hK => ?_)
            · skip
              refine Kd.R_lit_step Kd.string _ 9 ?hg (N := 29) ?hd (xs := ([] : List ByteArray)) (inner := []) (ok := fun _ => True) (okp := fun _ => True) ?hr ?hp (fun _ hk => hk) trivial (Below.refl _ _) (Nat.le_refl _) (by simp) ?_; (case hd => rfl); (case hg => rfl); (case hr => first | (go_simp; done) | (go_simp; rfl)); (case hp => exact (Reps.none _ _))
              intro v171 w37 ho38 hb hg_ hnew_; clear hg_ hnew_
              (first | rw [← Ny170.out] at ho38 | (simp only [Int.reduceToNat] at ho38; rw [← Ny170.out] at ho38))
              have n0 := ofA (Kd.S_elder' O13.out (Kd.R_base ho38) hb); have n1 := ofA (Kd.R_elder' O14.out (Kd.R_base ho38) hb); have n2 := ofA (Kd.R_elder' O32.out (Kd.R_base ho38) hb); have n3 := ofA (Kd.R_lower (Kd.R_new' (Kd.R_new' ho38 (Kd.R_lt O14.out)) (Kd.R_lt O32.out)) (below_size HB.out)); have n8 := ofA (below_step HB.out hb); replace BK153 := ofA (blk_below BK153.out hb); replace BK154 := ofA (blk_below BK154.out hb); replace BK161 := ofA (blk_below BK161.out hb); replace BK163 := ofA (blk_below BK163.out hb); clear O13 O14 O32 HB; have O13 := n0; have O14 := n1; have O32 := n2; have O29 := n3; have HB := n8; clear n0 n1 n2 n3 n8 hb ho38
              refine hK.out _ _ (ofM BK161.out BK163.out) (fun hHeld => ?_)
              clear hK K
              refine norm_ (a' := ?_) ?_ ?_
              rotate_left
              · show Act.put _ (some 29) _ = _
                simp only [Act.put, List.setIfInBounds_toArray, List.set_cons_zero, List.set_cons_succ, i64_w, i32_w]
                rfl
              exact norm_ (by rfl) (J20 (v165, v168, v171) _ ⟨hHeld, (Kd.R_mono O32.out (fun _ hk => ⟨hk.2, hk.1⟩)), (Kd.R_mono O29.out (fun _ hk => ⟨hk.2, hk.1.2⟩)), (Kd.S_mono O13.out (fun _ hk => ⟨hk.1.1, ⟨hk.2, hk.1.2⟩⟩)), O14.out, BK153.out, BK154.out, BK161.out, BK163.out, HB.out⟩)
            · skip
              refine Kd.R_lit_step Kd.string _ 9 ?hg (N := 33) ?hd (xs := ([] : List ByteArray)) (inner := []) (ok := fun _ => True) (okp := fun _ => True) ?hr ?hp (fun _ hk => hk) trivial (Below.refl _ _) (Nat.le_refl _) (by simp) ?_; (case hd => rfl); (case hg => rfl); (case hr => first | (go_simp; done) | (go_simp; rfl)); (case hp => exact (Reps.none _ _))
              intro v177 w37 ho38 hb hg_ hnew_; clear hg_ hnew_
              (first | rw [← Ny176.out] at ho38 | (simp only [Int.reduceToNat] at ho38; rw [← Ny176.out] at ho38))
              have n0 := ofA (Kd.S_elder' O13.out (Kd.R_base ho38) hb); have n1 := ofA (Kd.R_elder' O14.out (Kd.R_base ho38) hb); have n2 := ofA (Kd.R_elder' O32.out (Kd.R_base ho38) hb); have n3 := ofA (Kd.R_lower (Kd.R_new' (Kd.R_new' ho38 (Kd.R_lt O14.out)) (Kd.R_lt O32.out)) (below_size HB.out)); have n8 := ofA (below_step HB.out hb); replace BK153 := ofA (blk_below BK153.out hb); replace BK154 := ofA (blk_below BK154.out hb); replace BK161 := ofA (blk_below BK161.out hb); replace BK163 := ofA (blk_below BK163.out hb); clear O13 O14 O32 HB; have O13 := n0; have O14 := n1; have O32 := n2; have O33 := n3; have HB := n8; clear n0 n1 n2 n3 n8 hb ho38
              refine hK.out _ _ (ofM BK161.out BK163.out) (fun hHeld => ?_)
              clear hK K
              refine norm_ (a' := ?_) ?_ ?_
              rotate_left
              · show Act.put _ (some 33) _ = _
                simp only [Act.put, List.setIfInBounds_toArray, List.set_cons_zero, List.set_cons_succ, i64_w, i32_w]
                rfl
              exact norm_ (by rfl) (J16 (v165, v168, v177) _ ⟨hHeld, (Kd.R_mono O32.out (fun _ hk => ⟨hk.2, hk.1⟩)), (Kd.R_mono O33.out (fun _ hk => ⟨hk.2, hk.1.2⟩)), (Kd.S_mono O13.out (fun _ hk => ⟨hk.1.1, ⟨hk.2, hk.1.2⟩⟩)), O14.out, BK153.out, BK154.out, BK161.out, BK163.out, HB.out⟩)
            · skip
              refine Kd.R_lit_step Kd.string _ 9 ?hg (N := 37) ?hd (xs := ([] : List ByteArray)) (inner := []) (ok := fun _ => True) (okp := fun _ => True) ?hr ?hp (fun _ hk => hk) trivial (Below.refl _ _) (Nat.le_refl _) (by simp) ?_; (case hd => rfl); (case hg => rfl); (case hr => first | (go_simp; done) | (go_simp; rfl)); (case hp => exact (Reps.none _ _))
              intro v183 w37 ho38 hb hg_ hnew_; clear hg_ hnew_
              (first | rw [← Ny182.out] at ho38 | (simp only [Int.reduceToNat] at ho38; rw [← Ny182.out] at ho38))
              have n0 := ofA (Kd.S_elder' O13.out (Kd.R_base ho38) hb); have n1 := ofA (Kd.R_elder' O14.out (Kd.R_base ho38) hb); have n2 := ofA (Kd.R_elder' O32.out (Kd.R_base ho38) hb); have n3 := ofA (Kd.R_lower (Kd.R_new' (Kd.R_new' ho38 (Kd.R_lt O14.out)) (Kd.R_lt O32.out)) (below_size HB.out)); have n8 := ofA (below_step HB.out hb); replace BK153 := ofA (blk_below BK153.out hb); replace BK154 := ofA (blk_below BK154.out hb); replace BK161 := ofA (blk_below BK161.out hb); replace BK163 := ofA (blk_below BK163.out hb); clear O13 O14 O32 HB; have O13 := n0; have O14 := n1; have O32 := n2; have O28 := n3; have HB := n8; clear n0 n1 n2 n3 n8 hb ho38
              refine hK.out _ _ (ofM BK161.out BK163.out) (fun hHeld => ?_)
              clear hK K
              refine norm_ (a' := ?_) ?_ ?_
              rotate_left
              · show Act.put _ (some 37) _ = _
                simp only [Act.put, List.setIfInBounds_toArray, List.set_cons_zero, List.set_cons_succ, i64_w, i32_w]
                rfl
              exact norm_ (by rfl) (J15 (v165, v168, v183) _ ⟨hHeld, (Kd.R_mono O32.out (fun _ hk => ⟨hk.2, hk.1⟩)), (Kd.R_mono O28.out (fun _ hk => ⟨hk.2, hk.1.2⟩)), (Kd.S_mono O13.out (fun _ hk => ⟨hk.1.1, ⟨hk.2, hk.1.2⟩⟩)), O14.out, BK153.out, BK154.out, BK161.out, BK163.out, HB.out⟩)
          intro J31
          refine join_ (σ := Value × Value) 11 ofL26 (fun s_ => [(25, s_.1), (29, s_.2)]) (fun s_ w' => (ofH w' gb161 Ao30 x162000_1 co30 Ao10 y158 co10 gb163 A162_0 l0_0 x4_1 c162_0 A162_1 c162_1 A162_2 c162_2 A162_3 c162_3) ∧ (Kd.R Kd.string 9 w' w.heap.size (fun k_ => Nb k_ s_.2 ∧ Nb k_ (.slice Ao10 y158.length co10)) s_.1 y164) ∧ (Kd.R Kd.string 9 w' w.heap.size (fun k_ => Nb k_ s_.1 ∧ Nb k_ (.slice Ao10 y158.length co10)) s_.2 y170) ∧ (Kd.S k43 43 w' w.heap.size (fun k_ => Nb k_ s_.1 ∧ Nb k_ s_.2 ∧ Nb k_ (.slice Ao10 y158.length co10)) (.slice Ao30 x162000_1.length co30) x162000_1) ∧ (Kd.R Kd.string 9 w' w.heap.size (fun k_ => Nb k_ s_.1 ∧ Nb k_ s_.2) (.slice Ao10 y158.length co10) y158) ∧ ofT w w' gb153 ad162 l0_0 c0_0 A0_1 l0_1 c0_1 gb154 gb161 Ao30 x162000_1 co30 Ao10 y158 co10 gb163 A162_0 x4_1 c162_0 A162_1 c162_1 A162_2 c162_2 A162_3 c162_3) ?_ ?_
          · skip
            rintro ⟨v165, v171⟩ w37 ⟨hS_, h0_, h1_, h2_, h3_, h4_, h5_, h6_, h7_, h8_⟩
            try dsimp only at h0_ h1_ h2_ h3_ h4_ h5_ h6_ h7_ h8_
            have n0 := ofA h0_; have n1 := ofA h1_; have n2 := ofA h2_; have n3 := ofA h3_; have n4 := ofA h4_; have n5 := ofA h5_; have n6 := ofA h6_; have n7 := ofA h7_; have n8 := ofA h8_; clear O13 O14 BK153 BK154 BK161 BK163 HB h0_ h1_ h2_ h3_ h4_ h5_ h6_ h7_ h8_; have O36 := n0; have O29 := n1; have O13 := n2; have O14 := n3; have BK153 := n4; have BK154 := n5; have BK161 := n6; have BK163 := n7; have HB := n8; clear n0 n1 n2 n3 n4 n5 n6 n7 n8
            have hHeld := hS_
            refine norm_ (a' := ?_) ?_ ?_
            rotate_left
            · simp only [putAll, Act.put, List.setIfInBounds_toArray, List.set_cons_zero, List.set_cons_succ]
              rfl
            refine three_ (i := 5) (j := 10) (k := 14) (Ni := some 28) (Nj := some 33) (Nk := some 37) ofL34 ofL28 ofL27 rfl rfl rfl rfl rfl rfl (three_of HT_.out (by kernel_rfl)) (by decide) (by decide) (by decide) (fun K hK => ?_) (fun K hK => ?_) (fun K hK => ?_)
            · skip
              refine Kd.R_append_rows_step Kd.string (w0 := w) w.heap.size (by rfl) (.tmp 25) (.tmp 27) 23 9 (.string ⟨#[]⟩) 16 rfl Tryz.underlying23 info9 rfl (by decide) (by omega) v165 y164 ((rd_T38 l0_0 x4_1).f0) _ _ _ (fun k_ => Nb k_ (.slice Ao10 y158.length co10) ∧ Nb k_ v171) (fun _ => False) rfl rfl ?aO ?aR (fun _ _ h => h) (fun _ h => h.elim) ?aF ?aB ?aS ?aL ?_
              (case aR => repeat (first | exact (Kd.C_below HR162_0.out HB.out) | (with_reducible refine Kd.C_alloc ?_ _) | (with_reducible refine Kd.C_drewN ?_ _) | (with_reducible refine Kd.C_drew ?_)))
              (case aB => exact HB.out)
              (case aF => exact (fun k_ hk => ⟨Kd.fresh' (Kd.R_lt O14.out) k_ hk, Kd.fresh' (Kd.R_lt O29.out) k_ hk⟩))
              (case aO => exact (Kd.R_mono O36.out (fun _ hk => ⟨hk.2, hk.1⟩)))
              (case aS => exact (below_size HB.out))
              (case aL => have := LMc17.out; omega)
              intro v168 w38 ho hb hg hat
              rw [← Ny167.out] at ho
              have n0 := ofA (Kd.S_after (ok := (fun k_ => Nb k_ (.slice Ao10 y158.length co10) ∧ Nb k_ v171)) (Kd.S_mono O13.out (fun _ hk => ⟨⟨hk.2.2, hk.2.1⟩, hk.1⟩)) hg hat)
              have n1 := ofA (Kd.R_after (ok := (fun k_ => Nb k_ v171)) (Kd.R_mono O14.out (fun _ hk => ⟨hk.2, hk.1⟩)) hg hat)
              have n6 := ofA (Kd.R_after (ok := (fun k_ => Nb k_ (.slice Ao10 y158.length co10))) (Kd.R_mono O29.out (fun _ hk => ⟨hk.2, hk.1⟩)) hg hat)
              have n7 := ofA (hb); have n8 := ofA (ho); replace BK153 := ofA (blk_grown BK153.out hg (Kd.R_ne O36.out BK153.out (by decide))); replace BK154 := ofA (blk_grown BK154.out hg (Kd.R_ne O36.out BK154.out (by decide))); replace BK161 := ofA (blk_grown BK161.out hg (Kd.R_ne O36.out BK161.out (by decide))); replace BK163 := ofA (blk_grown BK163.out hg (Kd.R_ne O36.out BK163.out (by decide))); clear O13 O14 O29 HB O36; have O13 := n0; have O14 := n1; have O29 := n6; have HB := n7; have O32 := n8; clear n0 n1 n6 n7 n8 ho hb hg hat
              refine hK.out _ _ (ofM BK161.out BK163.out) (fun hHeld => ?_)
              clear hK K
              refine norm_ (a' := ?_) ?_ ?_
              rotate_left
              · show Act.put _ (some 28) _ = _
                simp only [Act.put, List.setIfInBounds_toArray, List.set_cons_zero, List.set_cons_succ, i64_w, i32_w]
                rfl
              exact norm_ (by rfl) (J20 (v165, v168, v171) _ ⟨hHeld, (Kd.R_mono O32.out (fun _ hk => ⟨hk.2, hk.1⟩)), (Kd.R_mono O29.out (fun _ hk => ⟨hk.2, hk.1⟩)), (Kd.S_mono O13.out (fun _ hk => ⟨hk.2, ⟨hk.1.2, hk.1.1⟩⟩)), (Kd.R_mono O14.out (fun _ hk => ⟨hk.2, hk.1⟩)), BK153.out, BK154.out, BK161.out, BK163.out, HB.out⟩)
            · skip
              refine Kd.R_lit_step Kd.string _ 9 ?hg (N := 33) ?hd (xs := ([] : List ByteArray)) (inner := []) (ok := fun _ => True) (okp := fun _ => True) ?hr ?hp (fun _ hk => hk) trivial (Below.refl _ _) (Nat.le_refl _) (by simp) ?_; (case hd => rfl); (case hg => rfl); (case hr => first | (go_simp; done) | (go_simp; rfl)); (case hp => exact (Reps.none _ _))
              intro v177 w38 ho39 hb hg_ hnew_; clear hg_ hnew_
              (first | rw [← Ny176.out] at ho39 | (simp only [Int.reduceToNat] at ho39; rw [← Ny176.out] at ho39))
              have n0 := ofA (Kd.S_elder' O13.out (Kd.R_base ho39) hb); have n1 := ofA (Kd.R_elder' O14.out (Kd.R_base ho39) hb); have n2 := ofA (Kd.R_elder' O36.out (Kd.R_base ho39) hb); have n3 := ofA (Kd.R_elder' O29.out (Kd.R_base ho39) hb)
              have n4 := ofA (Kd.R_lower (Kd.R_new' (Kd.R_new' (Kd.R_new' ho39 (Kd.R_lt O14.out)) (Kd.R_lt O36.out)) (Kd.R_lt O29.out)) (below_size HB.out))
              have n9 := ofA (below_step HB.out hb); replace BK153 := ofA (blk_below BK153.out hb); replace BK154 := ofA (blk_below BK154.out hb); replace BK161 := ofA (blk_below BK161.out hb); replace BK163 := ofA (blk_below BK163.out hb); clear O13 O14 O36 O29 HB; have O13 := n0; have O14 := n1; have O36 := n2; have O29 := n3; have O33 := n4; have HB := n9; clear n0 n1 n2 n3 n4 n9 hb ho39
              refine hK.out _ _ (ofM BK161.out BK163.out) (fun hHeld => ?_)
              clear hK K
              refine norm_ (a' := ?_) ?_ ?_
              rotate_left
              · show Act.put _ (some 33) _ = _
                simp only [Act.put, List.setIfInBounds_toArray, List.set_cons_zero, List.set_cons_succ, i64_w, i32_w]
                rfl
              exact norm_ (by rfl) (J18 (v165, v171, v177) _ ⟨hHeld, (Kd.R_mono O36.out (fun _ hk => ⟨hk.1.1, ⟨hk.2, hk.1.2⟩⟩)), (Kd.R_mono O29.out (fun _ hk => ⟨hk.1.1, ⟨hk.2, hk.1.2⟩⟩)), (Kd.R_mono O33.out (fun _ hk => ⟨hk.1.2, ⟨hk.2, hk.1.1.2⟩⟩)), (Kd.S_mono O13.out (fun _ hk => ⟨hk.1.1, ⟨hk.1.2.1, ⟨hk.2, hk.1.2.2⟩⟩⟩)), (Kd.R_mono O14.out (fun _ hk => ⟨hk.1.1, ⟨hk.1.2, hk.2⟩⟩)), BK153.out, BK154.out, BK161.out, BK163.out, HB.out⟩)
            · skip
              refine Kd.R_lit_step Kd.string _ 9 ?hg (N := 37) ?hd (xs := ([] : List ByteArray)) (inner := []) (ok := fun _ => True) (okp := fun _ => True) ?hr ?hp (fun _ hk => hk) trivial (Below.refl _ _) (Nat.le_refl _) (by simp) ?_; (case hd => rfl); (case hg => rfl); (case hr => first | (go_simp; done) | (go_simp; rfl)); (case hp => exact (Reps.none _ _))
              intro v183 w38 ho39 hb hg_ hnew_; clear hg_ hnew_
              (first | rw [← Ny182.out] at ho39 | (simp only [Int.reduceToNat] at ho39; rw [← Ny182.out] at ho39))
              have n0 := ofA (Kd.S_elder' O13.out (Kd.R_base ho39) hb); have n1 := ofA (Kd.R_elder' O14.out (Kd.R_base ho39) hb); have n2 := ofA (Kd.R_elder' O36.out (Kd.R_base ho39) hb); have n3 := ofA (Kd.R_elder' O29.out (Kd.R_base ho39) hb)
              have n4 := ofA (Kd.R_lower (Kd.R_new' (Kd.R_new' (Kd.R_new' ho39 (Kd.R_lt O14.out)) (Kd.R_lt O36.out)) (Kd.R_lt O29.out)) (below_size HB.out))
              have n9 := ofA (below_step HB.out hb); replace BK153 := ofA (blk_below BK153.out hb); replace BK154 := ofA (blk_below BK154.out hb); replace BK161 := ofA (blk_below BK161.out hb); replace BK163 := ofA (blk_below BK163.out hb); clear O13 O14 O36 O29 HB; have O13 := n0; have O14 := n1; have O36 := n2; have O29 := n3; have O28 := n4; have HB := n9; clear n0 n1 n2 n3 n4 n9 hb ho39
              refine hK.out _ _ (ofM BK161.out BK163.out) (fun hHeld => ?_)
              clear hK K
              refine norm_ (a' := ?_) ?_ ?_
              rotate_left
              · show Act.put _ (some 37) _ = _
                simp only [Act.put, List.setIfInBounds_toArray, List.set_cons_zero, List.set_cons_succ, i64_w, i32_w]
                rfl
              exact norm_ (by rfl) (J17 (v165, v171, v183) _ ⟨hHeld, (Kd.R_mono O36.out (fun _ hk => ⟨hk.1.1, ⟨hk.2, hk.1.2⟩⟩)), (Kd.R_mono O29.out (fun _ hk => ⟨hk.1.1, ⟨hk.2, hk.1.2⟩⟩)), (Kd.R_mono O28.out (fun _ hk => ⟨hk.1.2, ⟨hk.2, hk.1.1.2⟩⟩)), (Kd.S_mono O13.out (fun _ hk => ⟨hk.1.1, ⟨hk.1.2.1, ⟨hk.2, hk.1.2.2⟩⟩⟩)), (Kd.R_mono O14.out (fun _ hk => ⟨hk.1.1, ⟨hk.1.2, hk.2⟩⟩)), BK153.out, BK154.out, BK161.out, BK163.out, HB.out⟩)
          intro J37
          refine join_ (σ := Value × Value) 11 ofL24 (fun s_ => [(25, s_.1), (33, s_.2)]) (fun s_ w' => (ofH w' gb161 Ao30 x162000_1 co30 Ao10 y158 co10 gb163 A162_0 l0_0 x4_1 c162_0 A162_1 c162_1 A162_2 c162_2 A162_3 c162_3) ∧ (Kd.R Kd.string 9 w' w.heap.size (fun k_ => Nb k_ s_.2 ∧ Nb k_ (.slice Ao10 y158.length co10)) s_.1 y164) ∧ (Kd.R Kd.string 9 w' w.heap.size (fun k_ => Nb k_ s_.1 ∧ Nb k_ (.slice Ao10 y158.length co10)) s_.2 y176) ∧ (Kd.S k43 43 w' w.heap.size (fun k_ => Nb k_ s_.1 ∧ Nb k_ s_.2 ∧ Nb k_ (.slice Ao10 y158.length co10)) (.slice Ao30 x162000_1.length co30) x162000_1) ∧ (Kd.R Kd.string 9 w' w.heap.size (fun k_ => Nb k_ s_.1 ∧ Nb k_ s_.2) (.slice Ao10 y158.length co10) y158) ∧ ofT w w' gb153 ad162 l0_0 c0_0 A0_1 l0_1 c0_1 gb154 gb161 Ao30 x162000_1 co30 Ao10 y158 co10 gb163 A162_0 x4_1 c162_0 A162_1 c162_1 A162_2 c162_2 A162_3 c162_3) ?_ ?_
          · skip
            rintro ⟨v165, v177⟩ w37 ⟨hS_, h0_, h1_, h2_, h3_, h4_, h5_, h6_, h7_, h8_⟩
            try dsimp only at h0_ h1_ h2_ h3_ h4_ h5_ h6_ h7_ h8_
            have n0 := ofA h0_; have n1 := ofA h1_; have n2 := ofA h2_; have n3 := ofA h3_; have n4 := ofA h4_; have n5 := ofA h5_; have n6 := ofA h6_; have n7 := ofA h7_; have n8 := ofA h8_; clear O13 O14 BK153 BK154 BK161 BK163 HB h0_ h1_ h2_ h3_ h4_ h5_ h6_ h7_ h8_; have O36 := n0; have O33 := n1; have O13 := n2; have O14 := n3; have BK153 := n4; have BK154 := n5; have BK161 := n6; have BK163 := n7; have HB := n8; clear n0 n1 n2 n3 n4 n5 n6 n7 n8
            have hHeld := hS_
            refine norm_ (a' := ?_) ?_ ?_
            rotate_left
            · simp only [putAll, Act.put, List.setIfInBounds_toArray, List.set_cons_zero, List.set_cons_succ]
              rfl
            refine three_ (i := 5) (j := 6) (k := 14) (Ni := some 28) (Nj := some 29) (Nk := some 37) ofL32 ofL28 ofL25 rfl rfl rfl rfl rfl rfl (three_of HT_.out (by kernel_rfl)) (by decide) (by decide) (by decide) (fun K hK => ?_) (fun K hK => ?_) (fun K hK => ?_)
            · skip
              refine Kd.R_append_rows_step Kd.string (w0 := w) w.heap.size (by rfl) (.tmp 25) (.tmp 27) 23 9 (.string ⟨#[]⟩) 16 rfl Tryz.underlying23 info9 rfl (by decide) (by omega) v165 y164 ((rd_T38 l0_0 x4_1).f0) _ _ _ (fun k_ => Nb k_ (.slice Ao10 y158.length co10) ∧ Nb k_ v177) (fun _ => False) rfl rfl ?aO ?aR (fun _ _ h => h) (fun _ h => h.elim) ?aF ?aB ?aS ?aL ?_
              (case aR => repeat (first | exact (Kd.C_below HR162_0.out HB.out) | (with_reducible refine Kd.C_alloc ?_ _) | (with_reducible refine Kd.C_drewN ?_ _) | (with_reducible refine Kd.C_drew ?_)))
              (case aB => exact HB.out)
              (case aF => exact (fun k_ hk => ⟨Kd.fresh' (Kd.R_lt O14.out) k_ hk, Kd.fresh' (Kd.R_lt O33.out) k_ hk⟩))
              (case aO => exact (Kd.R_mono O36.out (fun _ hk => ⟨hk.2, hk.1⟩)))
              (case aS => exact (below_size HB.out))
              (case aL => have := LMc17.out; omega)
              intro v168 w38 ho hb hg hat
              rw [← Ny167.out] at ho
              have n0 := ofA (Kd.S_after (ok := (fun k_ => Nb k_ (.slice Ao10 y158.length co10) ∧ Nb k_ v177)) (Kd.S_mono O13.out (fun _ hk => ⟨⟨hk.2.2, hk.2.1⟩, hk.1⟩)) hg hat)
              have n1 := ofA (Kd.R_after (ok := (fun k_ => Nb k_ v177)) (Kd.R_mono O14.out (fun _ hk => ⟨hk.2, hk.1⟩)) hg hat)
              have n6 := ofA (Kd.R_after (ok := (fun k_ => Nb k_ (.slice Ao10 y158.length co10))) (Kd.R_mono O33.out (fun _ hk => ⟨hk.2, hk.1⟩)) hg hat)
              have n7 := ofA (hb); have n8 := ofA (ho); replace BK153 := ofA (blk_grown BK153.out hg (Kd.R_ne O36.out BK153.out (by decide))); replace BK154 := ofA (blk_grown BK154.out hg (Kd.R_ne O36.out BK154.out (by decide))); replace BK161 := ofA (blk_grown BK161.out hg (Kd.R_ne O36.out BK161.out (by decide))); replace BK163 := ofA (blk_grown BK163.out hg (Kd.R_ne O36.out BK163.out (by decide))); clear O13 O14 O33 HB O36; have O13 := n0; have O14 := n1; have O33 := n6; have HB := n7; have O32 := n8; clear n0 n1 n6 n7 n8 ho hb hg hat
              refine hK.out _ _ (ofM BK161.out BK163.out) (fun hHeld => ?_)
              clear hK K
              refine norm_ (a' := ?_) ?_ ?_
              rotate_left
              · show Act.put _ (some 28) _ = _
                simp only [Act.put, List.setIfInBounds_toArray, List.set_cons_zero, List.set_cons_succ, i64_w, i32_w]
                rfl
              exact norm_ (by rfl) (J16 (v165, v168, v177) _ ⟨hHeld, (Kd.R_mono O32.out (fun _ hk => ⟨hk.2, hk.1⟩)), (Kd.R_mono O33.out (fun _ hk => ⟨hk.2, hk.1⟩)), (Kd.S_mono O13.out (fun _ hk => ⟨hk.2, ⟨hk.1.2, hk.1.1⟩⟩)), (Kd.R_mono O14.out (fun _ hk => ⟨hk.2, hk.1⟩)), BK153.out, BK154.out, BK161.out, BK163.out, HB.out⟩)
            · skip
              refine Kd.R_lit_step Kd.string _ 9 ?hg (N := 29) ?hd (xs := ([] : List ByteArray)) (inner := []) (ok := fun _ => True) (okp := fun _ => True) ?hr ?hp (fun _ hk => hk) trivial (Below.refl _ _) (Nat.le_refl _) (by simp) ?_; (case hd => rfl); (case hg => rfl); (case hr => first | (go_simp; done) | (go_simp; rfl)); (case hp => exact (Reps.none _ _))
              intro v171 w38 ho39 hb hg_ hnew_; clear hg_ hnew_
              (first | rw [← Ny170.out] at ho39 | (simp only [Int.reduceToNat] at ho39; rw [← Ny170.out] at ho39))
              have n0 := ofA (Kd.S_elder' O13.out (Kd.R_base ho39) hb); have n1 := ofA (Kd.R_elder' O14.out (Kd.R_base ho39) hb); have n2 := ofA (Kd.R_elder' O36.out (Kd.R_base ho39) hb); have n3 := ofA (Kd.R_elder' O33.out (Kd.R_base ho39) hb)
              have n4 := ofA (Kd.R_lower (Kd.R_new' (Kd.R_new' (Kd.R_new' ho39 (Kd.R_lt O14.out)) (Kd.R_lt O36.out)) (Kd.R_lt O33.out)) (below_size HB.out))
              have n9 := ofA (below_step HB.out hb); replace BK153 := ofA (blk_below BK153.out hb); replace BK154 := ofA (blk_below BK154.out hb); replace BK161 := ofA (blk_below BK161.out hb); replace BK163 := ofA (blk_below BK163.out hb); clear O13 O14 O36 O33 HB; have O13 := n0; have O14 := n1; have O36 := n2; have O33 := n3; have O29 := n4; have HB := n9; clear n0 n1 n2 n3 n4 n9 hb ho39
              refine hK.out _ _ (ofM BK161.out BK163.out) (fun hHeld => ?_)
              clear hK K
              refine norm_ (a' := ?_) ?_ ?_
              rotate_left
              · show Act.put _ (some 29) _ = _
                simp only [Act.put, List.setIfInBounds_toArray, List.set_cons_zero, List.set_cons_succ, i64_w, i32_w]
                rfl
              exact norm_ (by rfl) (J18 (v165, v171, v177) _ ⟨hHeld, (Kd.R_mono O36.out (fun _ hk => ⟨hk.2, ⟨hk.1.1, hk.1.2⟩⟩)), (Kd.R_mono O29.out (fun _ hk => ⟨hk.1.2, ⟨hk.2, hk.1.1.2⟩⟩)), (Kd.R_mono O33.out (fun _ hk => ⟨hk.1.1, ⟨hk.2, hk.1.2⟩⟩)), (Kd.S_mono O13.out (fun _ hk => ⟨hk.1.1, ⟨hk.2, ⟨hk.1.2.1, hk.1.2.2⟩⟩⟩)), (Kd.R_mono O14.out (fun _ hk => ⟨hk.1.1, ⟨hk.2, hk.1.2⟩⟩)), BK153.out, BK154.out, BK161.out, BK163.out, HB.out⟩)
            · skip
              refine Kd.R_lit_step Kd.string _ 9 ?hg (N := 37) ?hd (xs := ([] : List ByteArray)) (inner := []) (ok := fun _ => True) (okp := fun _ => True) ?hr ?hp (fun _ hk => hk) trivial (Below.refl _ _) (Nat.le_refl _) (by simp) ?_; (case hd => rfl); (case hg => rfl); (case hr => first | (go_simp; done) | (go_simp; rfl)); (case hp => exact (Reps.none _ _))
              intro v183 w38 ho39 hb hg_ hnew_; clear hg_ hnew_
              (first | rw [← Ny182.out] at ho39 | (simp only [Int.reduceToNat] at ho39; rw [← Ny182.out] at ho39))
              have n0 := ofA (Kd.S_elder' O13.out (Kd.R_base ho39) hb); have n1 := ofA (Kd.R_elder' O14.out (Kd.R_base ho39) hb); have n2 := ofA (Kd.R_elder' O36.out (Kd.R_base ho39) hb); have n3 := ofA (Kd.R_elder' O33.out (Kd.R_base ho39) hb)
              have n4 := ofA (Kd.R_lower (Kd.R_new' (Kd.R_new' (Kd.R_new' ho39 (Kd.R_lt O14.out)) (Kd.R_lt O36.out)) (Kd.R_lt O33.out)) (below_size HB.out))
              have n9 := ofA (below_step HB.out hb); replace BK153 := ofA (blk_below BK153.out hb); replace BK154 := ofA (blk_below BK154.out hb); replace BK161 := ofA (blk_below BK161.out hb); replace BK163 := ofA (blk_below BK163.out hb); clear O13 O14 O36 O33 HB; have O13 := n0; have O14 := n1; have O36 := n2; have O33 := n3; have O28 := n4; have HB := n9; clear n0 n1 n2 n3 n4 n9 hb ho39
              refine hK.out _ _ (ofM BK161.out BK163.out) (fun hHeld => ?_)
              clear hK K
              refine norm_ (a' := ?_) ?_ ?_
              rotate_left
              · show Act.put _ (some 37) _ = _
                simp only [Act.put, List.setIfInBounds_toArray, List.set_cons_zero, List.set_cons_succ, i64_w, i32_w]
                rfl
              exact norm_ (by rfl) (J12 (v165, v177, v183) _ ⟨hHeld, (Kd.R_mono O36.out (fun _ hk => ⟨hk.1.1, ⟨hk.2, hk.1.2⟩⟩)), (Kd.R_mono O33.out (fun _ hk => ⟨hk.1.1, ⟨hk.2, hk.1.2⟩⟩)), (Kd.R_mono O28.out (fun _ hk => ⟨hk.1.2, ⟨hk.2, hk.1.1.2⟩⟩)), (Kd.S_mono O13.out (fun _ hk => ⟨hk.1.1, ⟨hk.1.2.1, ⟨hk.2, hk.1.2.2⟩⟩⟩)), (Kd.R_mono O14.out (fun _ hk => ⟨hk.1.1, ⟨hk.1.2, hk.2⟩⟩)), BK153.out, BK154.out, BK161.out, BK163.out, HB.out⟩)
          intro J21
          refine join_ (σ := Value × Value) 11 ofL23 (fun s_ => [(25, s_.1), (37, s_.2)]) (fun s_ w' => (ofH w' gb161 Ao30 x162000_1 co30 Ao10 y158 co10 gb163 A162_0 l0_0 x4_1 c162_0 A162_1 c162_1 A162_2 c162_2 A162_3 c162_3) ∧ (Kd.R Kd.string 9 w' w.heap.size (fun k_ => Nb k_ s_.2 ∧ Nb k_ (.slice Ao10 y158.length co10)) s_.1 y164) ∧ (Kd.R Kd.string 9 w' w.heap.size (fun k_ => Nb k_ s_.1 ∧ Nb k_ (.slice Ao10 y158.length co10)) s_.2 y182) ∧ (Kd.S k43 43 w' w.heap.size (fun k_ => Nb k_ s_.1 ∧ Nb k_ s_.2 ∧ Nb k_ (.slice Ao10 y158.length co10)) (.slice Ao30 x162000_1.length co30) x162000_1) ∧ (Kd.R Kd.string 9 w' w.heap.size (fun k_ => Nb k_ s_.1 ∧ Nb k_ s_.2) (.slice Ao10 y158.length co10) y158) ∧ ofT w w' gb153 ad162 l0_0 c0_0 A0_1 l0_1 c0_1 gb154 gb161 Ao30 x162000_1 co30 Ao10 y158 co10 gb163 A162_0 x4_1 c162_0 A162_1 c162_1 A162_2 c162_2 A162_3 c162_3) ?_ ?_
          · skip
            rintro ⟨v165, v183⟩ w37 ⟨hS_, h0_, h1_, h2_, h3_, h4_, h5_, h6_, h7_, h8_⟩
            try dsimp only at h0_ h1_ h2_ h3_ h4_ h5_ h6_ h7_ h8_
            have n0 := ofA h0_; have n1 := ofA h1_; have n2 := ofA h2_; have n3 := ofA h3_; have n4 := ofA h4_; have n5 := ofA h5_; have n6 := ofA h6_; have n7 := ofA h7_; have n8 := ofA h8_; clear O13 O14 BK153 BK154 BK161 BK163 HB h0_ h1_ h2_ h3_ h4_ h5_ h6_ h7_ h8_; have O36 := n0; have O28 := n1; have O13 := n2; have O14 := n3; have BK153 := n4; have BK154 := n5; have BK161 := n6; have BK163 := n7; have HB := n8; clear n0 n1 n2 n3 n4 n5 n6 n7 n8
            have hHeld := hS_
            refine norm_ (a' := ?_) ?_ ?_
            rotate_left
            · simp only [putAll, Act.put, List.setIfInBounds_toArray, List.set_cons_zero, List.set_cons_succ]
              rfl
            refine three_ (i := 5) (j := 6) (k := 10) (Ni := some 28) (Nj := some 29) (Nk := some 33) ofL31 ofL27 ofL25 rfl rfl rfl rfl rfl rfl (three_of HT_.out (by kernel_rfl)) (by decide) (by decide) (by decide) (fun K hK => ?_) (fun K hK => ?_) (fun K hK => ?_)
            · skip
              refine Kd.R_append_rows_step Kd.string (w0 := w) w.heap.size (by rfl) (.tmp 25) (.tmp 27) 23 9 (.string ⟨#[]⟩) 16 rfl Tryz.underlying23 info9 rfl (by decide) (by omega) v165 y164 ((rd_T38 l0_0 x4_1).f0) _ _ _ (fun k_ => Nb k_ (.slice Ao10 y158.length co10) ∧ Nb k_ v183) (fun _ => False) rfl rfl ?aO ?aR (fun _ _ h => h) (fun _ h => h.elim) ?aF ?aB ?aS ?aL ?_
              (case aR => repeat (first | exact (Kd.C_below HR162_0.out HB.out) | (with_reducible refine Kd.C_alloc ?_ _) | (with_reducible refine Kd.C_drewN ?_ _) | (with_reducible refine Kd.C_drew ?_)))
              (case aB => exact HB.out)
              (case aF => exact (fun k_ hk => ⟨Kd.fresh' (Kd.R_lt O14.out) k_ hk, Kd.fresh' (Kd.R_lt O28.out) k_ hk⟩))
              (case aO => exact (Kd.R_mono O36.out (fun _ hk => ⟨hk.2, hk.1⟩)))
              (case aS => exact (below_size HB.out))
              (case aL => have := LMc17.out; omega)
              intro v168 w38 ho hb hg hat
              rw [← Ny167.out] at ho
              have n0 := ofA (Kd.S_after (ok := (fun k_ => Nb k_ (.slice Ao10 y158.length co10) ∧ Nb k_ v183)) (Kd.S_mono O13.out (fun _ hk => ⟨⟨hk.2.2, hk.2.1⟩, hk.1⟩)) hg hat)
              have n1 := ofA (Kd.R_after (ok := (fun k_ => Nb k_ v183)) (Kd.R_mono O14.out (fun _ hk => ⟨hk.2, hk.1⟩)) hg hat)
              have n6 := ofA (Kd.R_after (ok := (fun k_ => Nb k_ (.slice Ao10 y158.length co10))) (Kd.R_mono O28.out (fun _ hk => ⟨hk.2, hk.1⟩)) hg hat)
              have n7 := ofA (hb); have n8 := ofA (ho); replace BK153 := ofA (blk_grown BK153.out hg (Kd.R_ne O36.out BK153.out (by decide))); replace BK154 := ofA (blk_grown BK154.out hg (Kd.R_ne O36.out BK154.out (by decide))); replace BK161 := ofA (blk_grown BK161.out hg (Kd.R_ne O36.out BK161.out (by decide))); replace BK163 := ofA (blk_grown BK163.out hg (Kd.R_ne O36.out BK163.out (by decide))); clear O13 O14 O28 HB O36; have O13 := n0; have O14 := n1; have O28 := n6; have HB := n7; have O32 := n8; clear n0 n1 n6 n7 n8 ho hb hg hat
              refine hK.out _ _ (ofM BK161.out BK163.out) (fun hHeld => ?_)
              clear hK K
              refine norm_ (a' := ?_) ?_ ?_
              rotate_left
              · show Act.put _ (some 28) _ = _
                simp only [Act.put, List.setIfInBounds_toArray, List.set_cons_zero, List.set_cons_succ, i64_w, i32_w]
                rfl
              exact norm_ (by rfl) (J15 (v165, v168, v183) _ ⟨hHeld, (Kd.R_mono O32.out (fun _ hk => ⟨hk.2, hk.1⟩)), (Kd.R_mono O28.out (fun _ hk => ⟨hk.2, hk.1⟩)), (Kd.S_mono O13.out (fun _ hk => ⟨hk.2, ⟨hk.1.2, hk.1.1⟩⟩)), (Kd.R_mono O14.out (fun _ hk => ⟨hk.2, hk.1⟩)), BK153.out, BK154.out, BK161.out, BK163.out, HB.out⟩)
            · skip
              refine Kd.R_lit_step Kd.string _ 9 ?hg (N := 29) ?hd (xs := ([] : List ByteArray)) (inner := []) (ok := fun _ => True) (okp := fun _ => True) ?hr ?hp (fun _ hk => hk) trivial (Below.refl _ _) (Nat.le_refl _) (by simp) ?_; (case hd => rfl); (case hg => rfl); (case hr => first | (go_simp; done) | (go_simp; rfl)); (case hp => exact (Reps.none _ _))
              intro v171 w38 ho39 hb hg_ hnew_; clear hg_ hnew_
              (first | rw [← Ny170.out] at ho39 | (simp only [Int.reduceToNat] at ho39; rw [← Ny170.out] at ho39))
              have n0 := ofA (Kd.S_elder' O13.out (Kd.R_base ho39) hb); have n1 := ofA (Kd.R_elder' O14.out (Kd.R_base ho39) hb); have n2 := ofA (Kd.R_elder' O36.out (Kd.R_base ho39) hb); have n3 := ofA (Kd.R_elder' O28.out (Kd.R_base ho39) hb)
              have n4 := ofA (Kd.R_lower (Kd.R_new' (Kd.R_new' (Kd.R_new' ho39 (Kd.R_lt O14.out)) (Kd.R_lt O36.out)) (Kd.R_lt O28.out)) (below_size HB.out))
              have n9 := ofA (below_step HB.out hb); replace BK153 := ofA (blk_below BK153.out hb); replace BK154 := ofA (blk_below BK154.out hb); replace BK161 := ofA (blk_below BK161.out hb); replace BK163 := ofA (blk_below BK163.out hb); clear O13 O14 O36 O28 HB; have O13 := n0; have O14 := n1; have O36 := n2; have O28 := n3; have O29 := n4; have HB := n9; clear n0 n1 n2 n3 n4 n9 hb ho39
              refine hK.out _ _ (ofM BK161.out BK163.out) (fun hHeld => ?_)
              clear hK K
              refine norm_ (a' := ?_) ?_ ?_
              rotate_left
              · show Act.put _ (some 29) _ = _
                simp only [Act.put, List.setIfInBounds_toArray, List.set_cons_zero, List.set_cons_succ, i64_w, i32_w]
                rfl
              exact norm_ (by rfl) (J17 (v165, v171, v183) _ ⟨hHeld, (Kd.R_mono O36.out (fun _ hk => ⟨hk.2, ⟨hk.1.1, hk.1.2⟩⟩)), (Kd.R_mono O29.out (fun _ hk => ⟨hk.1.2, ⟨hk.2, hk.1.1.2⟩⟩)), (Kd.R_mono O28.out (fun _ hk => ⟨hk.1.1, ⟨hk.2, hk.1.2⟩⟩)), (Kd.S_mono O13.out (fun _ hk => ⟨hk.1.1, ⟨hk.2, ⟨hk.1.2.1, hk.1.2.2⟩⟩⟩)), (Kd.R_mono O14.out (fun _ hk => ⟨hk.1.1, ⟨hk.2, hk.1.2⟩⟩)), BK153.out, BK154.out, BK161.out, BK163.out, HB.out⟩)
            · skip
              refine Kd.R_lit_step Kd.string _ 9 ?hg (N := 33) ?hd (xs := ([] : List ByteArray)) (inner := []) (ok := fun _ => True) (okp := fun _ => True) ?hr ?hp (fun _ hk => hk) trivial (Below.refl _ _) (Nat.le_refl _) (by simp) ?_; (case hd => rfl); (case hg => rfl); (case hr => first | (go_simp; done) | (go_simp; rfl)); (case hp => exact (Reps.none _ _))
              intro v177 w38 ho39 hb hg_ hnew_; clear hg_ hnew_
              (first | rw [← Ny176.out] at ho39 | (simp only [Int.reduceToNat] at ho39; rw [← Ny176.out] at ho39))
              have n0 := ofA (Kd.S_elder' O13.out (Kd.R_base ho39) hb); have n1 := ofA (Kd.R_elder' O14.out (Kd.R_base ho39) hb); have n2 := ofA (Kd.R_elder' O36.out (Kd.R_base ho39) hb); have n3 := ofA (Kd.R_elder' O28.out (Kd.R_base ho39) hb)
              have n4 := ofA (Kd.R_lower (Kd.R_new' (Kd.R_new' (Kd.R_new' ho39 (Kd.R_lt O14.out)) (Kd.R_lt O36.out)) (Kd.R_lt O28.out)) (below_size HB.out))
              have n9 := ofA (below_step HB.out hb); replace BK153 := ofA (blk_below BK153.out hb); replace BK154 := ofA (blk_below BK154.out hb); replace BK161 := ofA (blk_below BK161.out hb); replace BK163 := ofA (blk_below BK163.out hb); clear O13 O14 O36 O28 HB; have O13 := n0; have O14 := n1; have O36 := n2; have O28 := n3; have O33 := n4; have HB := n9; clear n0 n1 n2 n3 n4 n9 hb ho39
              refine hK.out _ _ (ofM BK161.out BK163.out) (fun hHeld => ?_)
              clear hK K
              refine norm_ (a' := ?_) ?_ ?_
              rotate_left
              · show Act.put _ (some 33) _ = _
                simp only [Act.put, List.setIfInBounds_toArray, List.set_cons_zero, List.set_cons_succ, i64_w, i32_w]
                rfl
              exact norm_ (by rfl) (J12 (v165, v177, v183) _ ⟨hHeld, (Kd.R_mono O36.out (fun _ hk => ⟨hk.2, ⟨hk.1.1, hk.1.2⟩⟩)), (Kd.R_mono O33.out (fun _ hk => ⟨hk.1.2, ⟨hk.2, hk.1.1.2⟩⟩)), (Kd.R_mono O28.out (fun _ hk => ⟨hk.1.1, ⟨hk.2, hk.1.2⟩⟩)), (Kd.S_mono O13.out (fun _ hk => ⟨hk.1.1, ⟨hk.2, ⟨hk.1.2.1, hk.1.2.2⟩⟩⟩)), (Kd.R_mono O14.out (fun _ hk => ⟨hk.1.1, ⟨hk.2, hk.1.2⟩⟩)), BK153.out, BK154.out, BK161.out, BK163.out, HB.out⟩)
          intro J22
          refine join_ (σ := Value × Value) 11 ofL20 (fun s_ => [(29, s_.1), (33, s_.2)]) (fun s_ w' => (ofH w' gb161 Ao30 x162000_1 co30 Ao10 y158 co10 gb163 A162_0 l0_0 x4_1 c162_0 A162_1 c162_1 A162_2 c162_2 A162_3 c162_3) ∧ (Kd.R Kd.string 9 w' w.heap.size (fun k_ => Nb k_ s_.2 ∧ Nb k_ (.slice Ao10 y158.length co10)) s_.1 y170) ∧ (Kd.R Kd.string 9 w' w.heap.size (fun k_ => Nb k_ s_.1 ∧ Nb k_ (.slice Ao10 y158.length co10)) s_.2 y176) ∧ (Kd.S k43 43 w' w.heap.size (fun k_ => Nb k_ s_.1 ∧ Nb k_ s_.2 ∧ Nb k_ (.slice Ao10 y158.length co10)) (.slice Ao30 x162000_1.length co30) x162000_1) ∧ (Kd.R Kd.string 9 w' w.heap.size (fun k_ => Nb k_ s_.1 ∧ Nb k_ s_.2) (.slice Ao10 y158.length co10) y158) ∧ ofT w w' gb153 ad162 l0_0 c0_0 A0_1 l0_1 c0_1 gb154 gb161 Ao30 x162000_1 co30 Ao10 y158 co10 gb163 A162_0 x4_1 c162_0 A162_1 c162_1 A162_2 c162_2 A162_3 c162_3) ?_ ?_
          · skip
            rintro ⟨v171, v177⟩ w37 ⟨hS_, h0_, h1_, h2_, h3_, h4_, h5_, h6_, h7_, h8_⟩
            try dsimp only at h0_ h1_ h2_ h3_ h4_ h5_ h6_ h7_ h8_
            have n0 := ofA h0_; have n1 := ofA h1_; have n2 := ofA h2_; have n3 := ofA h3_; have n4 := ofA h4_; have n5 := ofA h5_; have n6 := ofA h6_; have n7 := ofA h7_; have n8 := ofA h8_; clear O13 O14 BK153 BK154 BK161 BK163 HB h0_ h1_ h2_ h3_ h4_ h5_ h6_ h7_ h8_; have O29 := n0; have O33 := n1; have O13 := n2; have O14 := n3; have BK153 := n4; have BK154 := n5; have BK161 := n6; have BK163 := n7; have HB := n8; clear n0 n1 n2 n3 n4 n5 n6 n7 n8
            have hHeld := hS_
            refine norm_ (a' := ?_) ?_ ?_
            rotate_left
            · simp only [putAll, Act.put, List.setIfInBounds_toArray, List.set_cons_zero, List.set_cons_succ]
              rfl
            refine two_ (i := 2) (j := 14) (Ni := some 25) (Nj := some 37) ofL28 ofL21 rfl rfl rfl rfl (two_of HT_.out (by kernel_rfl)) (by decide) (by decide) (fun K hK => ?_) (fun K hK => ?_)
            · skip
              refine Kd.R_lit_step Kd.string _ 9 ?hg (N := 25) ?hd (xs := ([] : List ByteArray)) (inner := []) (ok := fun _ => True) (okp := fun _ => True) ?hr ?hp (fun _ hk => hk) trivial (Below.refl _ _) (Nat.le_refl _) (by simp) ?_; (case hd => rfl); (case hg => rfl); (case hr => first | (go_simp; done) | (go_simp; rfl)); (case hp => exact (Reps.none _ _))
              intro v165 w38 ho39 hb hg_ hnew_; clear hg_ hnew_
              (first | rw [← Ny164.out] at ho39 | (simp only [Int.reduceToNat] at ho39; rw [← Ny164.out] at ho39))
              have n0 := ofA (Kd.S_elder' O13.out (Kd.R_base ho39) hb); have n1 := ofA (Kd.R_elder' O14.out (Kd.R_base ho39) hb); have n2 := ofA (Kd.R_elder' O29.out (Kd.R_base ho39) hb); have n3 := ofA (Kd.R_elder' O33.out (Kd.R_base ho39) hb)
              have n4 := ofA (Kd.R_lower (Kd.R_new' (Kd.R_new' (Kd.R_new' ho39 (Kd.R_lt O14.out)) (Kd.R_lt O29.out)) (Kd.R_lt O33.out)) (below_size HB.out))
              have n9 := ofA (below_step HB.out hb); replace BK153 := ofA (blk_below BK153.out hb); replace BK154 := ofA (blk_below BK154.out hb); replace BK161 := ofA (blk_below BK161.out hb); replace BK163 := ofA (blk_below BK163.out hb); clear O13 O14 O29 O33 HB; have O13 := n0; have O14 := n1; have O29 := n2; have O33 := n3; have O36 := n4; have HB := n9; clear n0 n1 n2 n3 n4 n9 hb ho39
              refine hK.out _ _ (ofM BK161.out BK163.out) (fun hHeld => ?_)
              clear hK K
              refine norm_ (a' := ?_) ?_ ?_
              rotate_left
              · show Act.put _ (some 25) _ = _
                simp only [Act.put, List.setIfInBounds_toArray, List.set_cons_zero, List.set_cons_succ, i64_w, i32_w]
                rfl
              exact norm_ (by rfl) (J18 (v165, v171, v177) _ ⟨hHeld, (Kd.R_mono O36.out (fun _ hk => ⟨hk.1.2, ⟨hk.2, hk.1.1.2⟩⟩)), (Kd.R_mono O29.out (fun _ hk => ⟨hk.2, ⟨hk.1.1, hk.1.2⟩⟩)), (Kd.R_mono O33.out (fun _ hk => ⟨hk.2, ⟨hk.1.1, hk.1.2⟩⟩)), (Kd.S_mono O13.out (fun _ hk => ⟨hk.2, ⟨hk.1.1, ⟨hk.1.2.1, hk.1.2.2⟩⟩⟩)), (Kd.R_mono O14.out (fun _ hk => ⟨hk.2, ⟨hk.1.1, hk.1.2⟩⟩)), BK153.out, BK154.out, BK161.out, BK163.out, HB.out⟩)
            · skip
              refine Kd.R_lit_step Kd.string _ 9 ?hg (N := 37) ?hd (xs := ([] : List ByteArray)) (inner := []) (ok := fun _ => True) (okp := fun _ => True) ?hr ?hp (fun _ hk => hk) trivial (Below.refl _ _) (Nat.le_refl _) (by simp) ?_; (case hd => rfl); (case hg => rfl); (case hr => first | (go_simp; done) | (go_simp; rfl)); (case hp => exact (Reps.none _ _))
              intro v183 w38 ho39 hb hg_ hnew_; clear hg_ hnew_
              (first | rw [← Ny182.out] at ho39 | (simp only [Int.reduceToNat] at ho39; rw [← Ny182.out] at ho39))
              have n0 := ofA (Kd.S_elder' O13.out (Kd.R_base ho39) hb); have n1 := ofA (Kd.R_elder' O14.out (Kd.R_base ho39) hb); have n2 := ofA (Kd.R_elder' O29.out (Kd.R_base ho39) hb); have n3 := ofA (Kd.R_elder' O33.out (Kd.R_base ho39) hb)
              have n4 := ofA (Kd.R_lower (Kd.R_new' (Kd.R_new' (Kd.R_new' ho39 (Kd.R_lt O14.out)) (Kd.R_lt O29.out)) (Kd.R_lt O33.out)) (below_size HB.out))
              have n9 := ofA (below_step HB.out hb); replace BK153 := ofA (blk_below BK153.out hb); replace BK154 := ofA (blk_below BK154.out hb); replace BK161 := ofA (blk_below BK161.out hb); replace BK163 := ofA (blk_below BK163.out hb); clear O13 O14 O29 O33 HB; have O13 := n0; have O14 := n1; have O29 := n2; have O33 := n3; have O28 := n4; have HB := n9; clear n0 n1 n2 n3 n4 n9 hb ho39
              refine hK.out _ _ (ofM BK161.out BK163.out) (fun hHeld => ?_)
              clear hK K
              refine norm_ (a' := ?_) ?_ ?_
              rotate_left
              · show Act.put _ (some 37) _ = _
                simp only [Act.put, List.setIfInBounds_toArray, List.set_cons_zero, List.set_cons_succ, i64_w, i32_w]
                rfl
              exact norm_ (by rfl) (J10 (v171, v177, v183) _ ⟨hHeld, (Kd.R_mono O29.out (fun _ hk => ⟨hk.1.1, ⟨hk.2, hk.1.2⟩⟩)), (Kd.R_mono O33.out (fun _ hk => ⟨hk.1.1, ⟨hk.2, hk.1.2⟩⟩)), (Kd.R_mono O28.out (fun _ hk => ⟨hk.1.2, ⟨hk.2, hk.1.1.2⟩⟩)), (Kd.S_mono O13.out (fun _ hk => ⟨hk.1.1, ⟨hk.1.2.1, ⟨hk.2, hk.1.2.2⟩⟩⟩)), (Kd.R_mono O14.out (fun _ hk => ⟨hk.1.1, ⟨hk.1.2, hk.2⟩⟩)), BK153.out, BK154.out, BK161.out, BK163.out, HB.out⟩)
          intro J23
          refine join_ (σ := Value × Value) 11 ofL19 (fun s_ => [(29, s_.1), (37, s_.2)]) (fun s_ w' => (ofH w' gb161 Ao30 x162000_1 co30 Ao10 y158 co10 gb163 A162_0 l0_0 x4_1 c162_0 A162_1 c162_1 A162_2 c162_2 A162_3 c162_3) ∧ (Kd.R Kd.string 9 w' w.heap.size (fun k_ => Nb k_ s_.2 ∧ Nb k_ (.slice Ao10 y158.length co10)) s_.1 y170) ∧ (Kd.R Kd.string 9 w' w.heap.size (fun k_ => Nb k_ s_.1 ∧ Nb k_ (.slice Ao10 y158.length co10)) s_.2 y182) ∧ (Kd.S k43 43 w' w.heap.size (fun k_ => Nb k_ s_.1 ∧ Nb k_ s_.2 ∧ Nb k_ (.slice Ao10 y158.length co10)) (.slice Ao30 x162000_1.length co30) x162000_1) ∧ (Kd.R Kd.string 9 w' w.heap.size (fun k_ => Nb k_ s_.1 ∧ Nb k_ s_.2) (.slice Ao10 y158.length co10) y158) ∧ ofT w w' gb153 ad162 l0_0 c0_0 A0_1 l0_1 c0_1 gb154 gb161 Ao30 x162000_1 co30 Ao10 y158 co10 gb163 A162_0 x4_1 c162_0 A162_1 c162_1 A162_2 c162_2 A162_3 c162_3) ?_ ?_
          · skip
            rintro ⟨v171, v183⟩ w37 ⟨hS_, h0_, h1_, h2_, h3_, h4_, h5_, h6_, h7_, h8_⟩
            try dsimp only at h0_ h1_ h2_ h3_ h4_ h5_ h6_ h7_ h8_
            have n0 := ofA h0_; have n1 := ofA h1_; have n2 := ofA h2_; have n3 := ofA h3_; have n4 := ofA h4_; have n5 := ofA h5_; have n6 := ofA h6_; have n7 := ofA h7_; have n8 := ofA h8_; clear O13 O14 BK153 BK154 BK161 BK163 HB h0_ h1_ h2_ h3_ h4_ h5_ h6_ h7_ h8_; have O29 := n0; have O28 := n1; have O13 := n2; have O14 := n3; have BK153 := n4; have BK154 := n5; have BK161 := n6; have BK163 := n7; have HB := n8; clear n0 n1 n2 n3 n4 n5 n6 n7 n8
            have hHeld := hS_
            refine norm_ (a' := ?_) ?_ ?_
            rotate_left
            · simp only [putAll, Act.put, List.setIfInBounds_toArray, List.set_cons_zero, List.set_cons_succ]
              rfl
            refine two_ (i := 2) (j := 10) (Ni := some 25) (Nj := some 33) ofL27 ofL21 rfl rfl rfl rfl (two_of HT_.out (by kernel_rfl)) (by decide) (by decide) (fun K hK => ?_) (fun K hK => ?_)
            · skip
              refine Kd.R_lit_step Kd.string _ 9 ?hg (N := 25) ?hd (xs := ([] : List ByteArray)) (inner := []) (ok := fun _ => True) (okp := fun _ => True) ?hr ?hp (fun _ hk => hk) trivial (Below.refl _ _) (Nat.le_refl _) (by simp) ?_; (case hd => rfl); (case hg => rfl); (case hr => first | (go_simp; done) | (go_simp; rfl)); (case hp => exact (Reps.none _ _))
              intro v165 w38 ho39 hb hg_ hnew_; clear hg_ hnew_
              (first | rw [← Ny164.out] at ho39 | (simp only [Int.reduceToNat] at ho39; rw [← Ny164.out] at ho39))
              have n0 := ofA (Kd.S_elder' O13.out (Kd.R_base ho39) hb); have n1 := ofA (Kd.R_elder' O14.out (Kd.R_base ho39) hb); have n2 := ofA (Kd.R_elder' O29.out (Kd.R_base ho39) hb); have n3 := ofA (Kd.R_elder' O28.out (Kd.R_base ho39) hb)
              have n4 := ofA (Kd.R_lower (Kd.R_new' (Kd.R_new' (Kd.R_new' ho39 (Kd.R_lt O14.out)) (Kd.R_lt O29.out)) (Kd.R_lt O28.out)) (below_size HB.out))
              have n9 := ofA (below_step HB.out hb); replace BK153 := ofA (blk_below BK153.out hb); replace BK154 := ofA (blk_below BK154.out hb); replace BK161 := ofA (blk_below BK161.out hb); replace BK163 := ofA (blk_below BK163.out hb); clear O13 O14 O29 O28 HB; have O13 := n0; have O14 := n1; have O29 := n2; have O28 := n3; have O36 := n4; have HB := n9; clear n0 n1 n2 n3 n4 n9 hb ho39
              refine hK.out _ _ (ofM BK161.out BK163.out) (fun hHeld => ?_)
              clear hK K
              refine norm_ (a' := ?_) ?_ ?_
              rotate_left
              · show Act.put _ (some 25) _ = _
                simp only [Act.put, List.setIfInBounds_toArray, List.set_cons_zero, List.set_cons_succ, i64_w, i32_w]
                rfl
              exact norm_ (by rfl) (J17 (v165, v171, v183) _ ⟨hHeld, (Kd.R_mono O36.out (fun _ hk => ⟨hk.1.2, ⟨hk.2, hk.1.1.2⟩⟩)), (Kd.R_mono O29.out (fun _ hk => ⟨hk.2, ⟨hk.1.1, hk.1.2⟩⟩)), (Kd.R_mono O28.out (fun _ hk => ⟨hk.2, ⟨hk.1.1, hk.1.2⟩⟩)), (Kd.S_mono O13.out (fun _ hk => ⟨hk.2, ⟨hk.1.1, ⟨hk.1.2.1, hk.1.2.2⟩⟩⟩)), (Kd.R_mono O14.out (fun _ hk => ⟨hk.2, ⟨hk.1.1, hk.1.2⟩⟩)), BK153.out, BK154.out, BK161.out, BK163.out, HB.out⟩)
            · skip
              refine Kd.R_lit_step Kd.string _ 9 ?hg (N := 33) ?hd (xs := ([] : List ByteArray)) (inner := []) (ok := fun _ => True) (okp := fun _ => True) ?hr ?hp (fun _ hk => hk) trivial (Below.refl _ _) (Nat.le_refl _) (by simp) ?_; (case hd => rfl); (case hg => rfl); (case hr => first | (go_simp; done) | (go_simp; rfl)); (case hp => exact (Reps.none _ _))
              intro v177 w38 ho39 hb hg_ hnew_; clear hg_ hnew_
              (first | rw [← Ny176.out] at ho39 | (simp only [Int.reduceToNat] at ho39; rw [← Ny176.out] at ho39))
              have n0 := ofA (Kd.S_elder' O13.out (Kd.R_base ho39) hb); have n1 := ofA (Kd.R_elder' O14.out (Kd.R_base ho39) hb); have n2 := ofA (Kd.R_elder' O29.out (Kd.R_base ho39) hb); have n3 := ofA (Kd.R_elder' O28.out (Kd.R_base ho39) hb)
              have n4 := ofA (Kd.R_lower (Kd.R_new' (Kd.R_new' (Kd.R_new' ho39 (Kd.R_lt O14.out)) (Kd.R_lt O29.out)) (Kd.R_lt O28.out)) (below_size HB.out))
              have n9 := ofA (below_step HB.out hb); replace BK153 := ofA (blk_below BK153.out hb); replace BK154 := ofA (blk_below BK154.out hb); replace BK161 := ofA (blk_below BK161.out hb); replace BK163 := ofA (blk_below BK163.out hb); clear O13 O14 O29 O28 HB; have O13 := n0; have O14 := n1; have O29 := n2; have O28 := n3; have O33 := n4; have HB := n9; clear n0 n1 n2 n3 n4 n9 hb ho39
              refine hK.out _ _ (ofM BK161.out BK163.out) (fun hHeld => ?_)
              clear hK K
              refine norm_ (a' := ?_) ?_ ?_
              rotate_left
              · show Act.put _ (some 33) _ = _
                simp only [Act.put, List.setIfInBounds_toArray, List.set_cons_zero, List.set_cons_succ, i64_w, i32_w]
                rfl
              exact norm_ (by rfl) (J10 (v171, v177, v183) _ ⟨hHeld, (Kd.R_mono O29.out (fun _ hk => ⟨hk.2, ⟨hk.1.1, hk.1.2⟩⟩)), (Kd.R_mono O33.out (fun _ hk => ⟨hk.1.2, ⟨hk.2, hk.1.1.2⟩⟩)), (Kd.R_mono O28.out (fun _ hk => ⟨hk.1.1, ⟨hk.2, hk.1.2⟩⟩)), (Kd.S_mono O13.out (fun _ hk => ⟨hk.1.1, ⟨hk.2, ⟨hk.1.2.1, hk.1.2.2⟩⟩⟩)), (Kd.R_mono O14.out (fun _ hk => ⟨hk.1.1, ⟨hk.2, hk.1.2⟩⟩)), BK153.out, BK154.out, BK161.out, BK163.out, HB.out⟩)
          intro J24
          refine join_ (σ := Value × Value) 11 ofL17 (fun s_ => [(33, s_.1), (37, s_.2)]) (fun s_ w' => (ofH w' gb161 Ao30 x162000_1 co30 Ao10 y158 co10 gb163 A162_0 l0_0 x4_1 c162_0 A162_1 c162_1 A162_2 c162_2 A162_3 c162_3) ∧ (Kd.R Kd.string 9 w' w.heap.size (fun k_ => Nb k_ s_.2 ∧ Nb k_ (.slice Ao10 y158.length co10)) s_.1 y176) ∧ (Kd.R Kd.string 9 w' w.heap.size (fun k_ => Nb k_ s_.1 ∧ Nb k_ (.slice Ao10 y158.length co10)) s_.2 y182) ∧ (Kd.S k43 43 w' w.heap.size (fun k_ => Nb k_ s_.1 ∧ Nb k_ s_.2 ∧ Nb k_ (.slice Ao10 y158.length co10)) (.slice Ao30 x162000_1.length co30) x162000_1) ∧ (Kd.R Kd.string 9 w' w.heap.size (fun k_ => Nb k_ s_.1 ∧ Nb k_ s_.2) (.slice Ao10 y158.length co10) y158) ∧ ofT w w' gb153 ad162 l0_0 c0_0 A0_1 l0_1 c0_1 gb154 gb161 Ao30 x162000_1 co30 Ao10 y158 co10 gb163 A162_0 x4_1 c162_0 A162_1 c162_1 A162_2 c162_2 A162_3 c162_3) ?_ ?_
          · skip
            rintro ⟨v177, v183⟩ w37 ⟨hS_, h0_, h1_, h2_, h3_, h4_, h5_, h6_, h7_, h8_⟩
            try dsimp only at h0_ h1_ h2_ h3_ h4_ h5_ h6_ h7_ h8_
            have n0 := ofA h0_; have n1 := ofA h1_; have n2 := ofA h2_; have n3 := ofA h3_; have n4 := ofA h4_; have n5 := ofA h5_; have n6 := ofA h6_; have n7 := ofA h7_; have n8 := ofA h8_; clear O13 O14 BK153 BK154 BK161 BK163 HB h0_ h1_ h2_ h3_ h4_ h5_ h6_ h7_ h8_; have O33 := n0; have O28 := n1; have O13 := n2; have O14 := n3; have BK153 := n4; have BK154 := n5; have BK161 := n6; have BK163 := n7; have HB := n8; clear n0 n1 n2 n3 n4 n5 n6 n7 n8
            have hHeld := hS_
            refine norm_ (a' := ?_) ?_ ?_
            rotate_left
            · simp only [putAll, Act.put, List.setIfInBounds_toArray, List.set_cons_zero, List.set_cons_succ]
              rfl
            refine two_ (i := 2) (j := 6) (Ni := some 25) (Nj := some 29) ofL25 ofL21 rfl rfl rfl rfl (two_of HT_.out (by kernel_rfl)) (by decide) (by decide) (fun K hK => ?_) (fun K hK => ?_)
            · skip
              refine Kd.R_lit_step Kd.string _ 9 ?hg (N := 25) ?hd (xs := ([] : List ByteArray)) (inner := []) (ok := fun _ => True) (okp := fun _ => True) ?hr ?hp (fun _ hk => hk) trivial (Below.refl _ _) (Nat.le_refl _) (by simp) ?_; (case hd => rfl); (case hg => rfl); (case hr => first | (go_simp; done) | (go_simp; rfl)); (case hp => exact (Reps.none _ _))
              intro v165 w38 ho39 hb hg_ hnew_; clear hg_ hnew_
              (first | rw [← Ny164.out] at ho39 | (simp only [Int.reduceToNat] at ho39; rw [← Ny164.out] at ho39))
              have n0 := ofA (Kd.S_elder' O13.out (Kd.R_base ho39) hb); have n1 := ofA (Kd.R_elder' O14.out (Kd.R_base ho39) hb); have n2 := ofA (Kd.R_elder' O33.out (Kd.R_base ho39) hb); have n3 := ofA (Kd.R_elder' O28.out (Kd.R_base ho39) hb)
              have n4 := ofA (Kd.R_lower (Kd.R_new' (Kd.R_new' (Kd.R_new' ho39 (Kd.R_lt O14.out)) (Kd.R_lt O33.out)) (Kd.R_lt O28.out)) (below_size HB.out))
              have n9 := ofA (below_step HB.out hb); replace BK153 := ofA (blk_below BK153.out hb); replace BK154 := ofA (blk_below BK154.out hb); replace BK161 := ofA (blk_below BK161.out hb); replace BK163 := ofA (blk_below BK163.out hb); clear O13 O14 O33 O28 HB; have O13 := n0; have O14 := n1; have O33 := n2; have O28 := n3; have O36 := n4; have HB := n9; clear n0 n1 n2 n3 n4 n9 hb ho39
              refine hK.out _ _ (ofM BK161.out BK163.out) (fun hHeld => ?_)
              clear hK K
              refine norm_ (a' := ?_) ?_ ?_
              rotate_left
              · show Act.put _ (some 25) _ = _
                simp only [Act.put, List.setIfInBounds_toArray, List.set_cons_zero, List.set_cons_succ, i64_w, i32_w]
                rfl
              exact norm_ (by rfl) (J12 (v165, v177, v183) _ ⟨hHeld, (Kd.R_mono O36.out (fun _ hk => ⟨hk.1.2, ⟨hk.2, hk.1.1.2⟩⟩)), (Kd.R_mono O33.out (fun _ hk => ⟨hk.2, ⟨hk.1.1, hk.1.2⟩⟩)), (Kd.R_mono O28.out (fun _ hk => ⟨hk.2, ⟨hk.1.1, hk.1.2⟩⟩)), (Kd.S_mono O13.out (fun _ hk => ⟨hk.2, ⟨hk.1.1, ⟨hk.1.2.1, hk.1.2.2⟩⟩⟩)), (Kd.R_mono O14.out (fun _ hk => ⟨hk.2, ⟨hk.1.1, hk.1.2⟩⟩)), BK153.out, BK154.out, BK161.out, BK163.out, HB.out⟩)
            · skip
              refine Kd.R_lit_step Kd.string _ 9 ?hg (N := 29) ?hd (xs := ([] : List ByteArray)) (inner := []) (ok := fun _ => True) (okp := fun _ => True) ?hr ?hp (fun _ hk => hk) trivial (Below.refl _ _) (Nat.le_refl _) (by simp) ?_; (case hd => rfl); (case hg => rfl); (case hr => first | (go_simp; done) | (go_simp; rfl)); (case hp => exact (Reps.none _ _))
              intro v171 w38 ho39 hb hg_ hnew_; clear hg_ hnew_
              (first | rw [← Ny170.out] at ho39 | (simp only [Int.reduceToNat] at ho39; rw [← Ny170.out] at ho39))
              have n0 := ofA (Kd.S_elder' O13.out (Kd.R_base ho39) hb); have n1 := ofA (Kd.R_elder' O14.out (Kd.R_base ho39) hb); have n2 := ofA (Kd.R_elder' O33.out (Kd.R_base ho39) hb); have n3 := ofA (Kd.R_elder' O28.out (Kd.R_base ho39) hb)
              have n4 := ofA (Kd.R_lower (Kd.R_new' (Kd.R_new' (Kd.R_new' ho39 (Kd.R_lt O14.out)) (Kd.R_lt O33.out)) (Kd.R_lt O28.out)) (below_size HB.out))
              have n9 := ofA (below_step HB.out hb); replace BK153 := ofA (blk_below BK153.out hb); replace BK154 := ofA (blk_below BK154.out hb); replace BK161 := ofA (blk_below BK161.out hb); replace BK163 := ofA (blk_below BK163.out hb); clear O13 O14 O33 O28 HB; have O13 := n0; have O14 := n1; have O33 := n2; have O28 := n3; have O29 := n4; have HB := n9; clear n0 n1 n2 n3 n4 n9 hb ho39
              refine hK.out _ _ (ofM BK161.out BK163.out) (fun hHeld => ?_)
              clear hK K
              refine norm_ (a' := ?_) ?_ ?_
              rotate_left
              · show Act.put _ (some 29) _ = _
                simp only [Act.put, List.setIfInBounds_toArray, List.set_cons_zero, List.set_cons_succ, i64_w, i32_w]
                rfl
              exact norm_ (by rfl) (J10 (v171, v177, v183) _ ⟨hHeld, (Kd.R_mono O29.out (fun _ hk => ⟨hk.1.2, ⟨hk.2, hk.1.1.2⟩⟩)), (Kd.R_mono O33.out (fun _ hk => ⟨hk.2, ⟨hk.1.1, hk.1.2⟩⟩)), (Kd.R_mono O28.out (fun _ hk => ⟨hk.2, ⟨hk.1.1, hk.1.2⟩⟩)), (Kd.S_mono O13.out (fun _ hk => ⟨hk.2, ⟨hk.1.1, ⟨hk.1.2.1, hk.1.2.2⟩⟩⟩)), (Kd.R_mono O14.out (fun _ hk => ⟨hk.2, ⟨hk.1.1, hk.1.2⟩⟩)), BK153.out, BK154.out, BK161.out, BK163.out, HB.out⟩)
          intro J19
          refine join_ (σ := Value) 12 ofL22 (fun s_ => [(25, s_)]) (fun s_ w' => (ofH w' gb161 Ao30 x162000_1 co30 Ao10 y158 co10 gb163 A162_0 l0_0 x4_1 c162_0 A162_1 c162_1 A162_2 c162_2 A162_3 c162_3) ∧ (Kd.R Kd.string 9 w' w.heap.size (fun k_ => Nb k_ (.slice Ao10 y158.length co10)) s_ y164) ∧ (Kd.S k43 43 w' w.heap.size (fun k_ => Nb k_ s_ ∧ Nb k_ (.slice Ao10 y158.length co10)) (.slice Ao30 x162000_1.length co30) x162000_1) ∧ (Kd.R Kd.string 9 w' w.heap.size (fun k_ => Nb k_ s_) (.slice Ao10 y158.length co10) y158) ∧ ofT w w' gb153 ad162 l0_0 c0_0 A0_1 l0_1 c0_1 gb154 gb161 Ao30 x162000_1 co30 Ao10 y158 co10 gb163 A162_0 x4_1 c162_0 A162_1 c162_1 A162_2 c162_2 A162_3 c162_3) ?_ ?_
          · skip
            rintro v165 w35 ⟨hS_, h0_, h1_, h2_, h3_, h4_, h5_, h6_, h7_⟩
            try dsimp only at h0_ h1_ h2_ h3_ h4_ h5_ h6_ h7_
            have n0 := ofA h0_; have n1 := ofA h1_; have n2 := ofA h2_; have n3 := ofA h3_; have n4 := ofA h4_; have n5 := ofA h5_; have n6 := ofA h6_; have n7 := ofA h7_; clear O13 O14 BK153 BK154 BK161 BK163 HB h0_ h1_ h2_ h3_ h4_ h5_ h6_ h7_; have O36 := n0; have O13 := n1; have O14 := n2; have BK153 := n3; have BK154 := n4; have BK161 := n5; have BK163 := n6; have HB := n7; clear n0 n1 n2 n3 n4 n5 n6 n7
            have hHeld := hS_
            refine norm_ (a' := ?_) ?_ ?_
            rotate_left
            · simp only [putAll, Act.put, List.setIfInBounds_toArray, List.set_cons_zero, List.set_cons_succ]
              rfl
            refine four_ (i := 5) (j := 6) (k := 10) (m := 14) (Ni := some 28) (Nj := some 29) (Nk := some 33) (Nm := some 37) ofL30 ofL26 ofL24 ofL23 rfl rfl rfl rfl rfl rfl rfl rfl (four_of HT_.out (by kernel_rfl)) (by decide) (by decide) (by decide) (by decide) (fun K hK => ?_) (fun K hK => ?_) (fun K hK => ?_) (fun K hK => ?_)
            · skip
              refine Kd.R_append_rows_step Kd.string (w0 := w) w.heap.size (by rfl) (.tmp 25) (.tmp 27) 23 9 (.string ⟨#[]⟩) 16 rfl Tryz.underlying23 info9 rfl (by decide) (by omega) v165 y164 ((rd_T38 l0_0 x4_1).f0) _ _ _ (fun k_ => Nb k_ (.slice Ao10 y158.length co10)) (fun _ => False) rfl rfl ?aO ?aR (fun _ _ h => h) (fun _ h => h.elim) ?aF ?aB ?aS ?aL ?_
              (case aR => repeat (first | exact (Kd.C_below HR162_0.out HB.out) | (with_reducible refine Kd.C_alloc ?_ _) | (with_reducible refine Kd.C_drewN ?_ _) | (with_reducible refine Kd.C_drew ?_)))
              (case aB => exact HB.out)
              (case aF => exact (fun k_ hk => Kd.fresh' (Kd.R_lt O14.out) k_ hk))
              (case aO => exact O36.out)
              (case aS => exact (below_size HB.out))
              (case aL => have := LMc17.out; omega)
              intro v168 w36 ho hb hg hat
              rw [← Ny167.out] at ho
              have n0 := ofA (Kd.S_after (ok := (fun k_ => Nb k_ (.slice Ao10 y158.length co10))) (Kd.S_mono O13.out (fun _ hk => ⟨hk.2, hk.1⟩)) hg hat)
              have n1 := ofA (Kd.R_after (ok := (fun _ => True)) (Kd.R_mono O14.out (fun _ hk => ⟨trivial, hk⟩)) hg hat); have n6 := ofA (hb); have n7 := ofA (ho); replace BK153 := ofA (blk_grown BK153.out hg (Kd.R_ne O36.out BK153.out (by decide))); replace BK154 := ofA (blk_grown BK154.out hg (Kd.R_ne O36.out BK154.out (by decide))); replace BK161 := ofA (blk_grown BK161.out hg (Kd.R_ne O36.out BK161.out (by decide))); replace BK163 := ofA (blk_grown BK163.out hg (Kd.R_ne O36.out BK163.out (by decide))); clear O13 O14 HB O36; have O13 := n0; have O14 := n1; have HB := n6; have O32 := n7; clear n0 n1 n6 n7 ho hb hg hat
              refine hK.out _ _ (ofM BK161.out BK163.out) (fun hHeld => ?_)
              clear hK K
              refine norm_ (a' := ?_) ?_ ?_
              rotate_left
              · show Act.put _ (some 28) _ = _
                simp only [Act.put, List.setIfInBounds_toArray, List.set_cons_zero, List.set_cons_succ, i64_w, i32_w]
                rfl
              exact norm_ (by rfl) (J31 (v165, v168) _ ⟨hHeld, O32.out, (Kd.S_mono O13.out (fun _ hk => ⟨hk.2, hk.1⟩)), (Kd.R_mono O14.out (fun _ hk => hk.2)), BK153.out, BK154.out, BK161.out, BK163.out, HB.out⟩)
            · skip
              refine Kd.R_lit_step Kd.string _ 9 ?hg (N := 29) ?hd (xs := ([] : List ByteArray)) (inner := []) (ok := fun _ => True) (okp := fun _ => True) ?hr ?hp (fun _ hk => hk) trivial (Below.refl _ _) (Nat.le_refl _) (by simp) ?_; (case hd => rfl); (case hg => rfl); (case hr => first | (go_simp; done) | (go_simp; rfl)); (case hp => exact (Reps.none _ _))
              intro v171 w36 ho37 hb hg_ hnew_; clear hg_ hnew_
              (first | rw [← Ny170.out] at ho37 | (simp only [Int.reduceToNat] at ho37; rw [← Ny170.out] at ho37))
              have n0 := ofA (Kd.S_elder' O13.out (Kd.R_base ho37) hb); have n1 := ofA (Kd.R_elder' O14.out (Kd.R_base ho37) hb); have n2 := ofA (Kd.R_elder' O36.out (Kd.R_base ho37) hb); have n3 := ofA (Kd.R_lower (Kd.R_new' (Kd.R_new' ho37 (Kd.R_lt O14.out)) (Kd.R_lt O36.out)) (below_size HB.out)); have n8 := ofA (below_step HB.out hb); replace BK153 := ofA (blk_below BK153.out hb); replace BK154 := ofA (blk_below BK154.out hb); replace BK161 := ofA (blk_below BK161.out hb); replace BK163 := ofA (blk_below BK163.out hb); clear O13 O14 O36 HB; have O13 := n0; have O14 := n1; have O36 := n2; have O29 := n3; have HB := n8; clear n0 n1 n2 n3 n8 hb ho37
              refine hK.out _ _ (ofM BK161.out BK163.out) (fun hHeld => ?_)
              clear hK K
              refine norm_ (a' := ?_) ?_ ?_
              rotate_left
              · show Act.put _ (some 29) _ = _
                simp only [Act.put, List.setIfInBounds_toArray, List.set_cons_zero, List.set_cons_succ, i64_w, i32_w]
                rfl
              exact norm_ (by rfl) (J37 (v165, v171) _ ⟨hHeld, (Kd.R_mono O36.out (fun _ hk => ⟨hk.2, hk.1⟩)), (Kd.R_mono O29.out (fun _ hk => ⟨hk.2, hk.1.2⟩)), (Kd.S_mono O13.out (fun _ hk => ⟨hk.1.1, ⟨hk.2, hk.1.2⟩⟩)), O14.out, BK153.out, BK154.out, BK161.out, BK163.out, HB.out⟩)
            · skip
              refine Kd.R_lit_step Kd.string _ 9 ?hg (N := 33) ?hd (xs := ([] : List ByteArray)) (inner := []) (ok := fun _ => True) (okp := fun _ => True) ?hr ?hp (fun _ hk => hk) trivial (Below.refl _ _) (Nat.le_refl _) (by simp) ?_; (case hd => rfl); (case hg => rfl); (case hr => first | (go_simp; done) | (go_simp; rfl)); (case hp => exact (Reps.none _ _))
              intro v177 w36 ho37 hb hg_ hnew_; clear hg_ hnew_
              (first | rw [← Ny176.out] at ho37 | (simp only [Int.reduceToNat] at ho37; rw [← Ny176.out] at ho37))
              have n0 := ofA (Kd.S_elder' O13.out (Kd.R_base ho37) hb); have n1 := ofA (Kd.R_elder' O14.out (Kd.R_base ho37) hb); have n2 := ofA (Kd.R_elder' O36.out (Kd.R_base ho37) hb); have n3 := ofA (Kd.R_lower (Kd.R_new' (Kd.R_new' ho37 (Kd.R_lt O14.out)) (Kd.R_lt O36.out)) (below_size HB.out)); have n8 := ofA (below_step HB.out hb); replace BK153 := ofA (blk_below BK153.out hb); replace BK154 := ofA (blk_below BK154.out hb); replace BK161 := ofA (blk_below BK161.out hb); replace BK163 := ofA (blk_below BK163.out hb); clear O13 O14 O36 HB; have O13 := n0; have O14 := n1; have O36 := n2; have O33 := n3; have HB := n8; clear n0 n1 n2 n3 n8 hb ho37
              refine hK.out _ _ (ofM BK161.out BK163.out) (fun hHeld => ?_)
              clear hK K
              refine norm_ (a' := ?_) ?_ ?_
              rotate_left
              · show Act.put _ (some 33) _ = _
                simp only [Act.put, List.setIfInBounds_toArray, List.set_cons_zero, List.set_cons_succ, i64_w, i32_w]
                rfl
              exact norm_ (by rfl) (J21 (v165, v177) _ ⟨hHeld, (Kd.R_mono O36.out (fun _ hk => ⟨hk.2, hk.1⟩)), (Kd.R_mono O33.out (fun _ hk => ⟨hk.2, hk.1.2⟩)), (Kd.S_mono O13.out (fun _ hk => ⟨hk.1.1, ⟨hk.2, hk.1.2⟩⟩)), O14.out, BK153.out, BK154.out, BK161.out, BK163.out, HB.out⟩)
            · skip
              refine Kd.R_lit_step Kd.string _ 9 ?hg (N := 37) ?hd (xs := ([] : List ByteArray)) (inner := []) (ok := fun _ => True) (okp := fun _ => True) ?hr ?hp (fun _ hk => hk) trivial (Below.refl _ _) (Nat.le_refl _) (by simp) ?_; (case hd => rfl); (case hg => rfl); (case hr => first | (go_simp; done) | (go_simp; rfl)); (case hp => exact (Reps.none _ _))
              intro v183 w36 ho37 hb hg_ hnew_; clear hg_ hnew_
              (first | rw [← Ny182.out] at ho37 | (simp only [Int.reduceToNat] at ho37; rw [← Ny182.out] at ho37))
              have n0 := ofA (Kd.S_elder' O13.out (Kd.R_base ho37) hb); have n1 := ofA (Kd.R_elder' O14.out (Kd.R_base ho37) hb); have n2 := ofA (Kd.R_elder' O36.out (Kd.R_base ho37) hb); have n3 := ofA (Kd.R_lower (Kd.R_new' (Kd.R_new' ho37 (Kd.R_lt O14.out)) (Kd.R_lt O36.out)) (below_size HB.out)); have n8 := ofA (below_step HB.out hb); replace BK153 := ofA (blk_below BK153.out hb); replace BK154 := ofA (blk_below BK154.out hb); replace BK161 := ofA (blk_below BK161.out hb); replace BK163 := ofA (blk_below BK163.out hb); clear O13 O14 O36 HB; have O13 := n0; have O14 := n1; have O36 := n2; have O28 := n3; have HB := n8; clear n0 n1 n2 n3 n8 hb ho37
              refine hK.out _ _ (ofM BK161.out BK163.out) (fun hHeld => ?_)
              clear hK K
              refine norm_ (a' := ?_) ?_ ?_
              rotate_left
              · show Act.put _ (some 37) _ = _
                simp only [Act.put, List.setIfInBounds_toArray, List.set_cons_zero, List.set_cons_succ, i64_w, i32_w]
                rfl
              exact norm_ (by rfl) (J22 (v165, v183) _ ⟨hHeld, (Kd.R_mono O36.out (fun _ hk => ⟨hk.2, hk.1⟩)), (Kd.R_mono O28.out (fun _ hk => ⟨hk.2, hk.1.2⟩)), (Kd.S_mono O13.out (fun _ hk => ⟨hk.1.1, ⟨hk.2, hk.1.2⟩⟩)), O14.out, BK153.out, BK154.out, BK161.out, BK163.out, HB.out⟩)
          intro J40
          refine join_ (σ := Value) 12 ofL18 (fun s_ => [(29, s_)]) (fun s_ w' => (ofH w' gb161 Ao30 x162000_1 co30 Ao10 y158 co10 gb163 A162_0 l0_0 x4_1 c162_0 A162_1 c162_1 A162_2 c162_2 A162_3 c162_3) ∧ (Kd.R Kd.string 9 w' w.heap.size (fun k_ => Nb k_ (.slice Ao10 y158.length co10)) s_ y170) ∧ (Kd.S k43 43 w' w.heap.size (fun k_ => Nb k_ s_ ∧ Nb k_ (.slice Ao10 y158.length co10)) (.slice Ao30 x162000_1.length co30) x162000_1) ∧ (Kd.R Kd.string 9 w' w.heap.size (fun k_ => Nb k_ s_) (.slice Ao10 y158.length co10) y158) ∧ ofT w w' gb153 ad162 l0_0 c0_0 A0_1 l0_1 c0_1 gb154 gb161 Ao30 x162000_1 co30 Ao10 y158 co10 gb163 A162_0 x4_1 c162_0 A162_1 c162_1 A162_2 c162_2 A162_3 c162_3) ?_ ?_
          · skip
            rintro v171 w35 ⟨hS_, h0_, h1_, h2_, h3_, h4_, h5_, h6_, h7_⟩
            try dsimp only at h0_ h1_ h2_ h3_ h4_ h5_ h6_ h7_
            have n0 := ofA h0_; have n1 := ofA h1_; have n2 := ofA h2_; have n3 := ofA h3_; have n4 := ofA h4_; have n5 := ofA h5_; have n6 := ofA h6_; have n7 := ofA h7_; clear O13 O14 BK153 BK154 BK161 BK163 HB h0_ h1_ h2_ h3_ h4_ h5_ h6_ h7_; have O29 := n0; have O13 := n1; have O14 := n2; have BK153 := n3; have BK154 := n4; have BK161 := n5; have BK163 := n6; have HB := n7; clear n0 n1 n2 n3 n4 n5 n6 n7
            have hHeld := hS_
            refine norm_ (a' := ?_) ?_ ?_
            rotate_left
            · simp only [putAll, Act.put, List.setIfInBounds_toArray, List.set_cons_zero, List.set_cons_succ]
              rfl
            refine three_ (i := 2) (j := 10) (k := 14) (Ni := some 25) (Nj := some 33) (Nk := some 37) ofL26 ofL20 ofL19 rfl rfl rfl rfl rfl rfl (three_of HT_.out (by kernel_rfl)) (by decide) (by decide) (by decide) (fun K hK => ?_) (fun K hK => ?_) (fun K hK => ?_)
            · skip
              refine Kd.R_lit_step Kd.string _ 9 ?hg (N := 25) ?hd (xs := ([] : List ByteArray)) (inner := []) (ok := fun _ => True) (okp := fun _ => True) ?hr ?hp (fun _ hk => hk) trivial (Below.refl _ _) (Nat.le_refl _) (by simp) ?_; (case hd => rfl); (case hg => rfl); (case hr => first | (go_simp; done) | (go_simp; rfl)); (case hp => exact (Reps.none _ _))
              intro v165 w36 ho37 hb hg_ hnew_; clear hg_ hnew_
              (first | rw [← Ny164.out] at ho37 | (simp only [Int.reduceToNat] at ho37; rw [← Ny164.out] at ho37))
              have n0 := ofA (Kd.S_elder' O13.out (Kd.R_base ho37) hb); have n1 := ofA (Kd.R_elder' O14.out (Kd.R_base ho37) hb); have n2 := ofA (Kd.R_elder' O29.out (Kd.R_base ho37) hb); have n3 := ofA (Kd.R_lower (Kd.R_new' (Kd.R_new' ho37 (Kd.R_lt O14.out)) (Kd.R_lt O29.out)) (below_size HB.out)); have n8 := ofA (below_step HB.out hb); replace BK153 := ofA (blk_below BK153.out hb); replace BK154 := ofA (blk_below BK154.out hb); replace BK161 := ofA (blk_below BK161.out hb); replace BK163 := ofA (blk_below BK163.out hb); clear O13 O14 O29 HB; have O13 := n0; have O14 := n1; have O29 := n2; have O36 := n3; have HB := n8; clear n0 n1 n2 n3 n8 hb ho37
              refine hK.out _ _ (ofM BK161.out BK163.out) (fun hHeld => ?_)
              clear hK K
              refine norm_ (a' := ?_) ?_ ?_
              rotate_left
              · show Act.put _ (some 25) _ = _
                simp only [Act.put, List.setIfInBounds_toArray, List.set_cons_zero, List.set_cons_succ, i64_w, i32_w]
                rfl
              exact norm_ (by rfl) (J37 (v165, v171) _ ⟨hHeld, (Kd.R_mono O36.out (fun _ hk => ⟨hk.2, hk.1.2⟩)), (Kd.R_mono O29.out (fun _ hk => ⟨hk.2, hk.1⟩)), (Kd.S_mono O13.out (fun _ hk => ⟨hk.2, ⟨hk.1.1, hk.1.2⟩⟩)), (Kd.R_mono O14.out (fun _ hk => ⟨hk.2, hk.1⟩)), BK153.out, BK154.out, BK161.out, BK163.out, HB.out⟩)
            · skip
              refine Kd.R_lit_step Kd.string _ 9 ?hg (N := 33) ?hd (xs := ([] : List ByteArray)) (inner := []) (ok := fun _ => True) (okp := fun _ => True) ?hr ?hp (fun _ hk => hk) trivial (Below.refl _ _) (Nat.le_refl _) (by simp) ?_; (case hd => rfl); (case hg => rfl); (case hr => first | (go_simp; done) | (go_simp; rfl)); (case hp => exact (Reps.none _ _))
              intro v177 w36 ho37 hb hg_ hnew_; clear hg_ hnew_
              (first | rw [← Ny176.out] at ho37 | (simp only [Int.reduceToNat] at ho37; rw [← Ny176.out] at ho37))
              have n0 := ofA (Kd.S_elder' O13.out (Kd.R_base ho37) hb); have n1 := ofA (Kd.R_elder' O14.out (Kd.R_base ho37) hb); have n2 := ofA (Kd.R_elder' O29.out (Kd.R_base ho37) hb); have n3 := ofA (Kd.R_lower (Kd.R_new' (Kd.R_new' ho37 (Kd.R_lt O14.out)) (Kd.R_lt O29.out)) (below_size HB.out)); have n8 := ofA (below_step HB.out hb); replace BK153 := ofA (blk_below BK153.out hb); replace BK154 := ofA (blk_below BK154.out hb); replace BK161 := ofA (blk_below BK161.out hb); replace BK163 := ofA (blk_below BK163.out hb); clear O13 O14 O29 HB; have O13 := n0; have O14 := n1; have O29 := n2; have O33 := n3; have HB := n8; clear n0 n1 n2 n3 n8 hb ho37
              refine hK.out _ _ (ofM BK161.out BK163.out) (fun hHeld => ?_)
              clear hK K
              refine norm_ (a' := ?_) ?_ ?_
              rotate_left
              · show Act.put _ (some 33) _ = _
                simp only [Act.put, List.setIfInBounds_toArray, List.set_cons_zero, List.set_cons_succ, i64_w, i32_w]
                rfl
              exact norm_ (by rfl) (J23 (v171, v177) _ ⟨hHeld, (Kd.R_mono O29.out (fun _ hk => ⟨hk.2, hk.1⟩)), (Kd.R_mono O33.out (fun _ hk => ⟨hk.2, hk.1.2⟩)), (Kd.S_mono O13.out (fun _ hk => ⟨hk.1.1, ⟨hk.2, hk.1.2⟩⟩)), O14.out, BK153.out, BK154.out, BK161.out, BK163.out, HB.out⟩)
            · skip
              refine Kd.R_lit_step Kd.string _ 9 ?hg (N := 37) ?hd (xs := ([] : List ByteArray)) (inner := []) (ok := fun _ => True) (okp := fun _ => True) ?hr ?hp (fun _ hk => hk) trivial (Below.refl _ _) (Nat.le_refl _) (by simp) ?_; (case hd => rfl); (case hg => rfl); (case hr => first | (go_simp; done) | (go_simp; rfl)); (case hp => exact (Reps.none _ _))
              intro v183 w36 ho37 hb hg_ hnew_; clear hg_ hnew_
              (first | rw [← Ny182.out] at ho37 | (simp only [Int.reduceToNat] at ho37; rw [← Ny182.out] at ho37))
              have n0 := ofA (Kd.S_elder' O13.out (Kd.R_base ho37) hb); have n1 := ofA (Kd.R_elder' O14.out (Kd.R_base ho37) hb); have n2 := ofA (Kd.R_elder' O29.out (Kd.R_base ho37) hb); have n3 := ofA (Kd.R_lower (Kd.R_new' (Kd.R_new' ho37 (Kd.R_lt O14.out)) (Kd.R_lt O29.out)) (below_size HB.out)); have n8 := ofA (below_step HB.out hb); replace BK153 := ofA (blk_below BK153.out hb); replace BK154 := ofA (blk_below BK154.out hb); replace BK161 := ofA (blk_below BK161.out hb); replace BK163 := ofA (blk_below BK163.out hb); clear O13 O14 O29 HB; have O13 := n0; have O14 := n1; have O29 := n2; have O28 := n3; have HB := n8; clear n0 n1 n2 n3 n8 hb ho37
              refine hK.out _ _ (ofM BK161.out BK163.out) (fun hHeld => ?_)
              clear hK K
              refine norm_ (a' := ?_) ?_ ?_
              rotate_left
              · show Act.put _ (some 37) _ = _
                simp only [Act.put, List.setIfInBounds_toArray, List.set_cons_zero, List.set_cons_succ, i64_w, i32_w]
                rfl
              exact norm_ (by rfl) (J24 (v171, v183) _ ⟨hHeld, (Kd.R_mono O29.out (fun _ hk => ⟨hk.2, hk.1⟩)), (Kd.R_mono O28.out (fun _ hk => ⟨hk.2, hk.1.2⟩)), (Kd.S_mono O13.out (fun _ hk => ⟨hk.1.1, ⟨hk.2, hk.1.2⟩⟩)), O14.out, BK153.out, BK154.out, BK161.out, BK163.out, HB.out⟩)
          intro J41
          refine join_ (σ := Value) 12 ofL16 (fun s_ => [(33, s_)]) (fun s_ w' => (ofH w' gb161 Ao30 x162000_1 co30 Ao10 y158 co10 gb163 A162_0 l0_0 x4_1 c162_0 A162_1 c162_1 A162_2 c162_2 A162_3 c162_3) ∧ (Kd.R Kd.string 9 w' w.heap.size (fun k_ => Nb k_ (.slice Ao10 y158.length co10)) s_ y176) ∧ (Kd.S k43 43 w' w.heap.size (fun k_ => Nb k_ s_ ∧ Nb k_ (.slice Ao10 y158.length co10)) (.slice Ao30 x162000_1.length co30) x162000_1) ∧ (Kd.R Kd.string 9 w' w.heap.size (fun k_ => Nb k_ s_) (.slice Ao10 y158.length co10) y158) ∧ ofT w w' gb153 ad162 l0_0 c0_0 A0_1 l0_1 c0_1 gb154 gb161 Ao30 x162000_1 co30 Ao10 y158 co10 gb163 A162_0 x4_1 c162_0 A162_1 c162_1 A162_2 c162_2 A162_3 c162_3) ?_ ?_
          · skip
            rintro v177 w35 ⟨hS_, h0_, h1_, h2_, h3_, h4_, h5_, h6_, h7_⟩
            try dsimp only at h0_ h1_ h2_ h3_ h4_ h5_ h6_ h7_
            have n0 := ofA h0_; have n1 := ofA h1_; have n2 := ofA h2_; have n3 := ofA h3_; have n4 := ofA h4_; have n5 := ofA h5_; have n6 := ofA h6_; have n7 := ofA h7_; clear O13 O14 BK153 BK154 BK161 BK163 HB h0_ h1_ h2_ h3_ h4_ h5_ h6_ h7_; have O33 := n0; have O13 := n1; have O14 := n2; have BK153 := n3; have BK154 := n4; have BK161 := n5; have BK163 := n6; have HB := n7; clear n0 n1 n2 n3 n4 n5 n6 n7
            have hHeld := hS_
            refine norm_ (a' := ?_) ?_ ?_
            rotate_left
            · simp only [putAll, Act.put, List.setIfInBounds_toArray, List.set_cons_zero, List.set_cons_succ]
              rfl
            refine three_ (i := 2) (j := 6) (k := 14) (Ni := some 25) (Nj := some 29) (Nk := some 37) ofL24 ofL20 ofL17 rfl rfl rfl rfl rfl rfl (three_of HT_.out (by kernel_rfl)) (by decide) (by decide) (by decide) (fun K hK => ?_) (fun K hK => ?_) (fun K hK => ?_)
            · skip
              refine Kd.R_lit_step Kd.string _ 9 ?hg (N := 25) ?hd (xs := ([] : List ByteArray)) (inner := []) (ok := fun _ => True) (okp := fun _ => True) ?hr ?hp (fun _ hk => hk) trivial (Below.refl _ _) (Nat.le_refl _) (by simp) ?_; (case hd => rfl); (case hg => rfl); (case hr => first | (go_simp; done) | (go_simp; rfl)); (case hp => exact (Reps.none _ _))
              intro v165 w36 ho37 hb hg_ hnew_; clear hg_ hnew_
              (first | rw [← Ny164.out] at ho37 | (simp only [Int.reduceToNat] at ho37; rw [← Ny164.out] at ho37))
              have n0 := ofA (Kd.S_elder' O13.out (Kd.R_base ho37) hb); have n1 := ofA (Kd.R_elder' O14.out (Kd.R_base ho37) hb); have n2 := ofA (Kd.R_elder' O33.out (Kd.R_base ho37) hb); have n3 := ofA (Kd.R_lower (Kd.R_new' (Kd.R_new' ho37 (Kd.R_lt O14.out)) (Kd.R_lt O33.out)) (below_size HB.out)); have n8 := ofA (below_step HB.out hb); replace BK153 := ofA (blk_below BK153.out hb); replace BK154 := ofA (blk_below BK154.out hb); replace BK161 := ofA (blk_below BK161.out hb); replace BK163 := ofA (blk_below BK163.out hb); clear O13 O14 O33 HB; have O13 := n0; have O14 := n1; have O33 := n2; have O36 := n3; have HB := n8; clear n0 n1 n2 n3 n8 hb ho37
              refine hK.out _ _ (ofM BK161.out BK163.out) (fun hHeld => ?_)
              clear hK K
              refine norm_ (a' := ?_) ?_ ?_
              rotate_left
              · show Act.put _ (some 25) _ = _
                simp only [Act.put, List.setIfInBounds_toArray, List.set_cons_zero, List.set_cons_succ, i64_w, i32_w]
                rfl
              exact norm_ (by rfl) (J21 (v165, v177) _ ⟨hHeld, (Kd.R_mono O36.out (fun _ hk => ⟨hk.2, hk.1.2⟩)), (Kd.R_mono O33.out (fun _ hk => ⟨hk.2, hk.1⟩)), (Kd.S_mono O13.out (fun _ hk => ⟨hk.2, ⟨hk.1.1, hk.1.2⟩⟩)), (Kd.R_mono O14.out (fun _ hk => ⟨hk.2, hk.1⟩)), BK153.out, BK154.out, BK161.out, BK163.out, HB.out⟩)
            · skip
              refine Kd.R_lit_step Kd.string _ 9 ?hg (N := 29) ?hd (xs := ([] : List ByteArray)) (inner := []) (ok := fun _ => True) (okp := fun _ => True) ?hr ?hp (fun _ hk => hk) trivial (Below.refl _ _) (Nat.le_refl _) (by simp) ?_; (case hd => rfl); (case hg => rfl); (case hr => first | (go_simp; done) | (go_simp; rfl)); (case hp => exact (Reps.none _ _))
              intro v171 w36 ho37 hb hg_ hnew_; clear hg_ hnew_
              (first | rw [← Ny170.out] at ho37 | (simp only [Int.reduceToNat] at ho37; rw [← Ny170.out] at ho37))
              have n0 := ofA (Kd.S_elder' O13.out (Kd.R_base ho37) hb); have n1 := ofA (Kd.R_elder' O14.out (Kd.R_base ho37) hb); have n2 := ofA (Kd.R_elder' O33.out (Kd.R_base ho37) hb); have n3 := ofA (Kd.R_lower (Kd.R_new' (Kd.R_new' ho37 (Kd.R_lt O14.out)) (Kd.R_lt O33.out)) (below_size HB.out)); have n8 := ofA (below_step HB.out hb); replace BK153 := ofA (blk_below BK153.out hb); replace BK154 := ofA (blk_below BK154.out hb); replace BK161 := ofA (blk_below BK161.out hb); replace BK163 := ofA (blk_below BK163.out hb); clear O13 O14 O33 HB; have O13 := n0; have O14 := n1; have O33 := n2; have O29 := n3; have HB := n8; clear n0 n1 n2 n3 n8 hb ho37
              refine hK.out _ _ (ofM BK161.out BK163.out) (fun hHeld => ?_)
              clear hK K
              refine norm_ (a' := ?_) ?_ ?_
              rotate_left
              · show Act.put _ (some 29) _ = _
                simp only [Act.put, List.setIfInBounds_toArray, List.set_cons_zero, List.set_cons_succ, i64_w, i32_w]
                rfl
              exact norm_ (by rfl) (J23 (v171, v177) _ ⟨hHeld, (Kd.R_mono O29.out (fun _ hk => ⟨hk.2, hk.1.2⟩)), (Kd.R_mono O33.out (fun _ hk => ⟨hk.2, hk.1⟩)), (Kd.S_mono O13.out (fun _ hk => ⟨hk.2, ⟨hk.1.1, hk.1.2⟩⟩)), (Kd.R_mono O14.out (fun _ hk => ⟨hk.2, hk.1⟩)), BK153.out, BK154.out, BK161.out, BK163.out, HB.out⟩)
            · skip
              refine Kd.R_lit_step Kd.string _ 9 ?hg (N := 37) ?hd (xs := ([] : List ByteArray)) (inner := []) (ok := fun _ => True) (okp := fun _ => True) ?hr ?hp (fun _ hk => hk) trivial (Below.refl _ _) (Nat.le_refl _) (by simp) ?_; (case hd => rfl); (case hg => rfl); (case hr => first | (go_simp; done) | (go_simp; rfl)); (case hp => exact (Reps.none _ _))
              intro v183 w36 ho37 hb hg_ hnew_; clear hg_ hnew_
              (first | rw [← Ny182.out] at ho37 | (simp only [Int.reduceToNat] at ho37; rw [← Ny182.out] at ho37))
              have n0 := ofA (Kd.S_elder' O13.out (Kd.R_base ho37) hb); have n1 := ofA (Kd.R_elder' O14.out (Kd.R_base ho37) hb); have n2 := ofA (Kd.R_elder' O33.out (Kd.R_base ho37) hb); have n3 := ofA (Kd.R_lower (Kd.R_new' (Kd.R_new' ho37 (Kd.R_lt O14.out)) (Kd.R_lt O33.out)) (below_size HB.out)); have n8 := ofA (below_step HB.out hb); replace BK153 := ofA (blk_below BK153.out hb); replace BK154 := ofA (blk_below BK154.out hb); replace BK161 := ofA (blk_below BK161.out hb); replace BK163 := ofA (blk_below BK163.out hb); clear O13 O14 O33 HB; have O13 := n0; have O14 := n1; have O33 := n2; have O28 := n3; have HB := n8; clear n0 n1 n2 n3 n8 hb ho37
              refine hK.out _ _ (ofM BK161.out BK163.out) (fun hHeld => ?_)
              clear hK K
              refine norm_ (a' := ?_) ?_ ?_
              rotate_left
              · show Act.put _ (some 37) _ = _
                simp only [Act.put, List.setIfInBounds_toArray, List.set_cons_zero, List.set_cons_succ, i64_w, i32_w]
                rfl
              exact norm_ (by rfl) (J19 (v177, v183) _ ⟨hHeld, (Kd.R_mono O33.out (fun _ hk => ⟨hk.2, hk.1⟩)), (Kd.R_mono O28.out (fun _ hk => ⟨hk.2, hk.1.2⟩)), (Kd.S_mono O13.out (fun _ hk => ⟨hk.1.1, ⟨hk.2, hk.1.2⟩⟩)), O14.out, BK153.out, BK154.out, BK161.out, BK163.out, HB.out⟩)
          intro J38
          refine join_ (σ := Value) 12 ofL15 (fun s_ => [(37, s_)]) (fun s_ w' => (ofH w' gb161 Ao30 x162000_1 co30 Ao10 y158 co10 gb163 A162_0 l0_0 x4_1 c162_0 A162_1 c162_1 A162_2 c162_2 A162_3 c162_3) ∧ (Kd.R Kd.string 9 w' w.heap.size (fun k_ => Nb k_ (.slice Ao10 y158.length co10)) s_ y182) ∧ (Kd.S k43 43 w' w.heap.size (fun k_ => Nb k_ s_ ∧ Nb k_ (.slice Ao10 y158.length co10)) (.slice Ao30 x162000_1.length co30) x162000_1) ∧ (Kd.R Kd.string 9 w' w.heap.size (fun k_ => Nb k_ s_) (.slice Ao10 y158.length co10) y158) ∧ ofT w w' gb153 ad162 l0_0 c0_0 A0_1 l0_1 c0_1 gb154 gb161 Ao30 x162000_1 co30 Ao10 y158 co10 gb163 A162_0 x4_1 c162_0 A162_1 c162_1 A162_2 c162_2 A162_3 c162_3) ?_ ?_
          · skip
            rintro v183 w35 ⟨hS_, h0_, h1_, h2_, h3_, h4_, h5_, h6_, h7_⟩
            try dsimp only at h0_ h1_ h2_ h3_ h4_ h5_ h6_ h7_
            have n0 := ofA h0_; have n1 := ofA h1_; have n2 := ofA h2_; have n3 := ofA h3_; have n4 := ofA h4_; have n5 := ofA h5_; have n6 := ofA h6_; have n7 := ofA h7_; clear O13 O14 BK153 BK154 BK161 BK163 HB h0_ h1_ h2_ h3_ h4_ h5_ h6_ h7_; have O28 := n0; have O13 := n1; have O14 := n2; have BK153 := n3; have BK154 := n4; have BK161 := n5; have BK163 := n6; have HB := n7; clear n0 n1 n2 n3 n4 n5 n6 n7
            have hHeld := hS_
            refine norm_ (a' := ?_) ?_ ?_
            rotate_left
            · simp only [putAll, Act.put, List.setIfInBounds_toArray, List.set_cons_zero, List.set_cons_succ]
              rfl
            refine three_ (i := 2) (j := 6) (k := 10) (Ni := some 25) (Nj := some 29) (Nk := some 33) ofL23 ofL19 ofL17 rfl rfl rfl rfl rfl rfl (three_of HT_.out (by kernel_rfl)) (by decide) (by decide) (by decide) (fun K hK => ?_) (fun K hK => ?_) (fun K hK => ?_)
            · skip
              refine Kd.R_lit_step Kd.string _ 9 ?hg (N := 25) ?hd (xs := ([] : List ByteArray)) (inner := []) (ok := fun _ => True) (okp := fun _ => True) ?hr ?hp (fun _ hk => hk) trivial (Below.refl _ _) (Nat.le_refl _) (by simp) ?_; (case hd => rfl); (case hg => rfl); (case hr => first | (go_simp; done) | (go_simp; rfl)); (case hp => exact (Reps.none _ _))
              intro v165 w36 ho37 hb hg_ hnew_; clear hg_ hnew_
              (first | rw [← Ny164.out] at ho37 | (simp only [Int.reduceToNat] at ho37; rw [← Ny164.out] at ho37))
              have n0 := ofA (Kd.S_elder' O13.out (Kd.R_base ho37) hb); have n1 := ofA (Kd.R_elder' O14.out (Kd.R_base ho37) hb); have n2 := ofA (Kd.R_elder' O28.out (Kd.R_base ho37) hb); have n3 := ofA (Kd.R_lower (Kd.R_new' (Kd.R_new' ho37 (Kd.R_lt O14.out)) (Kd.R_lt O28.out)) (below_size HB.out)); have n8 := ofA (below_step HB.out hb); replace BK153 := ofA (blk_below BK153.out hb); replace BK154 := ofA (blk_below BK154.out hb); replace BK161 := ofA (blk_below BK161.out hb); replace BK163 := ofA (blk_below BK163.out hb); clear O13 O14 O28 HB; have O13 := n0; have O14 := n1; have O28 := n2; have O36 := n3; have HB := n8; clear n0 n1 n2 n3 n8 hb ho37
              refine hK.out _ _ (ofM BK161.out BK163.out) (fun hHeld => ?_)
              clear hK K
              refine norm_ (a' := ?_) ?_ ?_
              rotate_left
              · show Act.put _ (some 25) _ = _
                simp only [Act.put, List.setIfInBounds_toArray, List.set_cons_zero, List.set_cons_succ, i64_w, i32_w]
                rfl
              exact norm_ (by rfl) (J22 (v165, v183) _ ⟨hHeld, (Kd.R_mono O36.out (fun _ hk => ⟨hk.2, hk.1.2⟩)), (Kd.R_mono O28.out (fun _ hk => ⟨hk.2, hk.1⟩)), (Kd.S_mono O13.out (fun _ hk => ⟨hk.2, ⟨hk.1.1, hk.1.2⟩⟩)), (Kd.R_mono O14.out (fun _ hk => ⟨hk.2, hk.1⟩)), BK153.out, BK154.out, BK161.out, BK163.out, HB.out⟩)
            · skip
              refine Kd.R_lit_step Kd.string _ 9 ?hg (N := 29) ?hd (xs := ([] : List ByteArray)) (inner := []) (ok := fun _ => True) (okp := fun _ => True) ?hr ?hp (fun _ hk => hk) trivial (Below.refl _ _) (Nat.le_refl _) (by simp) ?_; (case hd => rfl); (case hg => rfl); (case hr => first | (go_simp; done) | (go_simp; rfl)); (case hp => exact (Reps.none _ _))
              intro v171 w36 ho37 hb hg_ hnew_; clear hg_ hnew_
              (first | rw [← Ny170.out] at ho37 | (simp only [Int.reduceToNat] at ho37; rw [← Ny170.out] at ho37))
              have n0 := ofA (Kd.S_elder' O13.out (Kd.R_base ho37) hb); have n1 := ofA (Kd.R_elder' O14.out (Kd.R_base ho37) hb); have n2 := ofA (Kd.R_elder' O28.out (Kd.R_base ho37) hb); have n3 := ofA (Kd.R_lower (Kd.R_new' (Kd.R_new' ho37 (Kd.R_lt O14.out)) (Kd.R_lt O28.out)) (below_size HB.out)); have n8 := ofA (below_step HB.out hb); replace BK153 := ofA (blk_below BK153.out hb); replace BK154 := ofA (blk_below BK154.out hb); replace BK161 := ofA (blk_below BK161.out hb); replace BK163 := ofA (blk_below BK163.out hb); clear O13 O14 O28 HB; have O13 := n0; have O14 := n1; have O28 := n2; have O29 := n3; have HB := n8; clear n0 n1 n2 n3 n8 hb ho37
              refine hK.out _ _ (ofM BK161.out BK163.out) (fun hHeld => ?_)
              clear hK K
              refine norm_ (a' := ?_) ?_ ?_
              rotate_left
              · show Act.put _ (some 29) _ = _
                simp only [Act.put, List.setIfInBounds_toArray, List.set_cons_zero, List.set_cons_succ, i64_w, i32_w]
                rfl
              exact norm_ (by rfl) (J24 (v171, v183) _ ⟨hHeld, (Kd.R_mono O29.out (fun _ hk => ⟨hk.2, hk.1.2⟩)), (Kd.R_mono O28.out (fun _ hk => ⟨hk.2, hk.1⟩)), (Kd.S_mono O13.out (fun _ hk => ⟨hk.2, ⟨hk.1.1, hk.1.2⟩⟩)), (Kd.R_mono O14.out (fun _ hk => ⟨hk.2, hk.1⟩)), BK153.out, BK154.out, BK161.out, BK163.out, HB.out⟩)
            · skip
              refine Kd.R_lit_step Kd.string _ 9 ?hg (N := 33) ?hd (xs := ([] : List ByteArray)) (inner := []) (ok := fun _ => True) (okp := fun _ => True) ?hr ?hp (fun _ hk => hk) trivial (Below.refl _ _) (Nat.le_refl _) (by simp) ?_; (case hd => rfl); (case hg => rfl); (case hr => first | (go_simp; done) | (go_simp; rfl)); (case hp => exact (Reps.none _ _))
              intro v177 w36 ho37 hb hg_ hnew_; clear hg_ hnew_
              (first | rw [← Ny176.out] at ho37 | (simp only [Int.reduceToNat] at ho37; rw [← Ny176.out] at ho37))
              have n0 := ofA (Kd.S_elder' O13.out (Kd.R_base ho37) hb); have n1 := ofA (Kd.R_elder' O14.out (Kd.R_base ho37) hb); have n2 := ofA (Kd.R_elder' O28.out (Kd.R_base ho37) hb); have n3 := ofA (Kd.R_lower (Kd.R_new' (Kd.R_new' ho37 (Kd.R_lt O14.out)) (Kd.R_lt O28.out)) (below_size HB.out)); have n8 := ofA (below_step HB.out hb); replace BK153 := ofA (blk_below BK153.out hb); replace BK154 := ofA (blk_below BK154.out hb); replace BK161 := ofA (blk_below BK161.out hb); replace BK163 := ofA (blk_below BK163.out hb); clear O13 O14 O28 HB; have O13 := n0; have O14 := n1; have O28 := n2; have O33 := n3; have HB := n8; clear n0 n1 n2 n3 n8 hb ho37
              refine hK.out _ _ (ofM BK161.out BK163.out) (fun hHeld => ?_)
              clear hK K
              refine norm_ (a' := ?_) ?_ ?_
              rotate_left
              · show Act.put _ (some 33) _ = _
                simp only [Act.put, List.setIfInBounds_toArray, List.set_cons_zero, List.set_cons_succ, i64_w, i32_w]
                rfl
              exact norm_ (by rfl) (J19 (v177, v183) _ ⟨hHeld, (Kd.R_mono O33.out (fun _ hk => ⟨hk.2, hk.1.2⟩)), (Kd.R_mono O28.out (fun _ hk => ⟨hk.2, hk.1⟩)), (Kd.S_mono O13.out (fun _ hk => ⟨hk.2, ⟨hk.1.1, hk.1.2⟩⟩)), (Kd.R_mono O14.out (fun _ hk => ⟨hk.2, hk.1⟩)), BK153.out, BK154.out, BK161.out, BK163.out, HB.out⟩)
          intro J39
          refine four_ (i := 2) (j := 6) (k := 10) (m := 14) (Ni := some 25) (Nj := some 29) (Nk := some 33) (Nm := some 37) ofL22 ofL18 ofL16 ofL15 rfl rfl rfl rfl rfl rfl rfl rfl (four_of HT_.out (by kernel_rfl)) (by decide) (by decide) (by decide) (by decide) (fun K hK => ?_) (fun K hK => ?_) (fun K hK => ?_) (fun K hK => ?_)
          · skip
            refine Kd.R_lit_step Kd.string _ 9 ?hg (N := 25) ?hd (xs := ([] : List ByteArray)) (inner := []) (ok := fun _ => True) (okp := fun _ => True) ?hr ?hp (fun _ hk => hk) trivial (Below.refl _ _) (Nat.le_refl _) (by simp) ?_; (case hd => rfl); (case hg => rfl); (case hr => first | (go_simp; done) | (go_simp; rfl)); (case hp => exact (Reps.none _ _))
            intro v165 w33 ho34 hb hg_ hnew_; clear hg_ hnew_
            (first | rw [← Ny164.out] at ho34 | (simp only [Int.reduceToNat] at ho34; rw [← Ny164.out] at ho34))
            have n0 := ofA (Kd.S_elder' O13.out (Kd.R_base ho34) hb); have n1 := ofA (Kd.R_elder' O14.out (Kd.R_base ho34) hb); have n2 := ofA (Kd.R_lower (Kd.R_new' ho34 (Kd.R_lt O14.out)) (below_size HB.out)); have n7 := ofA (below_step HB.out hb); replace BK153 := ofA (blk_below BK153.out hb); replace BK154 := ofA (blk_below BK154.out hb); replace BK161 := ofA (blk_below BK161.out hb); replace BK163 := ofA (blk_below BK163.out hb); clear O13 O14 HB; have O13 := n0; have O14 := n1; have O36 := n2; have HB := n7; clear n0 n1 n2 n7 hb ho34
            refine hK.out _ _ (ofM BK161.out BK163.out) (fun hHeld => ?_)
            clear hK K
            refine norm_ (a' := ?_) ?_ ?_
            rotate_left
            · show Act.put _ (some 25) _ = _
              simp only [Act.put, List.setIfInBounds_toArray, List.set_cons_zero, List.set_cons_succ, i64_w, i32_w]
              rfl
            exact norm_ (by rfl) (J40 (v165) _ ⟨hHeld, (Kd.R_mono O36.out (fun _ hk => hk.2)), (Kd.S_mono O13.out (fun _ hk => ⟨hk.2, hk.1⟩)), (Kd.R_mono O14.out (fun _ hk => hk.2)), BK153.out, BK154.out, BK161.out, BK163.out, HB.out⟩)
          · skip
            refine Kd.R_lit_step Kd.string _ 9 ?hg (N := 29) ?hd (xs := ([] : List ByteArray)) (inner := []) (ok := fun _ => True) (okp := fun _ => True) ?hr ?hp (fun _ hk => hk) trivial (Below.refl _ _) (Nat.le_refl _) (by simp) ?_; (case hd => rfl); (case hg => rfl); (case hr => first | (go_simp; done) | (go_simp; rfl)); (case hp => exact (Reps.none _ _))
            intro v171 w33 ho34 hb hg_ hnew_; clear hg_ hnew_
            (first | rw [← Ny170.out] at ho34 | (simp only [Int.reduceToNat] at ho34; rw [← Ny170.out] at ho34))
            have n0 := ofA (Kd.S_elder' O13.out (Kd.R_base ho34) hb); have n1 := ofA (Kd.R_elder' O14.out (Kd.R_base ho34) hb); have n2 := ofA (Kd.R_lower (Kd.R_new' ho34 (Kd.R_lt O14.out)) (below_size HB.out)); have n7 := ofA (below_step HB.out hb); replace BK153 := ofA (blk_below BK153.out hb); replace BK154 := ofA (blk_below BK154.out hb); replace BK161 := ofA (blk_below BK161.out hb); replace BK163 := ofA (blk_below BK163.out hb); clear O13 O14 HB; have O13 := n0; have O14 := n1; have O29 := n2; have HB := n7; clear n0 n1 n2 n7 hb ho34
            refine hK.out _ _ (ofM BK161.out BK163.out) (fun hHeld => ?_)
            clear hK K
            refine norm_ (a' := ?_) ?_ ?_
            rotate_left
            · show Act.put _ (some 29) _ = _
              simp only [Act.put, List.setIfInBounds_toArray, List.set_cons_zero, List.set_cons_succ, i64_w, i32_w]
              rfl
            exact norm_ (by rfl) (J41 (v171) _ ⟨hHeld, (Kd.R_mono O29.out (fun _ hk => hk.2)), (Kd.S_mono O13.out (fun _ hk => ⟨hk.2, hk.1⟩)), (Kd.R_mono O14.out (fun _ hk => hk.2)), BK153.out, BK154.out, BK161.out, BK163.out, HB.out⟩)
          · skip
            refine Kd.R_lit_step Kd.string _ 9 ?hg (N := 33) ?hd (xs := ([] : List ByteArray)) (inner := []) (ok := fun _ => True) (okp := fun _ => True) ?hr ?hp (fun _ hk => hk) trivial (Below.refl _ _) (Nat.le_refl _) (by simp) ?_; (case hd => rfl); (case hg => rfl); (case hr => first | (go_simp; done) | (go_simp; rfl)); (case hp => exact (Reps.none _ _))
            intro v177 w33 ho34 hb hg_ hnew_; clear hg_ hnew_
            (first | rw [← Ny176.out] at ho34 | (simp only [Int.reduceToNat] at ho34; rw [← Ny176.out] at ho34))
            have n0 := ofA (Kd.S_elder' O13.out (Kd.R_base ho34) hb); have n1 := ofA (Kd.R_elder' O14.out (Kd.R_base ho34) hb); have n2 := ofA (Kd.R_lower (Kd.R_new' ho34 (Kd.R_lt O14.out)) (below_size HB.out)); have n7 := ofA (below_step HB.out hb); replace BK153 := ofA (blk_below BK153.out hb); replace BK154 := ofA (blk_below BK154.out hb); replace BK161 := ofA (blk_below BK161.out hb); replace BK163 := ofA (blk_below BK163.out hb); clear O13 O14 HB; have O13 := n0; have O14 := n1; have O33 := n2; have HB := n7; clear n0 n1 n2 n7 hb ho34
            refine hK.out _ _ (ofM BK161.out BK163.out) (fun hHeld => ?_)
            clear hK K
            refine norm_ (a' := ?_) ?_ ?_
            rotate_left
            · show Act.put _ (some 33) _ = _
              simp only [Act.put, List.setIfInBounds_toArray, List.set_cons_zero, List.set_cons_succ, i64_w, i32_w]
              rfl
            exact norm_ (by rfl) (J38 (v177) _ ⟨hHeld, (Kd.R_mono O33.out (fun _ hk => hk.2)), (Kd.S_mono O13.out (fun _ hk => ⟨hk.2, hk.1⟩)), (Kd.R_mono O14.out (fun _ hk => hk.2)), BK153.out, BK154.out, BK161.out, BK163.out, HB.out⟩)
          · skip
            refine Kd.R_lit_step Kd.string _ 9 ?hg (N := 37) ?hd (xs := ([] : List ByteArray)) (inner := []) (ok := fun _ => True) (okp := fun _ => True) ?hr ?hp (fun _ hk => hk) trivial (Below.refl _ _) (Nat.le_refl _) (by simp) ?_; (case hd => rfl); (case hg => rfl); (case hr => first | (go_simp; done) | (go_simp; rfl)); (case hp => exact (Reps.none _ _))
            intro v183 w33 ho34 hb hg_ hnew_; clear hg_ hnew_
            (first | rw [← Ny182.out] at ho34 | (simp only [Int.reduceToNat] at ho34; rw [← Ny182.out] at ho34))
            have n0 := ofA (Kd.S_elder' O13.out (Kd.R_base ho34) hb); have n1 := ofA (Kd.R_elder' O14.out (Kd.R_base ho34) hb); have n2 := ofA (Kd.R_lower (Kd.R_new' ho34 (Kd.R_lt O14.out)) (below_size HB.out)); have n7 := ofA (below_step HB.out hb); replace BK153 := ofA (blk_below BK153.out hb); replace BK154 := ofA (blk_below BK154.out hb); replace BK161 := ofA (blk_below BK161.out hb); replace BK163 := ofA (blk_below BK163.out hb); clear O13 O14 HB; have O13 := n0; have O14 := n1; have O28 := n2; have HB := n7; clear n0 n1 n2 n7 hb ho34
            refine hK.out _ _ (ofM BK161.out BK163.out) (fun hHeld => ?_)
            clear hK K
            refine norm_ (a' := ?_) ?_ ?_
            rotate_left
            · show Act.put _ (some 37) _ = _
              simp only [Act.put, List.setIfInBounds_toArray, List.set_cons_zero, List.set_cons_succ, i64_w, i32_w]
              rfl
            exact norm_ (by rfl) (J39 (v183) _ ⟨hHeld, (Kd.R_mono O28.out (fun _ hk => hk.2)), (Kd.S_mono O13.out (fun _ hk => ⟨hk.2, hk.1⟩)), (Kd.R_mono O14.out (fun _ hk => hk.2)), BK153.out, BK154.out, BK161.out, BK163.out, HB.out⟩)
        rintro ⟨v165, v168, v171, v174, v177, v180, v183⟩ w44 ⟨hS_, h0_, h1_, h2_, h3_, h4_, h5_, h6_, h7_, h8_, h9_, h10_⟩
        try dsimp only at h0_ h1_ h2_ h3_ h4_ h5_ h6_ h7_ h8_ h9_ h10_
        have n0 := ofA h0_; have n1 := ofA h1_; have n2 := ofA h2_; have n3 := ofA h3_; have n4 := ofA h4_; have n5 := ofA h5_; have n6 := ofA h6_; have n7 := ofA h7_; have n8 := ofA h8_; have n9 := ofA h9_; have n10 := ofA h10_; clear O13 O14 BK153 BK154 BK161 BK163 HB h0_ h1_ h2_ h3_ h4_ h5_ h6_ h7_ h8_ h9_ h10_; have O32 := n0; have O34 := n1; have O30 := n2; have O28 := n3; have O13 := n4; have O14 := n5; have BK153 := n6; have BK154 := n7; have BK161 := n8; have BK163 := n9; have HB := n10; clear n0 n1 n2 n3 n4 n5 n6 n7 n8 n9 n10
        have hHeld := hS_
        refine norm_ (a' := ?_) ?_ ?_
        rotate_left
        · simp only [putAll, Act.put, List.setIfInBounds_toArray, List.set_cons_zero, List.set_cons_succ]
          rfl
        refine one_ (i := 17) (N := some 40) #[true, true, true, true, true, true, true, true, true, true, true, true, true, true, true, true, true, true, true, true, true, true, false, false, false, false, false] rfl rfl (one_of HT_.out (by kernel_rfl)) (by decide) (fun K hK => ?_)
        refine Kd.R_append_rows_step Kd.string (w0 := w) w.heap.size (by rfl) (.tmp 37) (.tmp 39) 23 9 (.string ⟨#[]⟩) 16 rfl Tryz.underlying23 info9 rfl (by decide) (by omega) v183 y182 ((rd_T38 l0_0 x4_1).f3) _ _ _ (fun k_ => Nb k_ (.slice Ao10 y158.length co10) ∧ Nb k_ v168 ∧ Nb k_ v174 ∧ Nb k_ v180) (fun _ => False) rfl rfl ?aO ?aR (fun _ _ h => h) (fun _ h => h.elim) ?aF ?aB ?aS ?aL ?_
        (case aR => repeat (first | exact (Kd.C_below HR162_3.out HB.out) | (with_reducible refine Kd.C_alloc ?_ _) | (with_reducible refine Kd.C_drewN ?_ _) | (with_reducible refine Kd.C_drew ?_)))
        (case aB => exact HB.out)
        (case aF => exact (fun k_ hk => ⟨Kd.fresh' (Kd.R_lt O14.out) k_ hk, Kd.fresh' (Kd.R_lt O32.out) k_ hk, Kd.fresh' (Kd.R_lt O34.out) k_ hk, Kd.fresh' (Kd.R_lt O30.out) k_ hk⟩))
        (case aO => exact (Kd.R_mono O28.out (fun _ hk => ⟨hk.2.2.2, ⟨hk.1, ⟨hk.2.1, hk.2.2.1⟩⟩⟩)))
        (case aS => exact (below_size HB.out))
        (case aL => have := LMc20.out; omega)
        intro v186 w45 ho hb hg hat
        rw [← Ny185.out] at ho
        have n0 := ofA (Kd.S_after (ok := (fun k_ => Nb k_ (.slice Ao10 y158.length co10) ∧ Nb k_ v168 ∧ Nb k_ v174 ∧ Nb k_ v180)) (Kd.S_mono O13.out (fun _ hk => ⟨⟨hk.2.2.2.2, ⟨hk.1, ⟨hk.2.1, hk.2.2.1⟩⟩⟩, hk.2.2.2.1⟩)) hg hat)
        have n1 := ofA (Kd.R_after (ok := (fun k_ => Nb k_ v168 ∧ Nb k_ v174 ∧ Nb k_ v180)) (Kd.R_mono O14.out (fun _ hk => ⟨⟨hk.1, ⟨hk.2.1, hk.2.2.1⟩⟩, hk.2.2.2⟩)) hg hat)
        have n6 := ofA (Kd.R_after (ok := (fun k_ => Nb k_ (.slice Ao10 y158.length co10) ∧ Nb k_ v174 ∧ Nb k_ v180)) (Kd.R_mono O32.out (fun _ hk => ⟨⟨hk.2.2.2, ⟨hk.1, hk.2.1⟩⟩, hk.2.2.1⟩)) hg hat)
        have n7 := ofA (Kd.R_after (ok := (fun k_ => Nb k_ (.slice Ao10 y158.length co10) ∧ Nb k_ v168 ∧ Nb k_ v180)) (Kd.R_mono O34.out (fun _ hk => ⟨⟨hk.2.2.2, ⟨hk.1, hk.2.1⟩⟩, hk.2.2.1⟩)) hg hat)
        have n8 := ofA (Kd.R_after (ok := (fun k_ => Nb k_ (.slice Ao10 y158.length co10) ∧ Nb k_ v168 ∧ Nb k_ v174)) (Kd.R_mono O30.out (fun _ hk => ⟨⟨hk.2.2.2, ⟨hk.1, hk.2.1⟩⟩, hk.2.2.1⟩)) hg hat)
        have n9 := ofA (hb); have n10 := ofA (ho); replace BK153 := ofA (blk_grown BK153.out hg (Kd.R_ne O28.out BK153.out (by decide))); replace BK154 := ofA (blk_grown BK154.out hg (Kd.R_ne O28.out BK154.out (by decide))); replace BK161 := ofA (blk_grown BK161.out hg (Kd.R_ne O28.out BK161.out (by decide))); replace BK163 := ofA (blk_grown BK163.out hg (Kd.R_ne O28.out BK163.out (by decide))); clear O13 O14 O32 O34 O30 HB O28; have O13 := n0; have O14 := n1; have O32 := n6; have O34 := n7; have O30 := n8; have HB := n9; have O35 := n10; clear n0 n1 n6 n7 n8 n9 n10 ho hb hg hat
        obtain ⟨Ao46, co46, eo46⟩ := Kd.R_slice O35.out
        (first | subst eo46 | (injection eo46 with f1_ f2_ f3_; have f4_ := f1_.symm; have f5_ := f3_.symm; clear f1_ f2_ f3_; subst f4_; subst f5_))
        obtain ⟨Ao47, co47, eo47⟩ := Kd.R_slice O30.out
        (first | subst eo47 | (injection eo47 with f1_ f2_ f3_; have f4_ := f1_.symm; have f5_ := f3_.symm; clear f1_ f2_ f3_; subst f4_; subst f5_))
        obtain ⟨Ao48, co48, eo48⟩ := Kd.R_slice O34.out
        (first | subst eo48 | (injection eo48 with f1_ f2_ f3_; have f4_ := f1_.symm; have f5_ := f3_.symm; clear f1_ f2_ f3_; subst f4_; subst f5_))
        obtain ⟨Ao49, co49, eo49⟩ := Kd.R_slice O32.out
        (first | subst eo49 | (injection eo49 with f1_ f2_ f3_; have f4_ := f1_.symm; have f5_ := f3_.symm; clear f1_ f2_ f3_; subst f4_; subst f5_))
        refine hK.out _ _ (ofM BK161.out BK163.out) (fun hHeld => ?_)
        clear hK K
        refine norm_ (a' := ?_) ?_ ?_
        rotate_left
        · show Act.put _ (some 40) _ = _
          simp only [Act.put, List.setIfInBounds_toArray, List.set_cons_zero, List.set_cons_succ, i64_w, i32_w]
          rfl
        refine pure_ (i := 22) (N := some 45) (v := ?_) (a' := ?_) #[true, true, true, true, true, true, true, true, true, true, true, true, true, true, true, true, true, true, true, true, true, true, true, false, false, false, false] rfl rfl (any_of HT_.out (by kernel_rfl)) (fun _ _ _ h => h) (Or.inl ⟨by rfl, ?_⟩) ?_ ?_
        rotate_left
        · intro w'
          go_simp; with_reducible rfl
        rotate_left
        · simp only [Act.put, List.setIfInBounds_toArray, List.set_cons_zero, List.set_cons_succ, i64_w, i32_w]
          rfl
        refine one_ (i := 23) (N := some 46) #[true, true, true, true, true, true, true, true, true, true, true, true, true, true, true, true, true, true, true, true, true, true, true, true, false, false, false] rfl rfl (one_of HT_.out (by kernel_rfl)) (by decide) (fun K hK => ?_)
        refine value_ (w1 := ?_) (v := ?_) (by rfl) rfl ?_ ?_
        rotate_left 2
        · go_simp
          constructor
          · rfl
          · rfl
        refine hK.out _ _ ⟨(blk_cell (blk_alloc BK161.out _) 0).trans rfl, (blk_cell (blk_alloc BK161.out _) 1).trans rfl, (blk_cell (blk_alloc BK163.out _) 0).trans rfl, (blk_cell (blk_alloc BK163.out _) 1).trans rfl, (blk_cell (blk_alloc BK163.out _) 2).trans rfl, (blk_cell (blk_alloc BK163.out _) 3).trans rfl, (blk_cell (blk_alloc BK163.out _) 4).trans rfl, (blk_cell (blk_alloc BK163.out _) 5).trans rfl⟩ (fun hHeld => ?_)
        clear hK K
        refine norm_ (a' := ?_) ?_ ?_
        rotate_left
        · show Act.put _ (some 46) _ = _
          simp only [Act.put, List.setIfInBounds_toArray, List.set_cons_zero, List.set_cons_succ, i64_w, i32_w]
          rfl
        refine one_ (i := 24) (N := some 47) #[true, true, true, true, true, true, true, true, true, true, true, true, true, true, true, true, true, true, true, true, true, true, true, true, true, false, false] rfl rfl (one_of HT_.out (by kernel_rfl)) (by decide) (fun K hK => ?_)
        refine Kd.S_append_step k43 (w0 := w) w.heap.size (by rfl) (.tmp 24) (.tmp 46) 30 43 (.agg #[(.slice none 0 0), (.slice none 0 0), (.slice none 0 0), (.slice none 0 0), (.string ⟨#[]⟩), (.string ⟨#[]⟩)]) 128 rfl Tryz.underlying30 info43 rfl (by decide) (by omega) (.slice Ao30 x162000_1.length co30) x162000_1 (⟨y167, y173, y179, y185, (rd_T38 l0_0 x4_1).f4, (rd_T38 l0_0 x4_1).f5⟩ : S43) [.slice Ao49 y167.length co49, .slice Ao48 y173.length co48, .slice Ao47 y179.length co47, .slice Ao46 y185.length co46, .string ((rd_T38 l0_0 x4_1).f4), .string ((rd_T38 l0_0 x4_1).f5)] (fun k_ => Nb k_ (.slice Ao10 y158.length co10)) (fun k_ => some k_ = (.slice Ao49 y167.length co49 : Value).ownBlock ∨ some k_ = (.slice Ao48 y173.length co48 : Value).ownBlock ∨ some k_ = (.slice Ao47 y179.length co47 : Value).ownBlock ∨ some k_ = (.slice Ao46 y185.length co46 : Value).ownBlock) rfl rfl ?aP (fun k_ hk_ => hk_.elim (fun h_ => ((Kd.R_mono (ok' := fun k_ => ((fun k_ => Nb k_ (.slice Ao10 y158.length co10))) k_ ∧ Nb k_ (.slice Ao30 x162000_1.length co30)) (Kd.R_apart' (O32.out) (Kd.S_typed O13.out) (by decide)) (fun k_ hk => ⟨hk.1.1.1, hk.2⟩))).1 k_ h_.symm) (fun h_ => h_.elim (fun h_ => ((Kd.R_mono (ok' := fun k_ => ((fun k_ => Nb k_ (.slice Ao10 y158.length co10))) k_ ∧ Nb k_ (.slice Ao30 x162000_1.length co30)) (Kd.R_apart' (O34.out) (Kd.S_typed O13.out) (by decide)) (fun k_ hk => ⟨hk.1.1.1, hk.2⟩))).1 k_ h_.symm) (fun h_ => h_.elim (fun h_ => ((Kd.R_mono (ok' := fun k_ => ((fun k_ => Nb k_ (.slice Ao10 y158.length co10))) k_ ∧ Nb k_ (.slice Ao30 x162000_1.length co30)) (Kd.R_apart' (O30.out) (Kd.S_typed O13.out) (by decide)) (fun k_ hk => ⟨hk.1.1.1, hk.2⟩))).1 k_ h_.symm) (fun h_ => ((Kd.R_mono (ok' := fun k_ => ((fun k_ => Nb k_ (.slice Ao10 y158.length co10))) k_ ∧ Nb k_ (.slice Ao30 x162000_1.length co30)) (Kd.R_apart' (O35.out) (Kd.S_typed O13.out) (by decide)) (fun k_ hk => ⟨hk.1.1, hk.2⟩))).1 k_ h_.symm)))) ?aF ?aO ?aB ?aS ?aL ?_
        (case aP => exact k43_mkM _ _ _ (⟨y167, y173, y179, y185, (rd_T38 l0_0 x4_1).f4, (rd_T38 l0_0 x4_1).f5⟩ : S43) (Kd.R_mono (Kd.R_tight rfl (Kd.R_mono (ok' := fun k_ => ((fun k_ => Nb k_ (.slice Ao10 y158.length co10))) k_ ∧ Nb k_ (.slice Ao30 x162000_1.length co30)) (Kd.R_apart' (O32.out) (Kd.S_typed O13.out) (by decide)) (fun k_ hk => ⟨hk.1.1.1, hk.2⟩))) (fun _ h_ => Or.inl h_)) (Kd.R_mono (Kd.R_tight rfl (Kd.R_mono (ok' := fun k_ => ((fun k_ => Nb k_ (.slice Ao10 y158.length co10))) k_ ∧ Nb k_ (.slice Ao30 x162000_1.length co30)) (Kd.R_apart' (O34.out) (Kd.S_typed O13.out) (by decide)) (fun k_ hk => ⟨hk.1.1.1, hk.2⟩))) (fun _ h_ => Or.inr (Or.inl h_))) (Kd.R_mono (Kd.R_tight rfl (Kd.R_mono (ok' := fun k_ => ((fun k_ => Nb k_ (.slice Ao10 y158.length co10))) k_ ∧ Nb k_ (.slice Ao30 x162000_1.length co30)) (Kd.R_apart' (O30.out) (Kd.S_typed O13.out) (by decide)) (fun k_ hk => ⟨hk.1.1.1, hk.2⟩))) (fun _ h_ => Or.inr (Or.inr (Or.inl h_)))) (Kd.R_mono (Kd.R_tight rfl (Kd.R_mono (ok' := fun k_ => ((fun k_ => Nb k_ (.slice Ao10 y158.length co10))) k_ ∧ Nb k_ (.slice Ao30 x162000_1.length co30)) (Kd.R_apart' (O35.out) (Kd.S_typed O13.out) (by decide)) (fun k_ hk => ⟨hk.1.1, hk.2⟩))) (fun _ h_ => Or.inr (Or.inr (Or.inr (h_))))))
        (case aB => exact HB.out)
        (case aF => exact (fun k_ hk => Kd.fresh' (Kd.R_lt O14.out) k_ hk))
        (case aO => exact (by (with_reducible repeat (first | apply Kd.S_alloc | apply Kd.S_drewN | apply Kd.S_drew)); exact Kd.S_mono O13.out (fun k_ hk => ⟨hk.1.1, fun e_ => e_.elim (fun h_ => hk.1.2.1 h_) (fun h_ => h_.elim (fun h_ => hk.1.2.2.1 h_) (fun h_ => h_.elim (fun h_ => hk.1.2.2.2 h_) (fun h_ => hk.2 h_)))⟩)))
        (case aS => exact (below_size HB.out))
        (case aL => have := LMc21.out; omega)
        intro v189 w50 ho hb hg hat
        rw [← Ny188.out] at ho
        have n0 := ofA (Kd.R_over' O14.out (Kd.S_typed O13.out) (by decide) hg); have n5 := ofA (hb); have n6 := ofA (ho); replace BK153 := ofA (blk_grown BK153.out hg (Kd.S_ne O13.out BK153.out (by decide))); replace BK154 := ofA (blk_grown BK154.out hg (Kd.S_ne O13.out BK154.out (by decide))); replace BK161 := ofA (blk_grown BK161.out hg (Kd.S_ne O13.out BK161.out (by decide))); replace BK163 := ofA (blk_grown BK163.out hg (Kd.S_ne O13.out BK163.out (by decide))); clear O14 HB O13 O32 O34 O30 O35; have O14 := n0; have HB := n5; have O27 := n6; clear n0 n5 n6 ho hb hg hat
        obtain ⟨Ao51, co51, eo51⟩ := Kd.S_slice O27.out
        (first | subst eo51 | (injection eo51 with f1_ f2_ f3_; have f4_ := f1_.symm; have f5_ := f3_.symm; clear f1_ f2_ f3_; subst f4_; subst f5_))
        refine hK.out _ _ (ofM BK161.out BK163.out) (fun hHeld => ?_)
        clear hK K
        refine norm_ (a' := ?_) ?_ ?_
        rotate_left
        · show Act.put _ (some 47) _ = _
          simp only [Act.put, List.setIfInBounds_toArray, List.set_cons_zero, List.set_cons_succ, i64_w, i32_w]
          rfl
        refine pure_ (i := 25) (N := some 48) (v := ?_) (a' := ?_) #[true, true, true, true, true, true, true, true, true, true, true, true, true, true, true, true, true, true, true, true, true, true, true, true, true, true, false] rfl rfl (any_of HT_.out (by kernel_rfl)) (fun _ _ _ h => h) (Or.inl ⟨by rfl, ?_⟩) ?_ ?_
        rotate_left
        · intro w'
          go_simp; with_reducible rfl
        rotate_left
        · simp only [Act.put, List.setIfInBounds_toArray, List.set_cons_zero, List.set_cons_succ, i64_w, i32_w]
          rfl
        refine last_ (i := 26) (N := none) #[true, true, true, true, true, true, true, true, true, true, true, true, true, true, true, true, true, true, true, true, true, true, true, true, true, true, true] rfl rfl (one_of HT_.out (by kernel_rfl)) (by decide) (fun K hK => ?_)
        have hs52 : w50.cell? ⟨gb161, 0, none⟩ = some (.slice Ao30 x162000_1.length co30) := (blk_cell BK161.out 0).trans rfl
        have hfs52 := blk_frozen BK161.out 0
        have hns52_0 := NB153_161.out
        have hns52_1 := NB154_161.out
        have hns52_3 := NB163_161.out
        have hms52_0 := NB161_153.out
        have hms52_1 := NB161_154.out
        have hms52_3 := NB161_163.out
        refine skip_ (w1 := ?_) (by rfl) rfl ?_ ?_
        rotate_left
        · go_simp
          rfl
        refine hK.out _ _ ?_
        clear hK K
        refine done_ (done_of HT_.out (by kernel_rfl)) ?_
        try go_wp2
        go_roundg k1
        case measure => have := HK1.out; omega
        case rel => exact ⟨(wrap64 (x4_1 + 1)), (y188), (.slice Ao51 y188.length co51), (by first | rfl | (simp; done) | (simp [*]; done)), H', ⟨by have := HK1.out; omega⟩, ⟨by (with_reducible repeat (first | apply Kd.S_alloc | apply Kd.S_drewN | apply Kd.S_drew)); exact Kd.S_mono (Kd.S_far (p := ⟨gb161, 0, none⟩) (Kd.S_types O27.out BK161.out (by decide)) (fun _ hk => hk.2) (.slice Ao51 y188.length co51)) (fun _ hk => hk.1)⟩, ⟨by (with_reducible repeat (first | apply Kd.R_alloc | apply Kd.R_drewN | apply Kd.R_drew)); exact Kd.R_mono (Kd.R_far (p := ⟨gb161, 0, none⟩) (Kd.R_types O14.out BK161.out (by decide)) (fun _ hk => hk.2) (.slice Ao51 y188.length co51)) (fun _ hk => trivial)⟩, ⟨by (with_reducible repeat (first | refine blk_drewN ?_ _ | refine blk_drew ?_ | refine blk_alloc ?_ _)); refine blk_far ?_ NB153_161.out _; (with_reducible repeat (first | refine blk_drewN ?_ _ | refine blk_drew ?_ | refine blk_alloc ?_ _)); exact BK153.out⟩, ⟨by (with_reducible repeat (first | refine blk_drewN ?_ _ | refine blk_drew ?_ | refine blk_alloc ?_ _)); refine blk_far ?_ NB154_161.out _; (with_reducible repeat (first | refine blk_drewN ?_ _ | refine blk_drew ?_ | refine blk_alloc ?_ _)); exact BK154.out⟩, ⟨by (with_reducible repeat (first | refine blk_drewN ?_ _ | refine blk_drew ?_ | refine blk_alloc ?_ _)); refine blk_put (cs := #[.slice Ao30 x162000_1.length co30, .slice Ao10 y158.length co10]) ?_ 0 _ rfl; (with_reducible repeat (first | refine blk_drewN ?_ _ | refine blk_drew ?_ | refine blk_alloc ?_ _)); exact BK161.out⟩, ⟨by repeat (first | (with_reducible first | exact HB.out | apply below_alloc | apply pw_below_drewN | apply below_drew1 | refine below_set ?_ GE153.out | refine below_set ?_ GE154.out | refine below_set ?_ GE161.out | refine below_set ?_ GE163.out) | exact HB.out)⟩⟩
      · rw [if_neg c15] at H
        have c15b0 : decide (x4_1 < (l0_0.length : Int)) = false := decide_eq_false c15
        clear c15
        simp only [Option.some.injEq, Prod.mk.injEq] at H
        obtain ⟨rfl, rfl⟩ := H
        have hnb53 := NB153_154.out
        have hnc53 := NB154_153.out
        have hnb54 := NB153_161.out
        have hnc54 := NB161_153.out
        have hcz55_0 : wr.cell? ⟨gb153, 0, none⟩ = some (.slice A0_0 l0_0.length c0_0) := (blk_cell BK153.out 0).trans rfl
        have hcz55_1 : wr.cell? ⟨gb153, 1, none⟩ = some (.slice A0_1 l0_1.length c0_1) := (blk_cell BK153.out 1).trans rfl
        have hfz55_0 := blk_frozen BK153.out 0
        have hfz55_1 := blk_frozen BK153.out 1
        have hnb56 := NB161_154.out
        have hnc56 := NB154_161.out
        have hcz57_0 : wr.cell? ⟨gb161, 0, none⟩ = some (u162000) := (blk_cell BK161.out 0).trans rfl
        have hcz57_1 : wr.cell? ⟨gb161, 1, none⟩ = some (.slice Ao10 y158.length co10) := (blk_cell BK161.out 1).trans rfl
        have hfz57_0 := blk_frozen BK161.out 0
        have hfz57_1 := blk_frozen BK161.out 1
        obtain ⟨Ao58, co58, eo58⟩ := Kd.S_slice O13.out
        subst eo58
        have hcz59_0 : wr.cell? ⟨gb154, 0, none⟩ = some (.slice none 0 0) := (blk_cell BK154.out 0).trans rfl
        have hcz59_1 : wr.cell? ⟨gb154, 1, none⟩ = some (.slice none 0 0) := (blk_cell BK154.out 1).trans rfl
        have hfz59_0 := blk_frozen BK154.out 0
        have hfz59_1 := blk_frozen BK154.out 1
        go_wp2
        refine bodyPost_ret (results_cell_row rfl _ _ gb154 32 #[.slice Ao58 x162000_1.length co58, .slice Ao10 y158.length co10] (0, 0) _ rfl (by (with_reducible repeat (first | refine blk_drewN ?_ _ | refine blk_drew ?_ | refine blk_alloc ?_ _)); refine blk_put (cs := #[.slice Ao58 x162000_1.length co58, .slice none 0 0]) ?_ 1 _ rfl; (with_reducible repeat (first | refine blk_drewN ?_ _ | refine blk_drew ?_ | refine blk_alloc ?_ _)); refine blk_put (cs := #[.slice none 0 0, .slice none 0 0]) ?_ 0 _ rfl; (with_reducible repeat (first | refine blk_drewN ?_ _ | refine blk_drew ?_ | refine blk_alloc ?_ _)); exact BK154.out) Tryz.underlying32 rfl (by kernel_rfl)) rfl ?_
        exact ⟨_, _, by first | rfl | (simp [errW_none, errW_some] <;> rfl) | (simp [*, errW_none, errW_some] <;> rfl), by (with_reducible repeat (first | apply Kd.S_alloc | apply Kd.S_drewN | apply Kd.S_drew)); exact Kd.S_mono (Kd.S_far (p := ⟨gb154, 1, none⟩) (Kd.S_far (p := ⟨gb154, 0, none⟩) (Kd.S_types O13.out BK154.out (by decide)) (fun _ hk => hk.2) (.slice Ao58 x162000_1.length co58)) (fun _ hk => hk.2) (.slice Ao10 y158.length co10)) (fun _ hk => hk.1), by (with_reducible repeat (first | apply Kd.R_alloc | apply Kd.R_drewN | apply Kd.R_drew)); exact Kd.R_mono (Kd.R_far (p := ⟨gb154, 1, none⟩) (Kd.R_far (p := ⟨gb154, 0, none⟩) (Kd.R_types O14.out BK154.out (by decide)) (fun _ hk => hk.2) (.slice Ao58 x162000_1.length co58)) (fun _ hk => hk.2) (.slice Ao10 y158.length co10)) (fun _ hk => trivial), by repeat (first | (with_reducible first | exact HB.out | apply below_alloc | apply pw_below_drewN | apply below_drew1 | refine below_set ?_ GE153.out | refine below_set ?_ GE154.out | refine below_set ?_ GE161.out) | exact HB.out)⟩
end Go.Proofs.YtapdchapjpnceaaGreatDoor.P
end
