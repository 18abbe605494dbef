/- PrintTells: the text of any manifest, or that it may not be printed: the row, tied, holds as it is given; no condition is added. -/
import Derived.Test.YtapdchapjpnceaaGreatDoorZ6
import Derived.ChangeSlices
import Derived.ChangeArms
import Derived.ProofKit
import Derived.KernelRfl
import Derived.Test.YtapdchapjpnceaaGreatDoorProg
import Derived.Test.YtapdchapjpnceaaGreatDoorRows
import Derived.WalkKit
import Derived.OpenShut
import Derived.ShutString
import Derived.ChangeOld
import Derived.Below
import Derived.SizedLaws
import Derived.Carry
import Derived.LaidMore
import Derived.Lay
import Derived.SevenTiedAt
import Derived.Stop.Joined
import Derived.Test.YtapdchapjpnceaaGreatDoorTie
import Derived.Test.YtapdchapjpnceaaGreatDoorCards
section
namespace Go.Proofs.YtapdchapjpnceaaGreatDoor.P
open Go.RowKit Go.Proofs.YtapdchapjpnceaaGreatDoorW.PrintWords Go.Proofs.YtapdchapjpnceaaGreatDoorW.PrintLast Go.Proofs.YtapdchapjpnceaaGreatDoorW.PrintMore
attribute [local go_sem] max2_int min2_int max_two min_two max_three min_three max_four min_four
set_option linter.unusedVariables false
set_option linter.unusedSimpArgs false
def bellowslaw12_awake.f  : Option (Bool) := (print_Print.f (([(⟨(([(⟨#[97]⟩ : ByteArray)] : List ByteArray)), (([(⟨#[98]⟩ : ByteArray)] : List ByteArray)), ([] : List ByteArray), ([] : List ByteArray), (⟨#[99]⟩ : ByteArray), (⟨#[]⟩ : ByteArray)⟩ : S43)] : List (S43))) ([] : List ByteArray)).bind fun bt222 => (if bt222.2 = 0 then (some (bt222.1.toList == ([114, 117, 108, 101, 32, 114, 48, 10, 32, 32, 99, 111, 109, 109, 97, 110, 100, 32, 61, 32, 99, 10, 98, 117, 105, 108, 100, 32, 97, 58, 32, 114, 48, 32, 98, 10] : List UInt8))) else (some false))
set_option maxHeartbeats 8000000 in
set_option maxRecDepth 100000 in
theorem bellowslaw12_awake.calls  (r : Bool) (w : World) (h : bellowslaw12_awake.f  = some r) :
    Calls Tryz.prog 9 #[] w fun e w' => e = .returned (.bool r) ∧ Below w.heap.size w w' := by
  have hu43 := Tryz.underlying43
  have hu32 := Tryz.underlying32
  have HB := Aside0.mk (Below.refl w.heap.size w)
  have H : ((print_Print.f (([(⟨(([(⟨#[97]⟩ : ByteArray)] : List ByteArray)), (([(⟨#[98]⟩ : ByteArray)] : List ByteArray)), ([] : List ByteArray), ([] : List ByteArray), (⟨#[99]⟩ : ByteArray), (⟨#[]⟩ : ByteArray)⟩ : S43)] : List (S43))) ([] : List ByteArray)).bind fun bt222 => (if bt222.2 = 0 then (some (bt222.1.toList == ([114, 117, 108, 101, 32, 114, 48, 10, 32, 32, 99, 111, 109, 109, 97, 110, 100, 32, 61, 32, 99, 10, 98, 117, 105, 108, 100, 32, 97, 58, 32, 114, 48, 32, 98, 10] : List UInt8))) else (some false))) = some r := h
  clear h
  obtain ⟨y213, hy213⟩ : ∃ y_ : List ByteArray, y_ = (([(⟨#[97]⟩ : ByteArray)] : List ByteArray)) := ⟨_, rfl⟩
  replace H : ((print_Print.f (([(⟨y213, (([(⟨#[98]⟩ : ByteArray)] : List ByteArray)), ([] : List ByteArray), ([] : List ByteArray), (⟨#[99]⟩ : ByteArray), (⟨#[]⟩ : ByteArray)⟩ : S43)] : List (S43))) ([] : List ByteArray)).bind fun bt222 => (if bt222.2 = 0 then (some (bt222.1.toList == ([114, 117, 108, 101, 32, 114, 48, 10, 32, 32, 99, 111, 109, 109, 97, 110, 100, 32, 61, 32, 99, 10, 98, 117, 105, 108, 100, 32, 97, 58, 32, 114, 48, 32, 98, 10] : List UInt8))) else (some false))) = some r := by first | (rw [hy213]; with_reducible exact H) | (have H2_ := (Option.bind_some _ _).symm.trans H; rw [hy213]; with_reducible exact H2_) | (have H2_ := (Option.bind_some _ _).symm.trans H; with_reducible exact H2_) | with_reducible exact H | (rw [hy213]; exact H) | exact H
  have Ny213 := Aside0.mk hy213
  clear hy213
  obtain ⟨y216, hy216⟩ : ∃ y_ : List ByteArray, y_ = (([(⟨#[98]⟩ : ByteArray)] : List ByteArray)) := ⟨_, rfl⟩
  replace H : ((print_Print.f (([(⟨y213, y216, ([] : List ByteArray), ([] : List ByteArray), (⟨#[99]⟩ : ByteArray), (⟨#[]⟩ : ByteArray)⟩ : S43)] : List (S43))) ([] : List ByteArray)).bind fun bt222 => (if bt222.2 = 0 then (some (bt222.1.toList == ([114, 117, 108, 101, 32, 114, 48, 10, 32, 32, 99, 111, 109, 109, 97, 110, 100, 32, 61, 32, 99, 10, 98, 117, 105, 108, 100, 32, 97, 58, 32, 114, 48, 32, 98, 10] : List UInt8))) else (some false))) = some r := by first | (rw [hy216]; with_reducible exact H) | (have H2_ := (Option.bind_some _ _).symm.trans H; rw [hy216]; with_reducible exact H2_) | (have H2_ := (Option.bind_some _ _).symm.trans H; with_reducible exact H2_) | with_reducible exact H | (rw [hy216]; exact H) | exact H
  have Ny216 := Aside0.mk hy216
  clear hy216
  obtain ⟨y219, hy219⟩ : ∃ y_ : List (S43), y_ = (([(⟨y213, y216, ([] : List ByteArray), ([] : List ByteArray), (⟨#[99]⟩ : ByteArray), (⟨#[]⟩ : ByteArray)⟩ : S43)] : List (S43))) := ⟨_, rfl⟩
  replace H : ((print_Print.f y219 ([] : List ByteArray)).bind fun bt222 => (if bt222.2 = 0 then (some (bt222.1.toList == ([114, 117, 108, 101, 32, 114, 48, 10, 32, 32, 99, 111, 109, 109, 97, 110, 100, 32, 61, 32, 99, 10, 98, 117, 105, 108, 100, 32, 97, 58, 32, 114, 48, 32, 98, 10] : List UInt8))) else (some false))) = some r := by first | (rw [hy219]; with_reducible exact H) | (have H2_ := (Option.bind_some _ _).symm.trans H; rw [hy219]; with_reducible exact H2_) | (have H2_ := (Option.bind_some _ _).symm.trans H; with_reducible exact H2_) | with_reducible exact H | (rw [hy219]; exact H) | exact H
  have Ny219 := Aside0.mk hy219
  clear hy219
  replace H := Option.bind_eq_some_iff.mp H
  obtain ⟨⟨t222, t223⟩, A10, H⟩ := H
  replace H : (if t223 = 0 then (some (t222.toList == ([114, 117, 108, 101, 32, 114, 48, 10, 32, 32, 99, 111, 109, 109, 97, 110, 100, 32, 61, 32, 99, 10, 98, 117, 105, 108, 100, 32, 97, 58, 32, 114, 48, 32, 98, 10] : List UInt8))) else (some false)) = some r := H
  have A1 := Aside0.mk A10
  clear A10
  by_cases c2 : t223 = 0
  · rw [if_pos c2] at H
    have c2b0 : (t223 == 0) = true := beq_iff_eq.mpr c2
    have c2b1 : (t223 != 0) = false := bne_eq_false_iff_eq.mpr c2
    clear c2
    obtain rfl := Option.some.inj H
    go_enter Tryz.func9, Tryz.ntmps9
    go_wp2_with (first | ((with_reducible refine gate_dst (N := 4) rfl ?_); refine Kd.R_lit Kd.string _ 9 ?hg (N := 4) ?hd (xs := ([(⟨#[97]⟩ : ByteArray)] : List ByteArray)) (inner := [.string (⟨#[97]⟩ : ByteArray)]) (ok := fun _ => True) (okp := fun _ => True) ?hr ?hp (fun _ hk => hk) trivial (Below.refl _ _) (Nat.le_refl _) (by simp) ?_; (case hd => rfl); (case hg => rfl); (case hr => first | (go_simp; done) | (go_simp; rfl)); (case hp => exact (Reps.one (show Kd.M Kd.string _ _ _ (⟨#[97]⟩ : ByteArray) [.string (⟨#[97]⟩ : ByteArray)] from rfl) (Reps.none _ _))); intro v214 w3 ho4 hb hg_ hnew_; clear hg_ hnew_; (first | rw [← Ny213.out] at ho4 | (simp only [Int.reduceToNat] at ho4; rw [← Ny213.out] at ho4)); have n0_ := Aside0.mk (Kd.R_lower ho4 (below_size (by repeat (first | (with_reducible first | exact HB.out | apply below_alloc | apply pw_below_drewN | apply below_drew1) | exact HB.out)))); have n1_ := Aside0.mk (below_step (by repeat (first | (with_reducible first | exact HB.out | apply below_alloc | apply pw_below_drewN | apply below_drew1) | exact HB.out)) hb); clear HB; have HO215 := n0_; have HB := n1_; clear n0_ n1_; clear hb ho4) | ((with_reducible refine gate_dst (N := 5) rfl ?_); refine Kd.R_lit Kd.string _ 9 ?hg (N := 5) ?hd (xs := ([(⟨#[98]⟩ : ByteArray)] : List ByteArray)) (inner := [.string (⟨#[98]⟩ : ByteArray)]) (ok := fun _ => True) (okp := fun _ => True) ?hr ?hp (fun _ hk => hk) trivial (Below.refl _ _) (Nat.le_refl _) (by simp) ?_; (case hd => rfl); (case hg => rfl); (case hr => first | (go_simp; done) | (go_simp; rfl)); (case hp => exact (Reps.one (show Kd.M Kd.string _ _ _ (⟨#[98]⟩ : ByteArray) [.string (⟨#[98]⟩ : ByteArray)] from rfl) (Reps.none _ _))); intro v217 w5 ho6 hb hg_ hnew_; clear hg_ hnew_; (first | rw [← Ny216.out] at ho6 | (simp only [Int.reduceToNat] at ho6; rw [← Ny216.out] at ho6)); have n0_ := Aside0.mk (Kd.R_elder' (by (with_reducible repeat (first | apply Kd.R_alloc | apply Kd.R_drewN | apply Kd.R_drew)); exact HO215.out) (Kd.R_base ho6) hb); have n1_ := Aside0.mk (Kd.R_lower (Kd.R_new' ho6 (Kd.R_lt (by (with_reducible repeat (first | apply Kd.R_alloc | apply Kd.R_drewN | apply Kd.R_drew)); exact HO215.out))) (below_size (by repeat (first | (with_reducible first | exact HB.out | apply below_alloc | apply pw_below_drewN | apply below_drew1) | exact HB.out)))); have n2_ := Aside0.mk (below_step (by repeat (first | (with_reducible first | exact HB.out | apply below_alloc | apply pw_below_drewN | apply below_drew1) | exact HB.out)) hb); clear HO215; clear HB; have HO215 := n0_; have HO218 := n1_; have HB := n2_; clear n0_ n1_ n2_; clear hb ho6; obtain ⟨Ao7, co7, eo7⟩ := Kd.R_slice HO218.out; subst eo7; obtain ⟨Ao8, co8, eo8⟩ := Kd.R_slice HO215.out; subst eo8) | ((with_reducible refine gate_dst (N := 7) rfl ?_); refine Kd.N_lit k43 _ 43 ?hg (N' := 7) ?hd (xs := ([(⟨y213, y216, ([] : List ByteArray), ([] : List ByteArray), (⟨#[99]⟩ : ByteArray), (⟨#[]⟩ : ByteArray)⟩ : S43)] : List (S43))) (inner := [.slice Ao8 y213.length co8, .slice Ao7 y216.length co7, .slice none 0 0, .slice none 0 0, .string (⟨#[99]⟩ : ByteArray), .string (⟨#[]⟩ : ByteArray)]) (ok := (fun _ => True)) (okp := (fun _ => True)) ?hr ?hp (fun _ hk => hk) ((show ∀ k_, w5.heap.size ≤ k_ → (fun _ => True) k_ from fun k_ hk => trivial) _ (Nat.le_refl _)) (Below.refl _ _) (Nat.le_refl _) (by simp) ?_; (case hd => rfl); (case hg => rfl); (case hr => first | (go_simp; done) | (go_simp; rfl)); (case hp => exact (Reps.c6 (show Kd.FK k43 _ _ (⟨y213, y216, ([] : List ByteArray), ([] : List ByteArray), (⟨#[99]⟩ : ByteArray), (⟨#[]⟩ : ByteArray)⟩ : S43) [.slice Ao8 y213.length co8, .slice Ao7 y216.length co7, .slice none 0 0, .slice none 0 0, .string (⟨#[99]⟩ : ByteArray), .string (⟨#[]⟩ : ByteArray)] from (k43_mkF _ _ (⟨y213, y216, ([] : List ByteArray), ([] : List ByteArray), (⟨#[99]⟩ : ByteArray), (⟨#[]⟩ : ByteArray)⟩ : S43) (Kd.R_reads' (Kd.R_mono (ok' := (fun _ => True)) (HO215.out) (fun k_ hk => trivial))).2.1 (Kd.R_F (Kd.R_mono (ok' := (fun _ => True)) (HO215.out) (fun k_ hk => trivial))) (Kd.R_reads' (Kd.R_mono (ok' := (fun _ => True)) (HO218.out) (fun k_ hk => trivial))).2.1 (Kd.R_F (Kd.R_mono (ok' := (fun _ => True)) (HO218.out) (fun k_ hk => trivial))) (Nat.le_refl _) (Kd.F_nil _ _ _) (Nat.le_refl _) (Kd.F_nil _ _ _))) (Reps.none _ _))); intro v220 w9 ho10 hb hg_ hnew_; clear hg_ hnew_; (first | rw [← Ny219.out] at ho10 | (simp only [Int.reduceToNat] at ho10; rw [← Ny219.out] at ho10)); have n0_ := Aside0.mk (Kd.N_lower ho10 (below_size (by repeat (first | (with_reducible first | exact HB.out | apply below_alloc | apply pw_below_drewN | apply below_drew1) | exact HB.out)))); have n1_ := Aside0.mk (below_step (by repeat (first | (with_reducible first | exact HB.out | apply below_alloc | apply pw_below_drewN | apply below_drew1) | exact HB.out)) hb); clear HB; clear HO215; clear HO218; have HO221 := n0_; have HB := n1_; clear n0_ n1_; clear hb ho10; obtain ⟨Ao11, co11, eo11⟩ := Kd.N_slice HO221.out; subst eo11) | ((with_reducible refine gate_callee (f := 5) rfl ?_); refine goesL_ (some 9) rfl rfl Tryz.func5 (by kernel_rfl) rfl #[.agg #[.slice Ao11 y219.length co11, .slice none 0 0]] rfl (by (try simp only [List.map_toArray, List.map_cons, List.map_nil]); first | done | rfl | (simp only [List.length_drop, List.length_take]; rfl)) ?_; (refine (print_Print.calls _ _ y219 _ _ ([] : List ByteArray) t222 t223 _ ?side1 ?side2 ?side3 ?side4 A1.out).mono ?_); (case side1 => repeat (first | exact (Kd.N_reads' HO221.out).2.2 | (with_reducible refine Kd.C_alloc ?_ _) | (with_reducible refine Kd.C_drewN ?_ _) | (with_reducible refine Kd.C_drew ?_))); (case side2 => exact (Kd.N_reads' HO221.out).2.1); (case side3 => exact Kd.C_nil _ _); (case side4 => exact Nat.le_refl _); rintro e w12 ⟨rfl, hb⟩; refine ⟨_, rfl, ?_⟩; have n0_ := Aside0.mk (Kd.N_below (by (with_reducible repeat (first | apply Kd.N_alloc | apply Kd.N_drewN | apply Kd.N_drew)); exact HO221.out) hb); have n1_ := Aside0.mk (below_step (by repeat (first | (with_reducible first | exact HB.out | apply below_alloc | apply pw_below_drewN | apply below_drew1) | exact HB.out)) hb); clear HO221; clear HB; have HO221 := n0_; have HB := n1_; clear n0_ n1_; (try clear hb); (try clear hb2); (try clear hk); (try clear hi)))
    go_ret
    exact ⟨by first | rfl | (simp [errW_none, errW_some] <;> rfl) | (simp [*, errW_none, errW_some] <;> rfl), by repeat (first | (with_reducible first | exact HB.out | apply below_alloc | apply pw_below_drewN | apply below_drew1) | exact HB.out)⟩
  · rw [if_neg c2] at H
    have c2b0 : (t223 == 0) = false := beq_eq_false_iff_ne.mpr c2
    have c2b1 : (t223 != 0) = true := bne_iff_ne.mpr c2
    obtain rfl := Option.some.inj H
    go_enter Tryz.func9, Tryz.ntmps9
    go_wp2_with (first | ((with_reducible refine gate_dst (N := 4) rfl ?_); refine Kd.R_lit Kd.string _ 9 ?hg (N := 4) ?hd (xs := ([(⟨#[97]⟩ : ByteArray)] : List ByteArray)) (inner := [.string (⟨#[97]⟩ : ByteArray)]) (ok := fun _ => True) (okp := fun _ => True) ?hr ?hp (fun _ hk => hk) trivial (Below.refl _ _) (Nat.le_refl _) (by simp) ?_; (case hd => rfl); (case hg => rfl); (case hr => first | (go_simp; done) | (go_simp; rfl)); (case hp => exact (Reps.one (show Kd.M Kd.string _ _ _ (⟨#[97]⟩ : ByteArray) [.string (⟨#[97]⟩ : ByteArray)] from rfl) (Reps.none _ _))); intro v214 w13 ho14 hb hg_ hnew_; clear hg_ hnew_; (first | rw [← Ny213.out] at ho14 | (simp only [Int.reduceToNat] at ho14; rw [← Ny213.out] at ho14)); have n0_ := Aside0.mk (Kd.R_lower ho14 (below_size (by repeat (first | (with_reducible first | exact HB.out | apply below_alloc | apply pw_below_drewN | apply below_drew1) | exact HB.out)))); have n1_ := Aside0.mk (below_step (by repeat (first | (with_reducible first | exact HB.out | apply below_alloc | apply pw_below_drewN | apply below_drew1) | exact HB.out)) hb); clear HB; have HO215 := n0_; have HB := n1_; clear n0_ n1_; clear hb ho14) | ((with_reducible refine gate_dst (N := 5) rfl ?_); refine Kd.R_lit Kd.string _ 9 ?hg (N := 5) ?hd (xs := ([(⟨#[98]⟩ : ByteArray)] : List ByteArray)) (inner := [.string (⟨#[98]⟩ : ByteArray)]) (ok := fun _ => True) (okp := fun _ => True) ?hr ?hp (fun _ hk => hk) trivial (Below.refl _ _) (Nat.le_refl _) (by simp) ?_; (case hd => rfl); (case hg => rfl); (case hr => first | (go_simp; done) | (go_simp; rfl)); (case hp => exact (Reps.one (show Kd.M Kd.string _ _ _ (⟨#[98]⟩ : ByteArray) [.string (⟨#[98]⟩ : ByteArray)] from rfl) (Reps.none _ _))); intro v217 w15 ho16 hb hg_ hnew_; clear hg_ hnew_; (first | rw [← Ny216.out] at ho16 | (simp only [Int.reduceToNat] at ho16; rw [← Ny216.out] at ho16)); have n0_ := Aside0.mk (Kd.R_elder' (by (with_reducible repeat (first | apply Kd.R_alloc | apply Kd.R_drewN | apply Kd.R_drew)); exact HO215.out) (Kd.R_base ho16) hb); have n1_ := Aside0.mk (Kd.R_lower (Kd.R_new' ho16 (Kd.R_lt (by (with_reducible repeat (first | apply Kd.R_alloc | apply Kd.R_drewN | apply Kd.R_drew)); exact HO215.out))) (below_size (by repeat (first | (with_reducible first | exact HB.out | apply below_alloc | apply pw_below_drewN | apply below_drew1) | exact HB.out)))); have n2_ := Aside0.mk (below_step (by repeat (first | (with_reducible first | exact HB.out | apply below_alloc | apply pw_below_drewN | apply below_drew1) | exact HB.out)) hb); clear HO215; clear HB; have HO215 := n0_; have HO218 := n1_; have HB := n2_; clear n0_ n1_ n2_; clear hb ho16; obtain ⟨Ao17, co17, eo17⟩ := Kd.R_slice HO218.out; subst eo17; obtain ⟨Ao18, co18, eo18⟩ := Kd.R_slice HO215.out; subst eo18) | ((with_reducible refine gate_dst (N := 7) rfl ?_); refine Kd.N_lit k43 _ 43 ?hg (N' := 7) ?hd (xs := ([(⟨y213, y216, ([] : List ByteArray), ([] : List ByteArray), (⟨#[99]⟩ : ByteArray), (⟨#[]⟩ : ByteArray)⟩ : S43)] : List (S43))) (inner := [.slice Ao18 y213.length co18, .slice Ao17 y216.length co17, .slice none 0 0, .slice none 0 0, .string (⟨#[99]⟩ : ByteArray), .string (⟨#[]⟩ : ByteArray)]) (ok := (fun _ => True)) (okp := (fun _ => True)) ?hr ?hp (fun _ hk => hk) ((show ∀ k_, w15.heap.size ≤ k_ → (fun _ => True) k_ from fun k_ hk => trivial) _ (Nat.le_refl _)) (Below.refl _ _) (Nat.le_refl _) (by simp) ?_; (case hd => rfl); (case hg => rfl); (case hr => first | (go_simp; done) | (go_simp; rfl)); (case hp => exact (Reps.c6 (show Kd.FK k43 _ _ (⟨y213, y216, ([] : List ByteArray), ([] : List ByteArray), (⟨#[99]⟩ : ByteArray), (⟨#[]⟩ : ByteArray)⟩ : S43) [.slice Ao18 y213.length co18, .slice Ao17 y216.length co17, .slice none 0 0, .slice none 0 0, .string (⟨#[99]⟩ : ByteArray), .string (⟨#[]⟩ : ByteArray)] from (k43_mkF _ _ (⟨y213, y216, ([] : List ByteArray), ([] : List ByteArray), (⟨#[99]⟩ : ByteArray), (⟨#[]⟩ : ByteArray)⟩ : S43) (Kd.R_reads' (Kd.R_mono (ok' := (fun _ => True)) (HO215.out) (fun k_ hk => trivial))).2.1 (Kd.R_F (Kd.R_mono (ok' := (fun _ => True)) (HO215.out) (fun k_ hk => trivial))) (Kd.R_reads' (Kd.R_mono (ok' := (fun _ => True)) (HO218.out) (fun k_ hk => trivial))).2.1 (Kd.R_F (Kd.R_mono (ok' := (fun _ => True)) (HO218.out) (fun k_ hk => trivial))) (Nat.le_refl _) (Kd.F_nil _ _ _) (Nat.le_refl _) (Kd.F_nil _ _ _))) (Reps.none _ _))); intro v220 w19 ho20 hb hg_ hnew_; clear hg_ hnew_; (first | rw [← Ny219.out] at ho20 | (simp only [Int.reduceToNat] at ho20; rw [← Ny219.out] at ho20)); have n0_ := Aside0.mk (Kd.N_lower ho20 (below_size (by repeat (first | (with_reducible first | exact HB.out | apply below_alloc | apply pw_below_drewN | apply below_drew1) | exact HB.out)))); have n1_ := Aside0.mk (below_step (by repeat (first | (with_reducible first | exact HB.out | apply below_alloc | apply pw_below_drewN | apply below_drew1) | exact HB.out)) hb); clear HB; clear HO215; clear HO218; have HO221 := n0_; have HB := n1_; clear n0_ n1_; clear hb ho20; obtain ⟨Ao21, co21, eo21⟩ := Kd.N_slice HO221.out; subst eo21) | ((with_reducible refine gate_callee (f := 5) rfl ?_); refine goesL_ (some 9) rfl rfl Tryz.func5 (by kernel_rfl) rfl #[.agg #[.slice Ao21 y219.length co21, .slice none 0 0]] rfl (by (try simp only [List.map_toArray, List.map_cons, List.map_nil]); first | done | rfl | (simp only [List.length_drop, List.length_take]; rfl)) ?_; (refine (print_Print.calls _ _ y219 _ _ ([] : List ByteArray) t222 t223 _ ?side1 ?side2 ?side3 ?side4 A1.out).mono ?_); (case side1 => repeat (first | exact (Kd.N_reads' HO221.out).2.2 | (with_reducible refine Kd.C_alloc ?_ _) | (with_reducible refine Kd.C_drewN ?_ _) | (with_reducible refine Kd.C_drew ?_))); (case side2 => exact (Kd.N_reads' HO221.out).2.1); (case side3 => exact Kd.C_nil _ _); (case side4 => exact Nat.le_refl _); rintro e w22 ⟨rfl, hb⟩; refine ⟨_, rfl, ?_⟩; have n0_ := Aside0.mk (Kd.N_below (by (with_reducible repeat (first | apply Kd.N_alloc | apply Kd.N_drewN | apply Kd.N_drew)); exact HO221.out) hb); have n1_ := Aside0.mk (below_step (by repeat (first | (with_reducible first | exact HB.out | apply below_alloc | apply pw_below_drewN | apply below_drew1) | exact HB.out)) hb); clear HO221; clear HB; have HO221 := n0_; have HB := n1_; clear n0_ n1_; (try clear hb); (try clear hb2); (try clear hk); (try clear hi)))
    go_ret
    exact ⟨by first | rfl | (simp [errW_none, errW_some] <;> rfl) | (simp [*, errW_none, errW_some] <;> rfl), by repeat (first | (with_reducible first | exact HB.out | apply below_alloc | apply pw_below_drewN | apply below_drew1) | exact HB.out)⟩
end Go.Proofs.YtapdchapjpnceaaGreatDoor.P
end
section
set_option linter.unusedSimpArgs false
set_option linter.unusedVariables false
namespace Go.Proofs.YtapdchapjpnceaaGreatDoor.PrR
open Go.RowKit Go.Lib Go.Proofs.YtapdchapjpnceaaGreatDoorW.PrintWords Go.Proofs.YtapdchapjpnceaaGreatDoor.U Go.Proofs.YtapdchapjpnceaaGreatDoor.P Go.Proofs.YtapdchapjpnceaaGreatDoor.PTh Go.Proofs.YtapdchapjpnceaaGreatDoor.Sc
def smN (a : ByteArray) : Bool := decide (a.size ≤ 200)
def smE (x : S38) : Bool := decide (x.f0.length ≤ 10) && (decide (x.f1.length ≤ 10) && (decide (x.f2.length ≤ 10) && (decide (x.f3.length ≤ 10) && (decide (x.f4.size ≤ 300) && decide (x.f5.size ≤ 200)))))
def names (x : S38) : List ByteArray := x.f0 ++ x.f1 ++ x.f2 ++ x.f3
theorem few_l1 (l : List ByteArray) (hn : l.length ≤ 1000000) (m : Nat) : ∀ i : Nat, i + m = l.length → Ev (fun k => bellowslaw12_few.l1 k l (i : Int)) ((l.drop i).all smN) := by
  induction m with
  | zero =>
    intro i hi
    refine Ev.unroll (Ev.some fun k => ?_)
    rw [bellowslaw12_few.l1, if_neg (by omega), List.drop_of_length_le (by omega)]; rfl
  | succ m ih =>
    intro i hi
    have hlt : i < l.length := by omega
    have i1 : (i : Int) < (l.length : Int) := by omega
    have i2 : (0 : Int) ≤ (i : Int) := by omega
    have hw := wrapH i (by omega)
    have hr := ih (i + 1) (by omega)
    refine Ev.unroll ?_
    simp only [bellowslaw12_few.l1, rd_at l i hlt, hw.out]
    rw [List.drop_eq_getElem_cons hlt, List.all_cons]
    refine evPos i1 (evPos i2 ?_)
    by_cases h : (l[i].size : Int) > 200
    · have hs : smN l[i] = false := by
        have : ¬ l[i].size ≤ 200 := by omega
        simp [smN, this]
      refine evPos h ?_
      rw [hs, Bool.false_and]; exact Ev.now _
    · have hs : smN l[i] = true := by
        have : l[i].size ≤ 200 := by omega
        simp [smN, this]
      refine evNeg h ?_
      rw [hs, Bool.true_and]; exact hr
theorem few_l0 (e : List S38) (d : List ByteArray) (hn : e.length ≤ 30) (m : Nat) : ∀ (i : Nat) (l : List ByteArray), i + m = e.length → l.length ≤ 20 + 40 * i →
    Ev (fun k => bellowslaw12_few.l0 k l (i : Int) e d) ((e.drop i).all smE && (l ++ (e.drop i).flatMap names).all smN) := by
  induction m with
  | zero =>
    intro i l hi hl
    refine Ev.unroll ?_
    simp only [bellowslaw12_few.l0]
    refine evNeg (by omega) ?_
    rw [List.drop_of_length_le (by omega)]
    simp only [List.all_nil, List.flatMap_nil, List.append_nil, Bool.true_and]
    have := few_l1 l (by omega) l.length 0 (by omega)
    rw [List.drop_zero] at this
    exact this
  | succ m ih =>
    intro i l hi hl
    have hlt : i < e.length := by omega
    have i1 : (i : Int) < (e.length : Int) := by omega
    have i2 : (0 : Int) ≤ (i : Int) := by omega
    have hw := wrapH i (by omega)
    refine Ev.unroll ?_
    simp only [bellowslaw12_few.l0, rd38 e i hlt, hw.out]
    have hr := fun l' => ih (i + 1) l' (by omega)
    rw [List.drop_eq_getElem_cons hlt, List.all_cons, List.flatMap_cons]
    generalize e[i] = x at *
    refine evPos i1 (evPos i2 ?_)
    by_cases h0 : (x.f0.length : Int) > 10
    · have : smE x = false := by have : ¬ x.f0.length ≤ 10 := by omega
                                 simp [smE, this]
      rw [this]; simp only [Bool.false_and]; exact evPos h0 (Ev.now _)
    refine evNeg h0 ?_
    by_cases h1 : (x.f1.length : Int) > 10
    · have : smE x = false := by have : ¬ x.f1.length ≤ 10 := by omega
                                 simp [smE, this]
      rw [this]; simp only [Bool.false_and]; exact evPos h1 (Ev.now _)
    refine evNeg h1 ?_
    by_cases h2 : (x.f2.length : Int) > 10
    · have : smE x = false := by have : ¬ x.f2.length ≤ 10 := by omega
                                 simp [smE, this]
      rw [this]; simp only [Bool.false_and]; exact evPos h2 (Ev.now _)
    refine evNeg h2 ?_
    by_cases h3 : (x.f3.length : Int) > 10
    · have : smE x = false := by have : ¬ x.f3.length ≤ 10 := by omega
                                 simp [smE, this]
      rw [this]; simp only [Bool.false_and]; exact evPos h3 (Ev.now _)
    refine evNeg h3 ?_
    by_cases h4 : (x.f4.size : Int) > 300
    · have : smE x = false := by have : ¬ x.f4.size ≤ 300 := by omega
                                 simp [smE, this]
      rw [this]; simp only [Bool.false_and]; exact evPos h4 (Ev.now _)
    refine evNeg h4 ?_
    by_cases h5 : (x.f5.size : Int) > 200
    · have : smE x = false := by have : ¬ x.f5.size ≤ 200 := by omega
                                 simp [smE, this]
      rw [this]; simp only [Bool.false_and]; exact evPos h5 (Ev.now _)
    refine evNeg h5 ?_
    have hs : smE x = true := by
      have a0 : x.f0.length ≤ 10 := by omega
      have a1 : x.f1.length ≤ 10 := by omega
      have a2 : x.f2.length ≤ 10 := by omega
      have a3 : x.f3.length ≤ 10 := by omega
      have a4 : x.f4.size ≤ 300 := by omega
      have a5 : x.f5.size ≤ 200 := by omega
      simp [smE, a0, a1, a2, a3, a4, a5]
    rw [hs, Bool.true_and]
    refine evPos (by omega) (Ev.bind (Ev.now _) (evPos (by simp only [List.length_append]; omega) (Ev.bind (Ev.now _) (evPos (by simp only [List.length_append]; omega) (Ev.bind (Ev.now _) (evPos (by simp only [List.length_append]; omega) ?_))))))
    have := hr (l ++ x.f0 ++ x.f1 ++ x.f2 ++ x.f3) (by simp only [List.length_append]; omega)
    have he : l ++ x.f0 ++ x.f1 ++ x.f2 ++ x.f3 ++ (e.drop (i + 1)).flatMap names = l ++ (names x ++ (e.drop (i + 1)).flatMap names) := by simp [names]
    rw [he] at this
    exact this
structure Few (e : List S38) (d : List ByteArray) : Prop where
  n : e.length ≤ 30
  m : d.length ≤ 20
  s : e.all smE = true
  t : (d ++ e.flatMap names).all smN = true
theorem ref_few (e : List S38) (d : List ByteArray) : ∃ b, Ev (fun k => bellowslaw12_few.f k e d) b ∧ (b = true → Few e d) := by
  by_cases h0 : (e.length : Int) > 30
  · refine ⟨false, ?_, fun h => by cases h⟩
    simp only [bellowslaw12_few.f]
    refine evPos h0 (Ev.unroll ?_)
    simp only [bellowslaw12_few.j0, if_true]
    exact Ev.now _
  · by_cases h1 : (d.length : Int) > 20
    · refine ⟨false, ?_, fun h => by cases h⟩
      simp only [bellowslaw12_few.f]
      refine evNeg h0 (Ev.unroll ?_)
      simp only [bellowslaw12_few.j0, decide_eq_true h1, if_true]
      exact Ev.now _
    · refine ⟨(e.drop 0).all smE && (([] ++ d) ++ (e.drop 0).flatMap names).all smN, ?_, ?_⟩
      · simp only [bellowslaw12_few.f]
        refine evNeg h0 (Ev.unroll ?_)
        simp only [bellowslaw12_few.j0, decide_eq_false h1, Bool.false_eq_true, if_false]
        refine Ev.bind (Ev.now _) (evPos (by simp only [List.length_nil]; omega) ?_)
        exact few_l0 e d (by omega) e.length 0 ([] ++ d) (by omega) (by simp only [List.length_append, List.length_nil]; omega)
      · intro h
        rw [List.drop_zero, List.nil_append, Bool.and_eq_true] at h
        exact ⟨by omega, by omega, h.1, h.2⟩
theorem of_l0 (e : List S38) (d : List ByteArray) (hn : e.length ≤ 30) (hs : e.all smE = true) (m : Nat) : ∀ (i : Nat) (a : List S43), i + m = e.length → a.length ≤ i →
    Ev (fun k => bellowslaw12_of.l0 k (i : Int) e d a d) (a ++ (e.drop i).map conv, d) := by
  induction m with
  | zero =>
    intro i a hi ha
    refine Ev.unroll ?_
    simp only [bellowslaw12_of.l0]
    refine evNeg (by omega) ?_
    rw [List.drop_of_length_le (by omega), List.map_nil, List.append_nil]
    exact Ev.now _
  | succ m ih =>
    intro i a hi ha
    have hlt : i < e.length := by omega
    have i1 : (i : Int) < (e.length : Int) := by omega
    have i2 : (0 : Int) ≤ (i : Int) := by omega
    have hw := wrapH i (by omega)
    have hx := List.all_eq_true.1 hs e[i] (List.getElem_mem hlt)
    simp only [smE, Bool.and_eq_true, decide_eq_true_iff] at hx
    obtain ⟨b0, b1, b2, b3, b4, b5⟩ := hx
    refine Ev.unroll ?_
    simp only [bellowslaw12_of.l0, rd38 e i hlt, hw.out]
    have hr := ih (i + 1) (a ++ [conv e[i]]) (by omega) (by simp only [List.length_append, List.length_cons, List.length_nil]; omega)
    have he : a ++ (e.drop i).map conv = a ++ [conv e[i]] ++ (e.drop (i + 1)).map conv := by rw [List.drop_eq_getElem_cons hlt]; simp only [List.map_cons, List.append_assoc, List.cons_append, List.nil_append]
    rw [he]
    generalize e[i] = x at *
    refine evPos i1 (evPos i2 (Ev.bind (Ev.now _) (evPos (by simp only [List.length_nil]; omega) (Ev.bind (Ev.now _) (evPos (by simp only [List.length_nil]; omega) (Ev.bind (Ev.now _) (evPos (by simp only [List.length_nil]; omega) (Ev.bind (Ev.now _) (evPos (by simp only [List.length_nil]; omega) (evPos (by omega) ?_))))))))))
    simp only [List.nil_append]
    exact hr
theorem ref_of (e : List S38) (d : List ByteArray) (h : Few e d) : Ev (fun k => bellowslaw12_of.f k e d) (e.map conv, d) := by
  simp only [bellowslaw12_of.f]
  have hm := h.m
  refine Ev.bind (Ev.now _) (evPos (by simp only [List.length_nil]; omega) ?_)
  exact of_l0 e d h.n h.s e.length 0 [] (by omega) (by simp)
theorem awake_true : bellowslaw12_awake.f = some true := by kernel_rfl
theorem names_small {e : List S38} {d : List ByteArray} (h : Few e d) (x : S38) (hx : x ∈ e) : ∀ a ∈ names x, a.size ≤ 200 := by
  intro a ha
  have := List.all_eq_true.1 h.t a (List.mem_append_right _ (List.mem_flatMap.2 ⟨x, hx, ha⟩))
  simpa [smN] using this
theorem boundN_of {l : List ByteArray} (hn : l.length ≤ 1000) (h : ∀ a ∈ l, a.size ≤ 200) : boundN l = true := by
  simp only [boundN, Bool.and_eq_true, decide_eq_true_iff, List.all_eq_true]
  exact ⟨hn, fun a ha => by have := h a ha; omega⟩
theorem bound_of {e : List S38} {d : List ByteArray} (h : Few e d) (x : S38) (hx : x ∈ e) : boundS (conv x) = true := by
  have hs := names_small h x hx
  have hx' := List.all_eq_true.1 h.s x hx
  simp only [smE, Bool.and_eq_true, decide_eq_true_iff] at hx'
  obtain ⟨b0, b1, b2, b3, b4, b5⟩ := hx'
  have q0 : boundN x.f0 = true := boundN_of (by omega) fun a ha => hs a (by simp [names, ha])
  have q1 : boundN x.f1 = true := boundN_of (by omega) fun a ha => hs a (by simp [names, ha])
  have q2 : boundN x.f2 = true := boundN_of (by omega) fun a ha => hs a (by simp [names, ha])
  have q3 : boundN x.f3 = true := boundN_of (by omega) fun a ha => hs a (by simp [names, ha])
  have q4 : decide (x.f4.size ≤ 100000) = true := decide_eq_true (by omega)
  have q5 : decide (x.f5.size ≤ 100000) = true := decide_eq_true (by omega)
  show (boundN x.f0 && boundN x.f1 && boundN x.f2 && boundN x.f3 && decide (x.f4.size ≤ 100000) && decide (x.f5.size ≤ 100000)) = true
  rw [q0, q1, q2, q3, q4, q5]; rfl
theorem boundD {e : List S38} {d : List ByteArray} (h : Few e d) : boundN d = true :=
  boundN_of (by have := h.m; omega) fun a ha => by
    have := List.all_eq_true.1 h.t a (List.mem_append_left _ ha)
    simpa [smN] using this
theorem okM_of {e : List S38} {d : List ByteArray} (h : Few e d) : okM (e.map conv) d = true := by
  have q1 : decide ((e.map conv).length ≤ 99) = true := decide_eq_true (by rw [List.length_map]; have := h.n; omega)
  have q2 : (e.map conv).all boundS = true := by
    rw [List.all_eq_true]
    intro y hy
    obtain ⟨x, hx, rfl⟩ := List.mem_map.1 hy
    exact bound_of h x hx
  unfold okM
  rw [q1, boundD h, q2]; rfl
theorem Sz_of {e : List S38} {d : List ByteArray} (h : Few e d) : ∀ x ∈ e, Sz x := by
  intro x hx
  have hx' := List.all_eq_true.1 h.s x hx
  simp only [smE, Bool.and_eq_true, decide_eq_true_iff] at hx'
  obtain ⟨b0, b1, b2, b3, b4, b5⟩ := hx'
  exact ⟨by omega, by omega, by omega, by omega, by omega⟩
theorem Ok_of {e : List S38} {d : List ByteArray} (h : Few e d) (hr : rightM (e.map conv) d = true) : (∀ x ∈ e, Ok x) ∧ allP d = true := by
  unfold rightM at hr
  rw [Bool.and_eq_true, Bool.and_eq_true] at hr
  refine ⟨fun x hx => ?_, hr.1.2⟩
  have := List.all_eq_true.1 hr.2 (conv x) (List.mem_map.2 ⟨x, hx, rfl⟩)
  rw [rightS_eq] at this
  simp only [Bool.and_eq_true] at this
  obtain ⟨a0, a1, a2, a3, a4, _⟩ := this
  exact ⟨bound_of h x hx, a1, a2, a3, a4, by rintro h0; rw [h0] at a0; simp at a0⟩
theorem right_f {e : List S38} {d : List ByteArray} (h : Few e d) : print_Right.f (e.map conv) d = some (rightM (e.map conv) d) := by
  unfold print_Right.f
  rw [if_pos]
  refine ⟨by rw [List.length_map]; have := h.n; omega, by have := h.m; omega, ?_⟩
  intro y hy
  obtain ⟨x, hx, rfl⟩ := List.mem_map.1 hy
  have hx' := List.all_eq_true.1 h.s x hx
  simp only [smE, Bool.and_eq_true, decide_eq_true_iff] at hx'
  obtain ⟨b0, b1, b2, b3, b4, b5⟩ := hx'
  show x.f0.length + x.f1.length + x.f2.length + x.f3.length ≤ 100000
  omega
end Go.Proofs.YtapdchapjpnceaaGreatDoor.PrR
end
section
set_option linter.unusedVariables false
namespace Go.Proofs.YtapdchapjpnceaaGreatDoor.St
open Go.RowKit Go.ChangeShapes Go.WideShapes Go.Proofs.YtapdchapjpnceaaGreatDoorW.PrintWords Go.Proofs.YtapdchapjpnceaaGreatDoor.P
def Opens {α : Type} (t : TypeId) (d : Kd α) : Prop :=
  ∀ {H : Type} {enc : TypeId × Value → H} {W : World} {fuel : Nat} {cs : List Value} {x : DataW H × List MemPlace}, DataW.trod enc Tryz.prog W 0 (fun _ => true) true fuel t cs = some x → ∃ a, d.K W a cs
theorem opens_string : Opens 9 Kd.string := by
  intro H enc W fuel cs x h
  obtain ⟨s, e, _, _⟩ := DataW.trod_string Tryz.underlying9 h
  exact ⟨s, e⟩
theorem opens_slice {α : Type} {t e : TypeId} {d : Kd α} (ht : Tryz.prog.underlying t = some (.slice e)) (hsz : Tryz.prog.cellsOf e = d.sz) (hd : Opens e d) : Opens t (Kd.slice e d) := by
  intro H enc W fuel cs y h
  rcases DataW.trod_slice ht h with ⟨hcs, _⟩ | ⟨x, len, cap, elems, rest, n, _, hcs, _, hb, hl, hm, hlen, hel, _, _⟩
  · exact ⟨[], none, 0, hcs, Nat.le_refl _, rfl, Nat.zero_le _, fun h => absurd h (Nat.lt_irrefl 0)⟩
  · have each : ∀ i, i < len → ∃ a c, c.length = d.sz ∧ d.K W a c ∧ ∀ j u, c[j]? = some u → W.cell? (x.add (i * d.sz + j)) = some u := by
      intro i hi
      have hE := hel i hi
      have hy : elems[i]? = some (elems[i]'(by omega)) := List.getElem?_eq_getElem (by omega)
      rw [hy, Option.bind_eq_some_iff, hsz] at hE
      obtain ⟨c, hc, hT⟩ := hE
      obtain ⟨_, hcl, hcj⟩ := World.cells?_some hc
      obtain ⟨a, ha⟩ := hd hT
      refine ⟨a, c, hcl, ha, fun j u hu => ?_⟩
      have hj : j < d.sz := by rw [← hcl]; exact (List.getElem?_eq_some_iff.1 hu).1
      have := hcj j hj
      rw [Addr.add_add] at this
      rw [this]; exact hu
    refine ⟨List.ofFn fun i : Fin len => Classical.choose (each i.val i.isLt), some x, cap, by rw [List.length_ofFn]; exact hcs, by rw [List.length_ofFn]; exact hl, rfl, by rw [List.length_ofFn]; unfold maxLen at hm; omega, fun _ => ⟨x, rfl, fun j p hj => ?_⟩⟩
    rw [List.getElem?_ofFn] at hj
    split at hj
    · rename_i hjl
      obtain rfl := Option.some.inj hj
      obtain ⟨c, h1, h2, h3⟩ := Classical.choose_spec (each j hjl)
      exact ⟨c, h1, h2, h3⟩
    · cases hj
theorem cells_string : Tryz.prog.cellsOf 9 = 1 := by kernel_rfl
theorem cells_strings : Tryz.prog.cellsOf 23 = 1 := by kernel_rfl
theorem opens_strings : Opens 23 (Kd.slice 9 Kd.string) := opens_slice Tryz.underlying23 cells_string opens_string
theorem cells_edge : Tryz.prog.cellsOf 38 = 6 := by kernel_rfl
theorem six {cs : List Value} (h : cs.length = 6) : ∃ a b c d e f, cs = [a, b, c, d, e, f] := by
  rcases cs with _ | ⟨a, _ | ⟨b, _ | ⟨c, _ | ⟨d, _ | ⟨e, _ | ⟨f, _ | ⟨g, t⟩⟩⟩⟩⟩⟩⟩ <;> simp at h
  exact ⟨a, b, c, d, e, f, rfl⟩
theorem two {cs : List Value} (h : cs.length = 2) : ∃ a b, cs = [a, b] := by
  rcases cs with _ | ⟨a, _ | ⟨b, _ | ⟨c, t⟩⟩⟩ <;> simp at h
  exact ⟨a, b, rfl⟩
theorem opens_edge : Opens 38 k38 := by
  intro H enc W fuel cs x h
  obtain ⟨xs, m, _, _, hcl, hxs, hF⟩ := DataW.trod_struct Tryz.underlying38 h
  rw [cells_edge] at hcl
  obtain ⟨p0, p1, p2, p3, p4, p5, rfl⟩ := six hcl
  have f0 := hF 0 _ rfl
  have f1 := hF 1 _ rfl
  have f2 := hF 2 _ rfl
  have f3 := hF 3 _ rfl
  have f4 := hF 4 _ rfl
  have f5 := hF 5 _ rfl
  change DataW.trod enc _ W 0 _ true m 23 (([p0, p1, p2, p3, p4, p5].drop 0).take (Tryz.prog.cellsOf 23)) = xs[0]? at f0
  change DataW.trod enc _ W 0 _ true m 23 (([p0, p1, p2, p3, p4, p5].drop 1).take (Tryz.prog.cellsOf 23)) = xs[1]? at f1
  change DataW.trod enc _ W 0 _ true m 23 (([p0, p1, p2, p3, p4, p5].drop 2).take (Tryz.prog.cellsOf 23)) = xs[2]? at f2
  change DataW.trod enc _ W 0 _ true m 23 (([p0, p1, p2, p3, p4, p5].drop 3).take (Tryz.prog.cellsOf 23)) = xs[3]? at f3
  change DataW.trod enc _ W 0 _ true m 9 (([p0, p1, p2, p3, p4, p5].drop 4).take (Tryz.prog.cellsOf 9)) = xs[4]? at f4
  change DataW.trod enc _ W 0 _ true m 9 (([p0, p1, p2, p3, p4, p5].drop 5).take (Tryz.prog.cellsOf 9)) = xs[5]? at f5
  rw [cells_strings] at f0 f1 f2 f3
  rw [cells_string] at f4 f5
  have hxl : xs.length = 6 := hxs
  rw [List.getElem?_eq_getElem (by omega)] at f0 f1 f2 f3 f4 f5
  obtain ⟨a0, k0⟩ := opens_strings f0
  obtain ⟨a1, k1⟩ := opens_strings f1
  obtain ⟨a2, k2⟩ := opens_strings f2
  obtain ⟨a3, k3⟩ := opens_strings f3
  obtain ⟨a4, k4⟩ := opens_string f4
  obtain ⟨a5, k5⟩ := opens_string f5
  exact ⟨⟨a0, a1, a2, a3, a4, a5⟩, [p0], [p1, p2, p3, p4, p5], rfl, k0, [p1], [p2, p3, p4, p5], rfl, k1, [p2], [p3, p4, p5], rfl, k2, [p3], [p4, p5], rfl, k3, [p4], [p5], rfl, k4, k5⟩
theorem opens_edges : Opens 22 (Kd.slice 38 k38) := opens_slice Tryz.underlying22 cells_edge opens_edge
theorem cells_edges : Tryz.prog.cellsOf 22 = 1 := by kernel_rfl
theorem cells_man : Tryz.prog.cellsOf 25 = 2 := by kernel_rfl
def ManAt (W : World) (cs : Array Value) (e : List S38) (d : List ByteArray) : Prop :=
  ∃ A0 c0 A1 c1, cs = #[.slice A0 e.length c0, .slice A1 d.length c1] ∧ e.length ≤ c0 ∧ Kd.C k38 W A0 e.length e ∧ d.length ≤ c1 ∧ Kd.C Kd.string W A1 d.length d
theorem man_open {H : Type} {enc : TypeId × Value → H} {W : World} {cs : Array Value} {d : DataW H} {ps : List MemPlace} (h : DataW.Trod enc Tryz.prog W 0 (fun _ => true) true 25 (.agg cs) d ps) :
    ∃ x : List S38 × List ByteArray, ManAt W cs x.1 x.2 := by
  obtain ⟨fuel, hf⟩ := h
  obtain ⟨xs, m, _, _, hcl, hxs, hF⟩ := DataW.trod_struct Tryz.underlying25 hf
  rw [cells_man] at hcl
  obtain ⟨p0, p1, hp⟩ := two hcl
  rw [hp] at hF
  have f0 := hF 0 _ rfl
  have f1 := hF 1 _ rfl
  change DataW.trod enc _ W 0 _ true m 22 (([p0, p1].drop 0).take (Tryz.prog.cellsOf 22)) = xs[0]? at f0
  change DataW.trod enc _ W 0 _ true m 23 (([p0, p1].drop 1).take (Tryz.prog.cellsOf 23)) = xs[1]? at f1
  rw [cells_edges] at f0
  rw [cells_strings] at f1
  have hxl : xs.length = 2 := hxs
  rw [List.getElem?_eq_getElem (by omega)] at f0 f1
  obtain ⟨a0, A0, c0, e0, l0, g0⟩ := opens_edges f0
  obtain ⟨a1, A1, c1, e1, l1, g1⟩ := opens_strings f1
  refine ⟨(a0, a1), A0, c0, A1, c1, ?_, l0, g0, l1, g1⟩
  have q0 : p0 = .slice A0 a0.length c0 := by injection e0
  have q1 : p1 = .slice A1 a1.length c1 := by injection e1
  apply Array.toList_inj.1
  show (Value.agg cs).cells.toList = _
  rw [hp, q0, q1]
end Go.Proofs.YtapdchapjpnceaaGreatDoor.St
end
section
set_option linter.unusedSimpArgs false
set_option linter.unusedVariables false
namespace Go.Proofs.YtapdchapjpnceaaGreatDoor.PrR
open Go.RowKit Go.Lib Go.Proofs.YtapdchapjpnceaaGreatDoorW.PrintWords Go.Proofs.YtapdchapjpnceaaGreatDoor.U Go.Proofs.YtapdchapjpnceaaGreatDoor.P Go.Proofs.YtapdchapjpnceaaGreatDoor.PTh Go.Proofs.YtapdchapjpnceaaGreatDoor.Sc
def OfPost (m : List S43) (d : List ByteArray) (w : World) (x : Ending) (w' : World) : Prop :=
  ∃ A0 c0 A1 c1, x = .returned (.agg #[.slice A0 m.length c0, .slice A1 d.length c1]) ∧ (m.length ≤ c0 ∧ Kd.C k43 w' A0 m.length m) ∧ (d.length ≤ c1 ∧ Kd.C Kd.string w' A1 d.length d) ∧ Below w.heap.size w w'
theorem of_any (e : List S38) (d : List ByteArray) (A0 A1 : Option Addr) (c0 c1 : Nat) (w : World) (h0 : e.length ≤ c0) (g0 : Kd.C k38 w A0 e.length e) (h1 : d.length ≤ c1) (g1 : Kd.C Kd.string w A1 d.length d) (hf : Few e d) (W : World) (hB : Below w.heap.size w W) :
    Calls Tryz.prog 6 #[.agg #[.slice A0 e.length c0, .slice A1 d.length c1]] W (OfPost (e.map conv) d W) := by
  obtain ⟨k, hk⟩ := Ev.rounds (ref_of e d hf)
  refine (bellowslaw12_of.calls k A0 c0 e A1 c1 d (e.map conv) d W (Kd.C_below g0 hB) h0 (Kd.C_below g1 hB) h1 hk).mono ?_
  rintro x w' ⟨v0, v1, rfl, hS, hR, hb⟩
  obtain ⟨B0, d0, q0⟩ := Kd.S_slice hS
  obtain ⟨B1, d1, q1⟩ := Kd.R_slice hR
  subst q0 q1
  exact ⟨B0, d0, B1, d1, rfl, ⟨(Kd.S_reads' hS).2.1, (Kd.S_reads' hS).2.2⟩, ⟨(Kd.R_reads' hR).2.1, (Kd.R_reads' hR).2.2⟩, hb⟩
theorem print_of (m : List S43) (d : List ByteArray) (A0 A1 : Option Addr) (c0 c1 : Nat) (W : World) (h0 : m.length ≤ c0) (g0 : Kd.C k43 W A0 m.length m) (h1 : d.length ≤ c1) (g1 : Kd.C Kd.string W A1 d.length d) (hok : okM m d = true) (r0 : ByteArray) (r1 : Int) (hr : printM m d = (r0, r1)) :
    Calls Tryz.prog 5 #[.agg #[.slice A0 m.length c0, .slice A1 d.length c1]] W fun x w' => x = .returned (.tuple #[.string r0, .int .i64 r1]) ∧ Below W.heap.size W w' :=
  print_Print.calls A0 c0 m A1 c1 d r0 r1 W g0 h0 g1 h1 (by unfold print_Print.f; rw [if_pos hok, hr])
theorem right_of (m : List S43) (d : List ByteArray) (A0 A1 : Option Addr) (c0 c1 : Nat) (W : World) (h0 : m.length ≤ c0) (g0 : Kd.C k43 W A0 m.length m) (h1 : d.length ≤ c1) (g1 : Kd.C Kd.string W A1 d.length d) (b : Bool) (hr : print_Right.f m d = some b) :
    Calls Tryz.prog 8 #[.agg #[.slice A0 m.length c0, .slice A1 d.length c1]] W fun x w' => x = .returned (.bool b) ∧ Below W.heap.size W w' :=
  print_Right.calls A0 c0 m A1 c1 d b W g0 h0 g1 h1 hr
set_option maxRecDepth 100000 in
set_option maxHeartbeats 16000000 in
theorem tells (e : List S38) (d : List ByteArray) (A0 A1 : Option Addr) (c0 c1 : Nat) (w : World) (h0 : e.length ≤ c0) (g0 : Kd.C k38 w A0 e.length e) (h1 : d.length ≤ c1) (g1 : Kd.C Kd.string w A1 d.length d) :
    Calls Tryz.prog 3 #[.agg #[.slice A0 e.length c0, .slice A1 d.length c1]] w fun x w' => x = .returned (.bool true) ∧ Below w.heap.size w w' := by
  have hu25 := Tryz.underlying25
  obtain ⟨b, hb, hF⟩ := ref_few e d
  have hFew : Hid (∀ W, Below w.heap.size w W → Calls Tryz.prog 4 #[.agg #[.slice A0 e.length c0, .slice A1 d.length c1]] W fun x w' => x = .returned (.bool b) ∧ Below W.heap.size W w') := by
    obtain ⟨k, hk⟩ := Ev.rounds hb
    exact fun W hB => bellowslaw12_few.calls k A0 c0 e A1 c1 d b W (Kd.C_below g0 hB) h0 (Kd.C_below g1 hB) h1 hk
  have hBox := Lib.hid ((Below.refl w.heap.size w).alloc (Nat.le_refl _) (.cells #[.slice A0 e.length c0, .slice A1 d.length c1] 25))
  have hCell : Hid ((w.alloc (.cells #[.slice A0 e.length c0, .slice A1 d.length c1] 25)).heap[w.heap.size]? = some (.cells #[.slice A0 e.length c0, .slice A1 d.length c1] 25 (0, 0))) := heap_alloc_new w _
  have hSz0 : w.heap.size < (w.alloc (.cells #[.slice A0 e.length c0, .slice A1 d.length c1] 25)).heap.size := by simp
  have hRR : Hid (∀ W, (∀ x ∈ e, Sz x) → e.length ≤ 1000000 → d.length ≤ 1000000 → Below w.heap.size w W → Calls Tryz.prog 7 #[.agg #[.slice A0 e.length c0, .slice A1 d.length c1]] W fun x w' => x = .returned (.bool (rightM (e.map conv) d)) ∧ Below W.heap.size W w') :=
    fun W hs hn hm hB => RefRight A0 A1 c0 c1 e d W (Kd.C_below g0 hB) h0 (Kd.C_below g1 hB) h1 hn hm hs
  have hOf := Lib.hid (of_any e d A0 A1 c0 c1 w h0 g0 h1 g1)
  have hRP : Hid (∀ t, Ev (fun k => bellowsref12_Print.f k e d) t → ∀ W, Below w.heap.size w W → Calls Tryz.prog 10 #[.agg #[.slice A0 e.length c0, .slice A1 d.length c1]] W fun x w' => x = .returned (.string t) ∧ Below W.heap.size W w') := by
    intro t ht
    obtain ⟨k, hk⟩ := Ev.rounds ht
    exact fun W hB => bellowsref12_Print.calls k A0 c0 e A1 c1 d t W (Kd.C_below g0 hB) h0 (Kd.C_below g1 hB) h1 hk
  have hAw := Lib.hid (fun W => bellowslaw12_awake.calls true W awake_true)
  clear g0 g1
  cases b with
  | false =>
    clear hF hb
    go_enter Tryz.func3, Tryz.ntmps3
    go_wp2_with fail
    generalize w.alloc (.cells #[.slice A0 e.length c0, .slice A1 d.length c1] 25) = wa at *
    refine (hFew.out _ hBox.out).mono ?_
    rintro x w1 ⟨rfl, hb⟩
    go_wp2_with fail
    go_ret
    exact ⟨rfl, hBox.out.trans (hb.mono hBox.out.size)⟩
  | true =>
    have hfew := hF rfl
    have hOf2 := Lib.hid (hOf.out hfew)
    have hRR2 := Lib.hid (fun W => hRR.out W (Sz_of hfew) (by have := hfew.n; omega) (by have := hfew.m; omega))
    have hokM := okM_of hfew
    have hrf := right_f hfew
    have hOkx : Hid (rightM (e.map conv) d = true → Ev (fun k => bellowsref12_Print.f k e d) (B (edgesL 0 (e.map conv) ++ defL d))) := fun hr =>
      ref_PrintM e d (by have := hfew.n; omega) (Ok_of hfew hr).1 (boundD hfew) (Ok_of hfew hr).2
    clear hF hb hOf hRR hfew
    have hSame : Hid (∀ W, Below w.heap.size w W → Calls Tryz.prog 6 #[.agg #[.slice A0 e.length c0, .slice A1 d.length c1]] W (OfPost (e.map conv) d W)) := fun W hB => hOf2.out W hB
    clear hOf2
    generalize e.map conv = m at *
    generalize Value.slice A0 e.length c0 = V0 at *
    generalize Value.slice A1 d.length c1 = V1 at *
    have hOk := Lib.hid hokM
    have hRf := Lib.hid hrf
    clear hokM hrf
    obtain ⟨r, hr⟩ : ∃ r, rightM m d = r := ⟨_, rfl⟩
    rw [hr] at hRR2 hRf
    obtain ⟨⟨s0, s1⟩, hp⟩ : ∃ p, printM m d = p := ⟨_, rfl⟩
    have hP := Lib.hid (fun A0 A1 c0 c1 W h0 g0 h1 g1 => print_of m d A0 A1 c0 c1 W h0 g0 h1 g1 hOk.out s0 s1 hp)
    have hRt := Lib.hid (fun A0 A1 c0 c1 W h0 g0 h1 g1 => right_of m d A0 A1 c0 c1 W h0 g0 h1 g1 r hRf.out)
    have hPr := Lib.hid hp
    clear hp
    cases r with
    | false =>
      have hpm : printM m d = (⟨#[]⟩, 1) := by rw [printM, hr]; rfl
      have hq := hPr.out.symm.trans hpm
      obtain ⟨rfl, rfl⟩ : s0 = ⟨#[]⟩ ∧ s1 = 1 := by injection hq; exact ⟨‹_›, ‹_›⟩
      clear hr hpm hq hOkx hRP
      go_enter Tryz.func3, Tryz.ntmps3
      go_wp2_with fail
      generalize w.alloc (.cells #[V0, V1] 25) = wa at *
      refine (hFew.out _ hBox.out).mono ?_
      rintro x w1 ⟨rfl, hb⟩
      have hB1 := Lib.hid (hBox.out.trans (hb.mono hBox.out.size))
      have hC1 := Lib.hid ((hb.block _ hSz0).trans hCell.out)
      have hS1 := Nat.lt_of_lt_of_le hSz0 hb.size
      have k0 := (cell_of_heap (j := 0) hC1.out).trans rfl
      have k1 := (cell_of_heap (j := 1) hC1.out).trans rfl
      clear hb hBox hCell hSz0
      go_wp2_with fail
      refine (hSame.out _ hB1.out).mono ?_
      rintro x w2 ⟨A2, c2, A3, c3, rfl, ⟨l2, g2⟩, ⟨l3, g3⟩, hb⟩
      have hB2 := Lib.hid (hB1.out.trans (hb.mono hB1.out.size))
      have hC2 := Lib.hid ((hb.block _ hS1).trans hC1.out)
      have hS2 := Nat.lt_of_lt_of_le hS1 hb.size
      have hG2 := Lib.hid g2
      have hG3 := Lib.hid g3
      clear k0 k1
      have k0 := (cell_of_heap (j := 0) hC2.out).trans rfl
      have k1 := (cell_of_heap (j := 1) hC2.out).trans rfl
      clear hb hB1 hC1 hS1 g2 g3
      go_wp2_with fail
      refine (hP.out A2 A3 c2 c3 _ l2 hG2.out l3 hG3.out).mono ?_
      rintro x w3 ⟨rfl, hb⟩
      have hB3 := Lib.hid (hB2.out.trans (hb.mono hB2.out.size))
      have hC3 := Lib.hid ((hb.block _ hS2).trans hC2.out)
      have hS3 := Nat.lt_of_lt_of_le hS2 hb.size
      clear k0 k1
      have k0 := (cell_of_heap (j := 0) hC3.out).trans rfl
      have k1 := (cell_of_heap (j := 1) hC3.out).trans rfl
      clear hb hB2 hC2 hS2 hG2 hG3 l2 l3
      go_wp2_with fail
      refine (hRR2.out _ hB3.out).mono ?_
      rintro x w4 ⟨rfl, hb⟩
      have hB4 := Lib.hid (hB3.out.trans (hb.mono hB3.out.size))
      have hC4 := Lib.hid ((hb.block _ hS3).trans hC3.out)
      have hS4 := Nat.lt_of_lt_of_le hS3 hb.size
      clear k0 k1
      have k0 := (cell_of_heap (j := 0) hC4.out).trans rfl
      have k1 := (cell_of_heap (j := 1) hC4.out).trans rfl
      clear hb hB3 hC3 hS3
      go_wp2_with fail
      refine (hSame.out _ hB4.out).mono ?_
      rintro x w5 ⟨A2, c2, A3, c3, rfl, ⟨l2, g2⟩, ⟨l3, g3⟩, hb⟩
      have hB5 := Lib.hid (hB4.out.trans (hb.mono hB4.out.size))
      have hC5 := Lib.hid ((hb.block _ hS4).trans hC4.out)
      have hS5 := Nat.lt_of_lt_of_le hS4 hb.size
      have hG2 := Lib.hid g2
      have hG3 := Lib.hid g3
      clear k0 k1
      have k0 := (cell_of_heap (j := 0) hC5.out).trans rfl
      have k1 := (cell_of_heap (j := 1) hC5.out).trans rfl
      clear hb hB4 hC4 hS4 g2 g3
      go_wp2_with fail
      refine (hRt.out A2 A3 c2 c3 _ l2 hG2.out l3 hG3.out).mono ?_
      rintro x w6 ⟨rfl, hb⟩
      have hB6 := Lib.hid (hB5.out.trans (hb.mono hB5.out.size))
      have hC6 := Lib.hid ((hb.block _ hS5).trans hC5.out)
      have hS6 := Nat.lt_of_lt_of_le hS5 hb.size
      clear k0 k1
      have k0 := (cell_of_heap (j := 0) hC6.out).trans rfl
      have k1 := (cell_of_heap (j := 1) hC6.out).trans rfl
      clear hb hB5 hC5 hS5 hG2 hG3 l2 l3
      go_wp2_with fail
      refine (hAw.out _).mono ?_
      rintro x w7 ⟨rfl, hb⟩
      have hB7 := Lib.hid (hB6.out.trans (hb.mono hB6.out.size))
      have hC7 := Lib.hid ((hb.block _ hS6).trans hC6.out)
      have hS7 := Nat.lt_of_lt_of_le hS6 hb.size
      clear k0 k1
      have k0 := (cell_of_heap (j := 0) hC7.out).trans rfl
      have k1 := (cell_of_heap (j := 1) hC7.out).trans rfl
      clear hb hB6 hC6 hS6
      go_wp2_with fail
      go_ret
      exact ⟨rfl, hB7.out⟩
    | true =>
      obtain ⟨X, hX⟩ : ∃ X, edgesL 0 m ++ defL d = X := ⟨_, rfl⟩
      have hEv := hOkx.out hr
      rw [hX] at hEv
      have hRP2 := Lib.hid (hRP.out _ hEv)
      clear hEv hRP hOkx
      by_cases hbig : 16384 < X.length
      · have hpm : printM m d = (⟨#[]⟩, 3) := by rw [printM, hr, if_neg (by simp), hX, if_pos hbig]
        have hq := hPr.out.symm.trans hpm
        obtain ⟨rfl, rfl⟩ : s0 = ⟨#[]⟩ ∧ s1 = 3 := by injection hq; exact ⟨‹_›, ‹_›⟩
        have hz : 16384 < (B X).size := by rw [size_B]; exact hbig
        have z1 : decide (16384 < ((B X).size : Int)) = true := by rw [decide_eq_true_iff]; omega
        have z2 : decide (16384 < (B X).size) = true := by rw [decide_eq_true_iff]; omega
        clear hr hpm hq hX hbig
        generalize B X = t at *
        go_enter Tryz.func3, Tryz.ntmps3
        go_wp2_with fail
        generalize w.alloc (.cells #[V0, V1] 25) = wa at *
        refine (hFew.out _ hBox.out).mono ?_
        rintro x w1 ⟨rfl, hb⟩
        have hB1 := Lib.hid (hBox.out.trans (hb.mono hBox.out.size))
        have hC1 := Lib.hid ((hb.block _ hSz0).trans hCell.out)
        have hS1 := Nat.lt_of_lt_of_le hSz0 hb.size
        have k0 := (cell_of_heap (j := 0) hC1.out).trans rfl
        have k1 := (cell_of_heap (j := 1) hC1.out).trans rfl
        clear hb hBox hCell hSz0
        go_wp2_with fail
        refine (hSame.out _ hB1.out).mono ?_
        rintro x w2 ⟨A2, c2, A3, c3, rfl, ⟨l2, g2⟩, ⟨l3, g3⟩, hb⟩
        have hB2 := Lib.hid (hB1.out.trans (hb.mono hB1.out.size))
        have hC2 := Lib.hid ((hb.block _ hS1).trans hC1.out)
        have hS2 := Nat.lt_of_lt_of_le hS1 hb.size
        have hG2 := Lib.hid g2
        have hG3 := Lib.hid g3
        clear k0 k1
        have k0 := (cell_of_heap (j := 0) hC2.out).trans rfl
        have k1 := (cell_of_heap (j := 1) hC2.out).trans rfl
        clear hb hB1 hC1 hS1 g2 g3
        go_wp2_with fail
        refine (hP.out A2 A3 c2 c3 _ l2 hG2.out l3 hG3.out).mono ?_
        rintro x w3 ⟨rfl, hb⟩
        have hB3 := Lib.hid (hB2.out.trans (hb.mono hB2.out.size))
        have hC3 := Lib.hid ((hb.block _ hS2).trans hC2.out)
        have hS3 := Nat.lt_of_lt_of_le hS2 hb.size
        clear k0 k1
        have k0 := (cell_of_heap (j := 0) hC3.out).trans rfl
        have k1 := (cell_of_heap (j := 1) hC3.out).trans rfl
        clear hb hB2 hC2 hS2 hG2 hG3 l2 l3
        go_wp2_with fail
        refine (hRR2.out _ hB3.out).mono ?_
        rintro x w4 ⟨rfl, hb⟩
        have hB4 := Lib.hid (hB3.out.trans (hb.mono hB3.out.size))
        have hC4 := Lib.hid ((hb.block _ hS3).trans hC3.out)
        have hS4 := Nat.lt_of_lt_of_le hS3 hb.size
        clear k0 k1
        have k0 := (cell_of_heap (j := 0) hC4.out).trans rfl
        have k1 := (cell_of_heap (j := 1) hC4.out).trans rfl
        clear hb hB3 hC3 hS3
        go_wp2_with fail
        refine (hRP2.out _ hB4.out).mono ?_
        rintro x w5 ⟨rfl, hb⟩
        have hB5 := Lib.hid (hB4.out.trans (hb.mono hB4.out.size))
        have hC5 := Lib.hid ((hb.block _ hS4).trans hC4.out)
        have hS5 := Nat.lt_of_lt_of_le hS4 hb.size
        clear k0 k1
        have k0 := (cell_of_heap (j := 0) hC5.out).trans rfl
        have k1 := (cell_of_heap (j := 1) hC5.out).trans rfl
        clear hb hB4 hC4 hS4
        go_wp2_with fail
        refine (hSame.out _ hB5.out).mono ?_
        rintro x w6 ⟨A2, c2, A3, c3, rfl, ⟨l2, g2⟩, ⟨l3, g3⟩, hb⟩
        have hB6 := Lib.hid (hB5.out.trans (hb.mono hB5.out.size))
        have hC6 := Lib.hid ((hb.block _ hS5).trans hC5.out)
        have hS6 := Nat.lt_of_lt_of_le hS5 hb.size
        have hG2 := Lib.hid g2
        have hG3 := Lib.hid g3
        clear k0 k1
        have k0 := (cell_of_heap (j := 0) hC6.out).trans rfl
        have k1 := (cell_of_heap (j := 1) hC6.out).trans rfl
        clear hb hB5 hC5 hS5 g2 g3
        go_wp2_with fail
        refine (hRt.out A2 A3 c2 c3 _ l2 hG2.out l3 hG3.out).mono ?_
        rintro x w7 ⟨rfl, hb⟩
        have hB7 := Lib.hid (hB6.out.trans (hb.mono hB6.out.size))
        have hC7 := Lib.hid ((hb.block _ hS6).trans hC6.out)
        have hS7 := Nat.lt_of_lt_of_le hS6 hb.size
        clear k0 k1
        have k0 := (cell_of_heap (j := 0) hC7.out).trans rfl
        have k1 := (cell_of_heap (j := 1) hC7.out).trans rfl
        clear hb hB6 hC6 hS6 hG2 hG3 l2 l3
        go_wp2_with fail
        refine (hAw.out _).mono ?_
        rintro x w8 ⟨rfl, hb⟩
        have hB8 := Lib.hid (hB7.out.trans (hb.mono hB7.out.size))
        have hC8 := Lib.hid ((hb.block _ hS7).trans hC7.out)
        have hS8 := Nat.lt_of_lt_of_le hS7 hb.size
        clear k0 k1
        have k0 := (cell_of_heap (j := 0) hC8.out).trans rfl
        have k1 := (cell_of_heap (j := 1) hC8.out).trans rfl
        clear hb hB7 hC7 hS7
        go_wp2_with fail
        go_ret
        exact ⟨rfl, hB8.out⟩
      · have hpm : printM m d = (B X, 0) := by rw [printM, hr, if_neg (by simp), hX, if_neg hbig]
        have hq := hPr.out.symm.trans hpm
        obtain ⟨rfl, rfl⟩ : s0 = B X ∧ s1 = 0 := by injection hq; exact ⟨‹_›, ‹_›⟩
        have hz : ¬ 16384 < (B X).size := by rw [size_B]; exact hbig
        have z1 : decide (16384 < ((B X).size : Int)) = false := by rw [decide_eq_false_iff_not]; omega
        have z2 : decide (16384 < (B X).size) = false := by rw [decide_eq_false_iff_not]; omega
        clear hr hpm hq hX hbig
        generalize B X = t at *
        go_enter Tryz.func3, Tryz.ntmps3
        go_wp2_with fail
        generalize w.alloc (.cells #[V0, V1] 25) = wa at *
        refine (hFew.out _ hBox.out).mono ?_
        rintro x w1 ⟨rfl, hb⟩
        have hB1 := Lib.hid (hBox.out.trans (hb.mono hBox.out.size))
        have hC1 := Lib.hid ((hb.block _ hSz0).trans hCell.out)
        have hS1 := Nat.lt_of_lt_of_le hSz0 hb.size
        have k0 := (cell_of_heap (j := 0) hC1.out).trans rfl
        have k1 := (cell_of_heap (j := 1) hC1.out).trans rfl
        clear hb hBox hCell hSz0
        go_wp2_with fail
        refine (hSame.out _ hB1.out).mono ?_
        rintro x w2 ⟨A2, c2, A3, c3, rfl, ⟨l2, g2⟩, ⟨l3, g3⟩, hb⟩
        have hB2 := Lib.hid (hB1.out.trans (hb.mono hB1.out.size))
        have hC2 := Lib.hid ((hb.block _ hS1).trans hC1.out)
        have hS2 := Nat.lt_of_lt_of_le hS1 hb.size
        have hG2 := Lib.hid g2
        have hG3 := Lib.hid g3
        clear k0 k1
        have k0 := (cell_of_heap (j := 0) hC2.out).trans rfl
        have k1 := (cell_of_heap (j := 1) hC2.out).trans rfl
        clear hb hB1 hC1 hS1 g2 g3
        go_wp2_with fail
        refine (hP.out A2 A3 c2 c3 _ l2 hG2.out l3 hG3.out).mono ?_
        rintro x w3 ⟨rfl, hb⟩
        have hB3 := Lib.hid (hB2.out.trans (hb.mono hB2.out.size))
        have hC3 := Lib.hid ((hb.block _ hS2).trans hC2.out)
        have hS3 := Nat.lt_of_lt_of_le hS2 hb.size
        clear k0 k1
        have k0 := (cell_of_heap (j := 0) hC3.out).trans rfl
        have k1 := (cell_of_heap (j := 1) hC3.out).trans rfl
        clear hb hB2 hC2 hS2 hG2 hG3 l2 l3
        go_wp2_with fail
        refine (hRR2.out _ hB3.out).mono ?_
        rintro x w4 ⟨rfl, hb⟩
        have hB4 := Lib.hid (hB3.out.trans (hb.mono hB3.out.size))
        have hC4 := Lib.hid ((hb.block _ hS3).trans hC3.out)
        have hS4 := Nat.lt_of_lt_of_le hS3 hb.size
        clear k0 k1
        have k0 := (cell_of_heap (j := 0) hC4.out).trans rfl
        have k1 := (cell_of_heap (j := 1) hC4.out).trans rfl
        clear hb hB3 hC3 hS3
        go_wp2_with fail
        refine (hRP2.out _ hB4.out).mono ?_
        rintro x w5 ⟨rfl, hb⟩
        have hB5 := Lib.hid (hB4.out.trans (hb.mono hB4.out.size))
        have hC5 := Lib.hid ((hb.block _ hS4).trans hC4.out)
        have hS5 := Nat.lt_of_lt_of_le hS4 hb.size
        clear k0 k1
        have k0 := (cell_of_heap (j := 0) hC5.out).trans rfl
        have k1 := (cell_of_heap (j := 1) hC5.out).trans rfl
        clear hb hB4 hC4 hS4
        go_wp2_with fail
        refine (hSame.out _ hB5.out).mono ?_
        rintro x w6 ⟨A2, c2, A3, c3, rfl, ⟨l2, g2⟩, ⟨l3, g3⟩, hb⟩
        have hB6 := Lib.hid (hB5.out.trans (hb.mono hB5.out.size))
        have hC6 := Lib.hid ((hb.block _ hS5).trans hC5.out)
        have hS6 := Nat.lt_of_lt_of_le hS5 hb.size
        have hG2 := Lib.hid g2
        have hG3 := Lib.hid g3
        clear k0 k1
        have k0 := (cell_of_heap (j := 0) hC6.out).trans rfl
        have k1 := (cell_of_heap (j := 1) hC6.out).trans rfl
        clear hb hB5 hC5 hS5 g2 g3
        go_wp2_with fail
        refine (hRt.out A2 A3 c2 c3 _ l2 hG2.out l3 hG3.out).mono ?_
        rintro x w7 ⟨rfl, hb⟩
        have hB7 := Lib.hid (hB6.out.trans (hb.mono hB6.out.size))
        have hC7 := Lib.hid ((hb.block _ hS6).trans hC6.out)
        have hS7 := Nat.lt_of_lt_of_le hS6 hb.size
        clear k0 k1
        have k0 := (cell_of_heap (j := 0) hC7.out).trans rfl
        have k1 := (cell_of_heap (j := 1) hC7.out).trans rfl
        clear hb hB6 hC6 hS6 hG2 hG3 l2 l3
        go_wp2_with fail
        refine (hAw.out _).mono ?_
        rintro x w8 ⟨rfl, hb⟩
        have hB8 := Lib.hid (hB7.out.trans (hb.mono hB7.out.size))
        have hC8 := Lib.hid ((hb.block _ hS7).trans hC7.out)
        have hS8 := Nat.lt_of_lt_of_le hS7 hb.size
        clear k0 k1
        have k0 := (cell_of_heap (j := 0) hC8.out).trans rfl
        have k1 := (cell_of_heap (j := 1) hC8.out).trans rfl
        clear hb hB7 hC7 hS7
        go_wp2_with fail
        go_ret
        exact ⟨rfl, hB8.out⟩
theorem walk (cs : Array Value) (x : List S38 × List ByteArray) (w : World) (h : St.ManAt w cs x.1 x.2) :
    Calls Tryz.prog 3 #[.agg cs] w fun e w' => e = .returned (.bool true) ∧ Below w.heap.size w w' := by
  obtain ⟨A0, c0, A1, c1, rfl, h0, g0, h1, g1⟩ := h
  exact tells x.1 x.2 A0 A1 c0 c1 w h0 g0 h1 g1
end Go.Proofs.YtapdchapjpnceaaGreatDoor.PrR
end
section
namespace Go.Proofs.YtapdchapjpnceaaGreatDoor.printTells
open Go.ChangeShapes Go.WideShapes Go.ChangeAt Go.RowKit
open Go.ChangeMaps (open_string shut_string)
set_option linter.unusedVariables false
theorem own : ownKnob Tryz.prog.godebug = none := by kernel_rfl
theorem laidOut : laidOutB Tryz.prog = true := by kernel_rfl
set_option maxRecDepth 100000 in
theorem lifted (os : Os) (started : os.Started) (H : Type) (enc : TypeId × Value → H) :
    ReturnsInHanded {} Tryz.checked os 3 .any (fun w args => (Rows.printTellsSpec.pre enc Tryz.prog Tryz.f3 Rows.printTellsRow.domain false w args ∧ laidMetH Tryz.prog Rows.printTellsRow.laid w) ∧ sizedMet enc Tryz.prog Tryz.f3 (OpenSpec.ofChange Rows.printTellsSpec) false w args) (Rows.printTellsSpec.post enc Tryz.prog Tryz.f3 false true false false) := by
  refine returnsInHanded_of_change_and (C := Tryz.checked) (X := fun w _ => laidMetH Tryz.prog Rows.printTellsRow.laid w) (fun _ _ _ hh h => h.of_heap hh) own started (by kernel_rfl) Tryz.func3
    (ChangeSpec.witness_shaped (enc := enc) (C := Tryz.checked) (os := os) (X := fun w _ => laidMetH Tryz.prog Rows.printTellsRow.laid w) false (World.laidAll Tryz.prog os Rows.printTellsRow.laid) #[.agg #[.slice none 0 0, .slice none 0 0]] 8 (World.laidAll_os _ _ _)
      (World.shaped_of_ZipB (by kernel_rfl) (by kernel_rfl)) (by kernel_rfl) (by kernel_rfl) (by kernel_rfl)
      (by rw [MakeChecks.laidMetH_plain _ _ _ (by kernel_rfl)]; exact laidMet_laidAll _ (by kernel_rfl) (by kernel_rfl))) ?_
  intro W base args ds gs before hval0 hW hcnd hsz0 hL _
  have hsz : (DataW.weightsEach Tryz.prog (Tryz.f3.params.toList ++ Rows.printTellsSpec.plain.varTypes Tryz.prog) (ds ++ gs)).all (· ≤ reachBytes) = true := hsz0
  have hval : ∀ (j : Nat) t v, Tryz.f3.params[j]? = some t → args[j]? = some v → Value.okWide Tryz.prog W .any base t v := hval0
  have hW' := hW
  obtain ⟨p, q, hA0, hV, rfl, hfz, hnd⟩ := hW
  have hA : DataW.TrodAll enc Tryz.prog W 0 (fun _ => true) true Tryz.f3.params.toList args.toList ds p := hA0
  rw [Tryz.params3] at hA hval hsz
  obtain ⟨v0, vs0, d0, ds0, p0, q0, hargs, rfl, rfl, h0, r0⟩ := trodAll_cons hA
  obtain ⟨rfl, rfl, rfl⟩ := trodAll_nil r0
  obtain rfl : args = #[v0] := by cases args; simp_all
  obtain ⟨rfl, rfl⟩ := trodVars_none hV
  obtain ⟨a0, rfl, z0⟩ := okWide_struct Tryz.underlying25 (hval 0 25 v0 rfl rfl)
  have k0 := h0
  have lt0 : ∀ x ∈ p0, x.block < W.heap.size := by obtain ⟨m, hm⟩ := k0; exact DataW.trod_lt m _ _ _ hm
  obtain ⟨l0, w0⟩ := St.man_open k0
  clear hA0 hval0 hsz0 hsz
  refine (PrR.walk a0 l0 W w0).mono fun e W' ⟨he, bel⟩ => ?_
  subst he
  exact ⟨_, rfl, _, _, _, [], _, [], hW', trodAll_mk1 (shut_bool Tryz.underlying4 _), (trodAll_cons_mk (Below.trod laidOut (by kernel_rfl) (of_decide_eq_true (by kernel_rfl)) k0 bel lt0) trodAll_mk0), rfl, bel.frame _, fun h => by cases h⟩
theorem over : Rows.printTellsRow.holds Tryz.pinned (OpenSpec.ofChange Rows.printTellsSpec) :=
  OpenClaim.holds_of_wide 3 Tryz.f3 rfl rfl rfl rfl rfl rfl rfl ⟨rfl, rfl, rfl, rfl, rfl⟩ rfl rfl rfl rfl rfl (by kernel_rfl) Tryz.func3 (by kernel_rfl)
    (of_decide_eq_true (by kernel_rfl)) (by unfold Func.isWrapper; first | (rw [if_pos (by decide +kernel)]; kernel_rfl) | (rw [if_neg (by decide +kernel)]; exact ⟨rfl, rfl⟩))
    (fun os started H enc _ => lifted os started H enc)
theorem card : Rows.PrintTellsCardSaid :=
  Claim7.holds_tied_plain_at .later [] [.data, .data, .data, .data, .pinned] true (true, "d25e9729c2b0fecccb0ed400d0387789bcffdaf6bb3a1c046c77a1bd3755c7a2") true over (fun _ h => by cases h) (by kernel_rfl) (fun _ h => by cases h) printTells_row_tie rfl ⟨rfl, rfl⟩ (by kernel_rfl) rfl
    (fun f fn hf hfn => by
      obtain rfl : f = 3 := Option.some.inj ((show Tryz.prog.funcNamed "bellows/bellowslaw12.PrintTells" = some 3 by kernel_rfl).symm.trans hf) |>.symm
      obtain rfl : fn = Tryz.f3 := (Option.some.inj (Tryz.func3.symm.trans hfn)).symm
      have hall : (Tryz.f3.params.toList.all fun u => !Tryz.prog.wantsStandIn u) = true := by kernel_rfl
      exact ⟨by kernel_rfl, fun j t ht => by
        have hm : t ∈ Tryz.f3.params.toList := by simpa using Array.mem_of_getElem? ht
        exact (show Tryz.prog.wantsStandIn t = false by simpa using List.all_eq_true.1 hall t hm)⟩)
    (by kernel_rfl)
#print axioms card
end Go.Proofs.YtapdchapjpnceaaGreatDoor.printTells
namespace Go.Proofs.YtapdchapjpnceaaGreatDoor
theorem printTells_card : Rows.PrintTellsCardSaid := printTells.card
end Go.Proofs.YtapdchapjpnceaaGreatDoor
end
