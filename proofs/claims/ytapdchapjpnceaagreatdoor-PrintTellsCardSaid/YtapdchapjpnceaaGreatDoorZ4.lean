/- Laid together by wip/tools/shake.py from texts of this claim: PBellowsref12Digits0, PrRefA, PrRefW, PBellowsref12Print0, PrRefC. -/
import Derived.Test.YtapdchapjpnceaaGreatDoorZ3
section
namespace Go.Proofs.YtapdchapjpnceaaGreatDoor.P
open Go.RowKit Go.Proofs.YtapdchapjpnceaaGreatDoorW.PrintWords Go.Proofs.YtapdchapjpnceaaGreatDoorW.PrintLast Go.Proofs.YtapdchapjpnceaaGreatDoorW.PrintMore
attribute [local go_sem] max2_int min2_int max_two min_two max_three min_three max_four min_four
set_option linter.unusedVariables false
set_option linter.unusedSimpArgs false
def bellowsref12_Digits.f : Nat → Int → Option (ByteArray)
  | 0, _ => none
  | k + 1, a0 => if a0 < 10 then (if 0 ≤ a0 then (if a0 ≤ (wrap64 (a0 + 1)) then (if (wrap64 (a0 + 1)) ≤ 10 then (some ((⟨#[48, 49, 50, 51, 52, 53, 54, 55, 56, 57]⟩ : ByteArray).extract (a0 : Int).toNat ((wrap64 (a0 + 1)) : Int).toNat)) else (none)) else (none)) else (none)) else ((bellowsref12_Digits.f k (wrap64 (Int.tdiv a0 10))).bind fun t224 => (if 0 ≤ (Int.tmod a0 10) then (if (Int.tmod a0 10) ≤ (wrap64 ((Int.tmod a0 10) + 1)) then (if (wrap64 ((Int.tmod a0 10) + 1)) ≤ 10 then (if t224.size + ((⟨#[48, 49, 50, 51, 52, 53, 54, 55, 56, 57]⟩ : ByteArray).extract ((Int.tmod a0 10) : Int).toNat ((wrap64 ((Int.tmod a0 10) + 1)) : Int).toNat).size ≤ 9223372036854775807 then (some (t224 ++ ((⟨#[48, 49, 50, 51, 52, 53, 54, 55, 56, 57]⟩ : ByteArray).extract ((Int.tmod a0 10) : Int).toNat ((wrap64 ((Int.tmod a0 10) + 1)) : Int).toNat))) else (none)) else (none)) else (none)) else (none)))
theorem bellowsref12_Digits.mono_l : ∀ k, (∀ y0, LeO (bellowsref12_Digits.f k y0) (bellowsref12_Digits.f (k + 1) y0))
  | 0 => fun _ r h => by simp [bellowsref12_Digits.f] at h
  | k + 1 => by
    have ih0 := bellowsref12_Digits.mono_l k
    · intro y0
      unfold bellowsref12_Digits.f
      repeat' first
      | (with_reducible exact ih0 _)
      | (with_reducible exact LeO.refl _)
      | (with_reducible exact LeO.none _)
      | (with_reducible refine LeO.ite ?_ ?_)
      | (with_reducible refine LeO.bind ?_ (fun _ => ?_))
      | exact ih0 _
      | exact LeO.none _
      | refine LeO.ite ?_ ?_
      | refine LeO.bind ?_ (fun _ => ?_)
theorem bellowsref12_Digits.mono : ∀ a0 k, LeO (bellowsref12_Digits.f k a0) (bellowsref12_Digits.f (k + 1) a0) := by
  intro a0 k
  have ih0 := bellowsref12_Digits.mono_l k
  exact ih0 a0
def bellowsref12_Digits.T3 : Bool × List (List Nat × List Nat) := (true, [([], []), ([0], [0]), ([1], [1]), ([], []), ([3], [3]), ([], []), ([5], [5]), ([6], [6]), ([4, 7], [4, 7]), ([2, 8], [2, 8]), ([9, 2, 0, 1, 2, 3, 4, 5, 6, 7, 8, 9], [9])])
def bellowsref12_Digits.B3 : List Nat := [0, 1, 3, 0, 8, 0, 32, 96, 248, 511, 1023]
theorem bellowsref12_Digits.tab3 : rtab .any (opsOf Tryz.f22 3) = bellowsref12_Digits.T3 := by kernel_rfl
theorem bellowsref12_Digits.bits3 : waitsOk bellowsref12_Digits.T3.2 bellowsref12_Digits.B3 = true := by kernel_rfl
set_option maxHeartbeats 8000000 in
set_option maxRecDepth 100000 in
theorem bellowsref12_Digits.calls (k : Nat) : ∀ (a0 : Int) (r : ByteArray) (w : World) (h : bellowsref12_Digits.f k a0 = some r),
    Calls Tryz.prog 22 #[.int .i64 a0] w fun e w' => e = .returned (.string r) ∧ Below w.heap.size w w' := by
  induction k using Nat.strongRecOn with
  | _ k ih =>
  intro a0 r w h
  cases k with
  | zero => exact absurd h (by simp [bellowsref12_Digits.f])
  | succ k =>
  simp only [bellowsref12_Digits.f] at h
  have HB := Aside0.mk (Below.refl w.heap.size w)
  have H : (if a0 < 10 then (if 0 ≤ a0 then (if a0 ≤ (wrap64 (a0 + 1)) then (if (wrap64 (a0 + 1)) ≤ 10 then (some ((⟨#[48, 49, 50, 51, 52, 53, 54, 55, 56, 57]⟩ : ByteArray).extract (a0 : Int).toNat ((wrap64 (a0 + 1)) : Int).toNat)) else (none)) else (none)) else (none)) else ((bellowsref12_Digits.f k (wrap64 (Int.tdiv a0 10))).bind fun t224 => (if 0 ≤ (Int.tmod a0 10) then (if (Int.tmod a0 10) ≤ (wrap64 ((Int.tmod a0 10) + 1)) then (if (wrap64 ((Int.tmod a0 10) + 1)) ≤ 10 then (if t224.size + ((⟨#[48, 49, 50, 51, 52, 53, 54, 55, 56, 57]⟩ : ByteArray).extract ((Int.tmod a0 10) : Int).toNat ((wrap64 ((Int.tmod a0 10) + 1)) : Int).toNat).size ≤ 9223372036854775807 then (some (t224 ++ ((⟨#[48, 49, 50, 51, 52, 53, 54, 55, 56, 57]⟩ : ByteArray).extract ((Int.tmod a0 10) : Int).toNat ((wrap64 ((Int.tmod a0 10) + 1)) : Int).toNat))) else (none)) else (none)) else (none)) else (none)))) = some r := h
  clear h
  by_cases c2 : a0 < 10
  · rw [if_pos c2] at H
    have c2b0 : decide (a0 < 10) = true := decide_eq_true c2
    clear c2
    by_cases c3 : 0 ≤ a0
    · rw [if_pos c3] at H
      have c3b0 := eq_true c3
      have c3b1 : decide (0 ≤ a0) = true := decide_eq_true c3
      clear c3
      by_cases c4 : a0 ≤ (wrap64 (a0 + 1))
      · rw [if_pos c4] at H
        have c4b0 := eq_true c4
        have c4b1 : decide (a0 ≤ (wrap64 (a0 + 1))) = true := decide_eq_true c4
        by_cases c5 : (wrap64 (a0 + 1)) ≤ 10
        · rw [if_pos c5] at H
          have c5b0 := eq_true c5
          have c5b1 : decide ((wrap64 (a0 + 1)) ≤ 10) = true := decide_eq_true c5
          obtain rfl := Option.some.inj H
          go_enter Tryz.func22, Tryz.ntmps22
          go_wp2
          go_ret
          exact ⟨by first | rfl | (simp [errW_none, errW_some] <;> rfl) | (simp [*, errW_none, errW_some] <;> rfl), by repeat (first | (with_reducible first | exact HB.out | apply below_alloc | apply pw_below_drewN | apply below_drew1) | exact HB.out)⟩
        · rw [if_neg c5] at H
          exact absurd H (by simp)
      · rw [if_neg c4] at H
        exact absurd H (by simp)
    · rw [if_neg c3] at H
      exact absurd H (by simp)
  · rw [if_neg c2] at H
    have c2b0 : decide (a0 < 10) = false := decide_eq_false c2
    clear c2
    replace H := Option.bind_eq_some_iff.mp H
    obtain ⟨t224, A60, H⟩ := H
    replace H : (if 0 ≤ (Int.tmod a0 10) then (if (Int.tmod a0 10) ≤ (wrap64 ((Int.tmod a0 10) + 1)) then (if (wrap64 ((Int.tmod a0 10) + 1)) ≤ 10 then (if t224.size + ((⟨#[48, 49, 50, 51, 52, 53, 54, 55, 56, 57]⟩ : ByteArray).extract ((Int.tmod a0 10) : Int).toNat ((wrap64 ((Int.tmod a0 10) + 1)) : Int).toNat).size ≤ 9223372036854775807 then (some (t224 ++ ((⟨#[48, 49, 50, 51, 52, 53, 54, 55, 56, 57]⟩ : ByteArray).extract ((Int.tmod a0 10) : Int).toNat ((wrap64 ((Int.tmod a0 10) + 1)) : Int).toNat))) else (none)) else (none)) else (none)) else (none)) = some r := H
    have A6 := Aside0.mk A60
    clear A60
    obtain ⟨ji7, hji7⟩ : ∃ j_ : Int, (Int.tmod a0 10) = j_ := ⟨_, rfl⟩
    replace H : (if 0 ≤ (ji7) then (if (ji7) ≤ (wrap64 ((ji7) + 1)) then (if (wrap64 ((ji7) + 1)) ≤ 10 then (if t224.size + ((⟨#[48, 49, 50, 51, 52, 53, 54, 55, 56, 57]⟩ : ByteArray).extract ((ji7) : Int).toNat ((wrap64 ((ji7) + 1)) : Int).toNat).size ≤ 9223372036854775807 then (some (t224 ++ ((⟨#[48, 49, 50, 51, 52, 53, 54, 55, 56, 57]⟩ : ByteArray).extract ((ji7) : Int).toNat ((wrap64 ((ji7) + 1)) : Int).toNat))) else (none)) else (none)) else (none)) else (none)) = some r := by first | (rw [hji7] at H; exact H) | (simp only [hji7] at H ⊢; exact H)
    (try rw [hji7] at A6)
    by_cases c8 : 0 ≤ (ji7)
    · rw [if_pos c8] at H
      have c8b0 := eq_true c8
      have c8b1 : decide (0 ≤ (ji7)) = true := decide_eq_true c8
      clear c8
      by_cases c9 : (ji7) ≤ (wrap64 ((ji7) + 1))
      · rw [if_pos c9] at H
        have c9b0 := eq_true c9
        have c9b1 : decide ((ji7) ≤ (wrap64 ((ji7) + 1))) = true := decide_eq_true c9
        by_cases c10 : (wrap64 ((ji7) + 1)) ≤ 10
        · rw [if_pos c10] at H
          have c10b0 := eq_true c10
          have c10b1 : decide ((wrap64 ((ji7) + 1)) ≤ 10) = true := decide_eq_true c10
          by_cases c11 : t224.size + ((⟨#[48, 49, 50, 51, 52, 53, 54, 55, 56, 57]⟩ : ByteArray).extract ((ji7) : Int).toNat ((wrap64 ((ji7) + 1)) : Int).toNat).size ≤ 9223372036854775807
          · rw [if_pos c11] at H
            have c11b0 := eq_true c11
            have c11b1 : decide (t224.size + ((⟨#[48, 49, 50, 51, 52, 53, 54, 55, 56, 57]⟩ : ByteArray).extract ((ji7) : Int).toNat ((wrap64 ((ji7) + 1)) : Int).toNat).size ≤ 9223372036854775807) = true := decide_eq_true c11
            try have c11b2 : (9223372036854775807 < t224.size + ((⟨#[48, 49, 50, 51, 52, 53, 54, 55, 56, 57]⟩ : ByteArray).extract ((ji7) : Int).toNat ((wrap64 ((ji7) + 1)) : Int).toNat).size) = False := eq_false (Nat.not_lt.2 c11)
            have c11b6 : (9223372036854775807 < t224.size + ((wrap64 ((ji7) + 1)).toNat - ji7.toNat)) = False := eq_false (by have hh_ := c11; rw [ByteArray.size_extract] at hh_; have hz_ : (⟨#[48, 49, 50, 51, 52, 53, 54, 55, 56, 57]⟩ : ByteArray).size = 10 := rfl; have hb_ : (wrap64 ((ji7) + 1)) ≤ 10 := of_decide_eq_true (by first | (with_reducible assumption) | assumption); omega)
            obtain rfl := Option.some.inj H
            go_enter Tryz.func22, Tryz.ntmps22
            try go_wp2
            have n0_ := Aside0.mk (below_drew1 HB.out)
            clear HB
            have HB := n0_
            clear n0_
            refine start_ (n := 11) (S := fun w' => True) (ds := []) #[false, false, false, false, false, false, false, false, false, false, false] (by kernel_rfl) rfl rfl trivial (fun hHeld => ?_); refine with_tabW bellowsref12_Digits.tab3 bellowsref12_Digits.bits3 (fun HT_ HW_ => ?_)
            generalize w.drew = w12 at HB hHeld ⊢
            refine pure_ (i := 0) (N := some 9) (v := ?_) (a' := ?_) #[true, false, false, false, false, false, false, false, false, false, false] rfl rfl (any_of HT_.out (by kernel_rfl)) (fun _ _ _ h => h) (Or.inl ⟨by rfl, ?_⟩) ?_ ?_
            rotate_left
            · intro w'
              go_simp
              with_reducible rfl
            rotate_left
            · simp only [Act.put, List.setIfInBounds_toArray, List.set_cons_zero, List.set_cons_succ, i64_w, i32_w]
              rfl
            refine pure_ (i := 1) (N := some 10) (v := ?_) (a' := ?_) #[true, true, false, false, false, false, false, false, false, false, false] rfl rfl (any_of HT_.out (by kernel_rfl)) (fun _ _ _ h => h) (Or.inl ⟨by rfl, ?_⟩) ?_ ?_
            rotate_left
            · intro w'
              go_simp
              with_reducible rfl
            rotate_left
            · simp only [Act.put, List.setIfInBounds_toArray, List.set_cons_zero, List.set_cons_succ, i64_w, i32_w]
              rfl
            refine pure_ (i := 3) (N := some 12) (v := ?_) (a' := ?_) #[true, true, false, true, false, false, false, false, false, false, false] rfl rfl (any_of HT_.out (by kernel_rfl)) (fun _ _ _ h => h) (Or.inl ⟨by rfl, ?_⟩) ?_ ?_
            rotate_left
            · intro w'
              go_simp
              with_reducible rfl
            rotate_left
            · simp only [Act.put, List.setIfInBounds_toArray, List.set_cons_zero, List.set_cons_succ, i64_w, i32_w]
              rfl
            refine pure_ (i := 4) (N := some 13) (v := ?_) (a' := ?_) #[true, true, false, true, true, false, false, false, false, false, false] rfl rfl (any_of HT_.out (by kernel_rfl)) (fun _ _ _ h => h) (Or.inl ⟨by rfl, ?_⟩) ?_ ?_
            rotate_left
            · intro w'
              go_simp
              with_reducible rfl
            rotate_left
            · simp only [Act.put, List.setIfInBounds_toArray, List.set_cons_zero, List.set_cons_succ, i64_w, i32_w]
              rfl
            refine pure_ (i := 5) (N := some 14) (v := ?_) (a' := ?_) #[true, true, false, true, true, true, false, false, false, false, false] rfl rfl (any_of HT_.out (by kernel_rfl)) (fun _ _ _ h => h) (Or.inl ⟨by rfl, ?_⟩) ?_ ?_
            rotate_left
            · intro w'
              go_simp
              with_reducible rfl
            rotate_left
            · simp only [Act.put, List.setIfInBounds_toArray, List.set_cons_zero, List.set_cons_succ, i64_w, i32_w]
              rfl
            refine pure_ (i := 6) (N := some 15) (v := ?_) (a' := ?_) #[true, true, false, true, true, true, true, false, false, false, false] rfl rfl (any_of HT_.out (by kernel_rfl)) (fun _ _ _ h => h) (Or.inl ⟨by rfl, ?_⟩) ?_ ?_
            rotate_left
            · intro w'
              go_simp
              with_reducible rfl
            rotate_left
            · simp only [Act.put, List.setIfInBounds_toArray, List.set_cons_zero, List.set_cons_succ, i64_w, i32_w]
              rfl
            refine pure_ (i := 7) (N := some 16) (v := ?_) (a' := ?_) #[true, true, false, true, true, true, true, true, false, false, false] rfl rfl (any_of HT_.out (by kernel_rfl)) (fun _ _ _ h => h) (Or.inl ⟨by rfl, ?_⟩) ?_ ?_
            rotate_left
            · intro w'
              go_simp
              with_reducible rfl
            rotate_left
            · simp only [Act.put, List.setIfInBounds_toArray, List.set_cons_zero, List.set_cons_succ, i64_w, i32_w]
              rfl
            refine pure_ (i := 8) (N := some 17) (v := ?_) (a' := ?_) #[true, true, false, true, true, true, true, true, true, false, false] rfl rfl (any_of HT_.out (by kernel_rfl)) (fun _ _ _ h => h) (Or.inl ⟨by rfl, ?_⟩) ?_ ?_
            rotate_left
            · intro w'
              go_simp
              with_reducible rfl
            rotate_left
            · simp only [Act.put, List.setIfInBounds_toArray, List.set_cons_zero, List.set_cons_succ, i64_w, i32_w]
              rfl
            refine one_ (i := 2) (N := some 11) #[true, true, true, true, true, true, true, true, true, false, false] rfl rfl (one_of HT_.out (by kernel_rfl)) (by decide) (fun K hK => ?_)
            refine goes_ Tryz.func22 (by kernel_rfl) rfl #[.int .i64 (wrap64 (Int.tdiv a0 10))] (by rfl) rfl rfl (by (try simp only [List.map_toArray, List.map_cons, List.map_nil]); first | done | rfl | (simp only [List.length_drop, List.length_take]; rfl)) ?_
            with_reducible refine (ih k (by omega) (wrap64 (Int.tdiv a0 10)) t224 _ A6.out).mono ?_
            rintro e w13 ⟨rfl, hb⟩
            refine ⟨_, rfl, ?_⟩
            have n0_ := Aside0.mk (below_step (by repeat (first | (with_reducible first | exact HB.out | apply below_alloc | apply pw_below_drewN | apply below_drew1) | exact HB.out)) hb)
            clear HB
            have HB := n0_
            clear n0_
            (try clear hb)
            (try clear hb2)
            (try clear hk)
            (try clear hi)
            refine hK.out _ _ trivial (fun hHeld => ?_)
            clear hK K
            refine norm_ (a' := ?_) ?_ ?_
            rotate_left
            · show Act.put _ (some 11) _ = _
              simp only [Act.put, List.setIfInBounds_toArray, List.set_cons_zero, List.set_cons_succ, i64_w, i32_w]
              rfl
            refine pure_ (i := 9) (N := some 18) (v := ?_) (a' := ?_) #[true, true, true, true, true, true, true, true, true, true, false] rfl rfl (any_of HT_.out (by kernel_rfl)) (fun _ _ _ h => h) (Or.inl ⟨by rfl, ?_⟩) ?_ ?_
            rotate_left
            · intro w'
              go_simp
              with_reducible rfl
            rotate_left
            · simp only [Act.put, List.setIfInBounds_toArray, List.set_cons_zero, List.set_cons_succ, i64_w, i32_w]
              rfl
            refine pure_ (i := 10) (N := some 2) (v := ?_) (a' := ?_) #[true, true, true, true, true, true, true, true, true, true, true] rfl rfl (any_of HT_.out (by kernel_rfl)) (fun _ _ _ h => h) (Or.inl ⟨by rfl, ?_⟩) ?_ ?_
            rotate_left
            · intro w'
              go_simp
              with_reducible rfl
            rotate_left
            · simp only [Act.put, List.setIfInBounds_toArray, List.set_cons_zero, List.set_cons_succ, i64_w, i32_w]
              rfl
            refine done_ (done_of HT_.out (by kernel_rfl)) ?_
            try go_wp2
            go_ret
            exact ⟨by first | rfl | (simp [errW_none, errW_some] <;> rfl) | (simp only [← hji7]; first | rfl | (simp [errW_none, errW_some] <;> rfl)) | (simp [*, errW_none, errW_some] <;> rfl), by repeat (first | (with_reducible first | exact HB.out | apply below_alloc | apply pw_below_drewN | apply below_drew1) | exact HB.out)⟩
          · rw [if_neg c11] at H
            exact absurd H (by simp)
        · rw [if_neg c10] at H
          exact absurd H (by simp)
      · rw [if_neg c9] at H
        exact absurd H (by simp)
    · rw [if_neg c8] at H
      exact absurd H (by simp)
end Go.Proofs.YtapdchapjpnceaaGreatDoor.P
end
section
set_option linter.unusedSimpArgs false
set_option linter.unusedVariables false
namespace Go.Proofs.YtapdchapjpnceaaGreatDoor.PrR
open Go.RowKit Go.Lib Go.Proofs.YtapdchapjpnceaaGreatDoorW.PrintWords Go.Proofs.YtapdchapjpnceaaGreatDoor.U Go.Proofs.YtapdchapjpnceaaGreatDoor.P Go.Proofs.YtapdchapjpnceaaGreatDoor.PTh Go.Proofs.YtapdchapjpnceaaGreatDoor.Sc
theorem ref_escape_go : ∀ (r p out : List UInt8), (p ++ r).length ≤ 1000000 → out.length ≤ 2 * p.length →
    Ev (fun k => bellowsref10_Escape.l0 k (B (p ++ r)) (B out) (p.length : Int)) (B (out ++ escL r)) := by
  intro r
  induction r with
  | nil =>
    intro p out _ _
    refine Ev.unroll (Ev.some fun k => ?_)
    rw [bellowsref10_Escape.l0, size_B, if_neg (by simp), escL, List.append_nil]
  | cons c t ih =>
    intro p out hp ho
    have hp' : p.length + t.length + 1 ≤ 1000000 := by simp at hp; omega
    have hw := wrapH p.length (by omega)
    have hb : bt (B (p ++ c :: t)) (p.length : Int) = (c.toNat : Int) := bt_mid _ _ _
    have e1 : ((p ++ c :: t).take (p.length + 1)).drop p.length = [c] := by rw [List.take_length_add_append]; simp
    have hB36 : (⟨#[36]⟩ : ByteArray) = B [36] := rfl
    have i1 : ((p.length : Nat) : Int) < ((p ++ c :: t).length : Int) := by simp; omega
    have i2 : (0 : Int) ≤ (p.length : Int) := by omega
    have i3 : (p.length : Int) ≤ ((p.length + 1 : Nat) : Int) := by omega
    have i4 : ((p.length + 1 : Nat) : Int) ≤ ((p ++ c :: t).length : Int) := by simp; omega
    have i5 : out.length + 1 ≤ 9223372036854775807 := by omega
    have i6 : (out ++ [36]).length + ([c] : List UInt8).length ≤ 9223372036854775807 := by simp; omega
    have i7 : out.length + ([c] : List UInt8).length ≤ 9223372036854775807 := by simp; omega
    rw [escL]
    by_cases he : escB c = true
    · rw [if_pos he]
      have h' := ih (p ++ [c]) (out ++ [36, c]) (by simpa using hp) (by simp; omega)
      rw [List.append_assoc, List.singleton_append, List.length_append, List.length_singleton] at h'
      rw [show out ++ 36 :: c :: escL t = out ++ [36, c] ++ escL t by simp]
      refine Ev.unroll (Ev.congr (fun k => ?_) h')
      have eo : B out ++ (⟨#[36]⟩ : ByteArray) ++ B [c] = B (out ++ [36, c]) := by rw [hB36, B_append, B_append]; simp
      have eq1 : (c.toNat : Int) = 36 ∨ (¬ (c.toNat : Int) = 36 ∧ (c.toNat : Int) = 32) ∨ (¬ (c.toNat : Int) = 36 ∧ ¬ (c.toNat : Int) = 32 ∧ (c.toNat : Int) = 58) ∨ (¬ (c.toNat : Int) = 36 ∧ ¬ (c.toNat : Int) = 32 ∧ ¬ (c.toNat : Int) = 58 ∧ (c.toNat : Int) = 124) := by
        rcases (escB_iff c).1 he with h | h | h | h <;> subst h <;> decide
      rw [bellowsref10_Escape.l0, size_B, if_pos i1, if_pos i2, hb, hw.out, Int.toNat_natCast, Int.toNat_natCast, extract_B, e1, size_B, eo]
      have es : (B out ++ (⟨#[36]⟩ : ByteArray)).size + (B [c]).size = (out ++ [36]).length + ([c] : List UInt8).length := by rw [hB36, B_append, size_B, size_B]
      rw [es]
      rcases eq1 with q | ⟨q1, q⟩ | ⟨q1, q2, q⟩ | ⟨q1, q2, q3, q⟩
      · rw [if_pos q, if_pos i5, if_pos i3, if_pos i4, if_pos i6]
      · rw [if_neg q1, if_pos q, if_pos i5, if_pos i3, if_pos i4, if_pos i6]
      · rw [if_neg q1, if_neg q2, if_pos q, if_pos i5, if_pos i3, if_pos i4, if_pos i6]
      · rw [if_neg q1, if_neg q2, if_neg q3, if_pos q, if_pos i5, if_pos i3, if_pos i4, if_pos i6]
    · rw [if_neg he]
      have h' := ih (p ++ [c]) (out ++ [c]) (by simpa using hp) (by simp; omega)
      rw [List.append_assoc, List.singleton_append, List.length_append, List.length_singleton] at h'
      rw [show out ++ c :: escL t = out ++ [c] ++ escL t by simp]
      refine Ev.unroll (Ev.congr (fun k => ?_) h')
      have hne : ∀ n : Nat, n < 256 → escB (UInt8.ofNat n) = true → ¬ (c.toNat : Int) = (n : Int) := fun n hn hq e => he (by rw [(toNat_eq c n hn).1 e]; exact hq)
      have q1 : ¬ (c.toNat : Int) = 36 := hne 36 (by decide) (by decide)
      have q2 : ¬ (c.toNat : Int) = 32 := hne 32 (by decide) (by decide)
      have q3 : ¬ (c.toNat : Int) = 58 := hne 58 (by decide) (by decide)
      have q4 : ¬ (c.toNat : Int) = 124 := hne 124 (by decide) (by decide)
      rw [bellowsref10_Escape.l0, size_B, if_pos i1, if_pos i2, hb, hw.out, Int.toNat_natCast, Int.toNat_natCast, extract_B, e1, if_neg q1, if_neg q2, if_neg q3, if_neg q4, if_pos i3, if_pos i4, size_B, size_B, if_pos i7, B_append]
theorem ref_Escape (a : ByteArray) (h : a.size ≤ 1000000) : Ev (fun k => bellowsref10_Escape.f k a) (B (escL (toL a))) := by
  have h' := ref_escape_go (toL a) [] [] (by simpa [toL_length] using h) (by simp)
  simp only [List.nil_append, List.length_nil] at h'
  have e : B (toL a) = a := B_toL a
  rw [e] at h'
  exact h'
theorem Right_ev (a : ByteArray) : Ev (fun k => bellowsref03_Right.f k a) (rightL (toL a)) := by
  have := ref_Right (toL a)
  have e : B (toL a) = a := B_toL a
  rw [e] at this
  exact this
theorem rd_at (xs : List ByteArray) (i : Nat) (h : i < xs.length) : rdOf ByteArray.empty xs (i : Int) = xs[i] := rdOf_B xs i h
theorem paths_go (xs : List ByteArray) (hn : xs.length ≤ 1000000000) (d : Nat) : ∀ i : Nat, i + d = xs.length → Ev (fun k => bellowsref12_paths.l0 k xs (i : Int)) (((xs.drop i).map toL).all rightL) := by
  induction d with
  | zero =>
    intro i hi
    refine Ev.unroll (Ev.some fun k => ?_)
    rw [bellowsref12_paths.l0, if_neg (by omega), List.drop_of_length_le (by omega)]; rfl
  | succ d ih =>
    intro i hi
    have hlt : i < xs.length := by omega
    have i1 : (i : Int) < (xs.length : Int) := by omega
    have i2 : (0 : Int) ≤ (i : Int) := by omega
    have hw := wrapH i (by omega)
    refine Ev.unroll ?_
    simp only [bellowsref12_paths.l0, if_pos i1, if_pos i2, rd_at xs i hlt, hw.out]
    refine Ev.bind (Right_ev xs[i]) ?_
    rw [List.drop_eq_getElem_cons hlt, List.map_cons, List.all_cons]
    cases rightL (toL xs[i]) with
    | true => simp only [if_true, Bool.true_and]; exact ih (i + 1) (by omega)
    | false => simp only [Bool.false_eq_true, if_false, Bool.false_and]; exact Ev.now _
theorem ref_paths (xs : List ByteArray) (hn : xs.length ≤ 1000000000) : Ev (fun k => bellowsref12_paths.f k xs) ((xs.map toL).all rightL) := paths_go xs hn xs.length 0 (by omega)
def tailL (xs : List ByteArray) : List UInt8 := xs.flatMap fun x => 32 :: escL (toL x)
theorem tailL_len (xs : List ByteArray) (h : xs.all (fun a => decide (a.size ≤ 1000)) = true) : (tailL xs).length ≤ 2001 * xs.length := by
  induction xs with
  | nil => simp [tailL]
  | cons x xs ih =>
    rw [List.all_cons, Bool.and_eq_true, decide_eq_true_iff] at h
    have h1 := ih h.2
    have h2 := escL_le (toL x)
    rw [toL_length] at h2
    simp only [tailL, List.flatMap_cons, List.length_append, List.length_cons] at h1 ⊢
    omega
theorem row_go (xs : List ByteArray) (hb : boundN xs = true) (d : Nat) : ∀ (i : Nat) (out : List UInt8), i + d = xs.length → out.length ≤ 2001 * i → Ev (fun k => bellowsref12_row.l0 k xs (B out) (i : Int)) (B (out ++ tailL (xs.drop i))) := by
  simp only [boundN, Bool.and_eq_true, decide_eq_true_iff] at hb
  induction d with
  | zero =>
    intro i out hi ho
    refine Ev.unroll (Ev.some fun k => ?_)
    rw [bellowsref12_row.l0, if_neg (by omega), List.drop_of_length_le (by omega)]
    simp [tailL]
  | succ d ih =>
    intro i out hi ho
    have hlt : i < xs.length := by omega
    have i1 : (i : Int) < (xs.length : Int) := by omega
    have i2 : (0 : Int) ≤ (i : Int) := by omega
    have hw := wrapH i (by omega)
    have hx : xs[i].size ≤ 1000 := by
      have := List.all_eq_true.1 hb.2 xs[i] (List.getElem_mem hlt)
      simpa using this
    have hl := escL_le (toL xs[i])
    rw [toL_length] at hl
    have e0 : (⟨#[32]⟩ : ByteArray) = B [32] := rfl
    refine Ev.unroll ?_
    simp only [bellowsref12_row.l0, if_pos i1, if_pos i2, rd_at xs i hlt, hw.out]
    refine Ev.bind (ref_Escape xs[i] (by omega)) ?_
    have h3 : 1 + (B (escL (toL xs[i]))).size ≤ 9223372036854775807 := by rw [size_B]; omega
    have h4 : (B out).size + ((⟨#[32]⟩ : ByteArray) ++ B (escL (toL xs[i]))).size ≤ 9223372036854775807 := by rw [e0, B_append, size_B, size_B]; simp; omega
    simp only [if_pos h3, if_pos h4]
    rw [e0, B_append, B_append]
    have h5 := ih (i + 1) (out ++ ([32] ++ escL (toL xs[i]))) (by omega) (by simp; omega)
    have h6 : out ++ tailL (xs.drop i) = out ++ ([32] ++ escL (toL xs[i])) ++ tailL (xs.drop (i + 1)) := by
      rw [List.drop_eq_getElem_cons hlt]; simp only [tailL, List.flatMap_cons, List.append_assoc, List.cons_append, List.nil_append]
    rw [h6]
    exact h5
theorem ref_row (xs : List ByteArray) (hb : boundN xs = true) : Ev (fun k => bellowsref12_row.f k xs) (B (tailL xs)) := by
  have := row_go xs hb xs.length 0 [] (by omega) (by simp)
  rw [List.drop_zero, List.nil_append] at this
  exact this
theorem digit_all : ((List.range 10).all fun n => (bellowsref12_Digits.f 1 (n : Int)).map toL == some [UInt8.ofNat (48 + n)]) = true := by decide +kernel
theorem digits_all : ((List.range 90).all fun n => (bellowsref12_Digits.f 2 ((n + 10 : Nat) : Int)).map toL == some [UInt8.ofNat (48 + (n + 10) / 10), UInt8.ofNat (48 + (n + 10) % 10)]) = true := by decide +kernel
theorem of_map {o : Option ByteArray} {l : List UInt8} (h : o.map toL = some l) : o = some (B l) := by
  cases o with
  | none => cases h
  | some t =>
    have h' : toL t = l := Option.some.inj h
    rw [← h', B_toL]
theorem ref_Digits (i : Nat) (h : i < 100) : Ev (fun k => bellowsref12_Digits.f k (i : Int)) (B (Lib.decDigits i)) := by
  by_cases h1 : i < 10
  · have := List.all_eq_true.1 digit_all i (List.mem_range.2 h1)
    rw [Lib.decDigits_one h1]
    exact Ev.of (bellowsref12_Digits.mono _) (of_map (beq_iff_eq.1 this))
  · have := List.all_eq_true.1 digits_all (i - 10) (List.mem_range.2 (by omega))
    rw [Lib.decDigits_two h1 h]
    rw [show i - 10 + 10 = i by omega] at this
    exact Ev.of (bellowsref12_Digits.mono _) (of_map (beq_iff_eq.1 this))
theorem plain_noesc_all : ((List.range 256).all fun n => !plainR n || !escR n) = true := by decide +kernel
theorem plain_noesc (b : UInt8) (h : plainB b = true) : escB b = false := by
  have := List.all_eq_true.1 plain_noesc_all b.toNat (List.mem_range.2 b.toNat_lt)
  have h' : plainR b.toNat = true := h
  show escR b.toNat = false
  rw [h'] at this
  simpa using this
theorem right_esc (l : List UInt8) (h : rightL l = true) : escL l = l := by
  refine escL_none l (List.countP_eq_zero.2 fun b hb he => ?_)
  have hc : cleanL l = (l, 0) := by simpa [rightL] using h
  have hall : l.all plainB = true := by
    cases hp : l.all plainB with
    | true => rfl
    | false =>
      exfalso
      unfold cleanL at hc
      split at hc
      · have := congrArg Prod.snd hc; simp at this
      · rw [if_pos (.inr hp)] at hc
        have := congrArg Prod.snd hc; simp at this
  have := plain_noesc b (List.all_eq_true.1 hall b hb)
  rw [this] at he; cases he
theorem tail_right (xs : List ByteArray) (h : (xs.map toL).all rightL = true) : tailL xs = xs.flatMap fun x => 32 :: toL x := by
  induction xs with
  | nil => rfl
  | cons x xs ih =>
    rw [List.map_cons, List.all_cons, Bool.and_eq_true] at h
    have := ih h.2
    simp only [tailL, List.flatMap_cons] at this ⊢
    rw [right_esc _ h.1, this]
theorem join_tail (x : List UInt8) (xs : List ByteArray) : [32] ++ Lib.join (x :: xs.map toL) [32] = 32 :: x ++ xs.flatMap fun y => 32 :: toL y := by
  rw [Lib.join_cons]
  simp [Lib.joinTail, List.flatMap, Function.comp_def]
theorem row_tail (wd : List UInt8) (xs : List ByteArray) (h : (xs.map toL).all rightL = true) : rowL wd (xs.map toL) = if xs = [] then [] else wd ++ tailL xs := by
  cases xs with
  | nil => rfl
  | cons x xs =>
    rw [tail_right _ h, rowL, if_neg (by simp), if_neg (by simp), List.map_cons, List.append_assoc, join_tail]
    simp
end Go.Proofs.YtapdchapjpnceaaGreatDoor.PrR
end
section
set_option linter.unusedSimpArgs false
set_option linter.unusedVariables false
namespace Go.Proofs.YtapdchapjpnceaaGreatDoor.PrR
open Go.RowKit Go.Lib Go.Proofs.YtapdchapjpnceaaGreatDoorW.PrintWords Go.Proofs.YtapdchapjpnceaaGreatDoor.U Go.Proofs.YtapdchapjpnceaaGreatDoor.P Go.Proofs.YtapdchapjpnceaaGreatDoor.PTh Go.Proofs.YtapdchapjpnceaaGreatDoor.Sc
def conv (x : S38) : S43 := ⟨x.f0, x.f1, x.f2, x.f3, x.f4, x.f5⟩
theorem rd38 (l : List S38) (i : Nat) (h : i < l.length) : rd_T38 l (i : Int) = l[i] := by simp [rd_T38, List.getD_eq_getElem?_getD, List.getElem?_eq_getElem h]
def allP (xs : List ByteArray) : Bool := (xs.map toL).all rightL
theorem rightS_eq (x : S38) : rightS (conv x) = (!x.f0.isEmpty && (allP x.f0 && (allP x.f1 && (allP x.f2 && (allP x.f3 && (!(toL x.f4).isEmpty && (((toL x.f5).isEmpty || rightL (toL x.f5)) && (toL x.f4).all visB))))))) := by
  simp only [rightS, rightE, edOf, conv, visL, List.all_append, allP]
  have : (x.f0.map toL).isEmpty = x.f0.isEmpty := by cases x.f0 <;> rfl
  rw [this]
  generalize x.f0.isEmpty = a0
  generalize (toL x.f4).isEmpty = a1
  generalize (toL x.f5).isEmpty = a2
  generalize (x.f0.map toL).all rightL = b0
  generalize (x.f1.map toL).all rightL = b1
  generalize (x.f2.map toL).all rightL = b2
  generalize (x.f3.map toL).all rightL = b3
  generalize (toL x.f4).all visB = b4
  generalize rightL (toL x.f5) = b5
  cases a0 <;> cases a1 <;> cases a2 <;> cases b0 <;> cases b1 <;> cases b2 <;> cases b3 <;> cases b4 <;> cases b5 <;> rfl
theorem paths_r (A : Option Addr) (c : Nat) (xs : List ByteArray) (w : World) (h : Kd.C Kd.string w A xs.length xs) (hc : xs.length ≤ c) (hn : xs.length ≤ 1000000) :
    Calls Tryz.prog 16 #[.slice A xs.length c] w fun e w' => e = .returned (.bool (allP xs)) ∧ Below w.heap.size w w' := by
  obtain ⟨k, hk⟩ := Ev.rounds (ref_paths xs (by omega))
  exact bellowsref12_paths.calls k A c xs (allP xs) w h hc hk
theorem Right_r (a : ByteArray) (w : World) : Calls Tryz.prog 17 #[.string a] w fun e w' => e = .returned (.bool (rightL (toL a))) ∧ Below w.heap.size w w' := by
  obtain ⟨k, hk⟩ := Ev.rounds (Right_ev a)
  exact bellowsref03_Right.calls k a (rightL (toL a)) w hk
theorem take_suc (s : ByteArray) (k : Nat) (h : k < s.size) : (toL s).take (k + 1) = (toL s).take k ++ [s[k]] := by
  rw [List.take_succ_eq_append_getElem (by rw [toL_length]; exact h)]; rfl
theorem vis_no (s : ByteArray) (k : Nat) (h : k < s.size) (hv : visB s[k] = false) : (toL s).all visB = false := by
  rw [List.all_eq_false]
  exact ⟨(toL s)[k]'(by rw [toL_length]; exact h), List.getElem_mem _, by rw [show (toL s)[k]'(by rw [toL_length]; exact h) = s[k] from rfl, hv]; decide⟩
theorem vis_lo {c : UInt8} (h : visB c = true) : 32 ≤ c.toNat := by simp [visB, visR] at h; omega
theorem vis_hi {c : UInt8} (h : visB c = true) : c.toNat ≤ 126 := by simp [visB, visR] at h; omega
theorem vis_out {c : UInt8} (h : visB c = false) : c.toNat < 32 ∨ 126 < c.toNat := by
  by_cases h1 : 32 ≤ c.toNat
  · by_cases h2 : c.toNat ≤ 126
    · simp [visB, visR, h1, h2] at h
    · omega
  · omega
structure Sz (x : S38) : Prop where
  s0 : x.f0.length ≤ 1000000
  s1 : x.f1.length ≤ 1000000
  s2 : x.f2.length ≤ 1000000
  s3 : x.f3.length ≤ 1000000
  s4 : x.f4.size ≤ 1000000
set_option maxRecDepth 100000 in
set_option maxHeartbeats 16000000 in
theorem RefRight (A0 A1 : Option Addr) (c0 c1 : Nat) (l0 : List S38) (l1 : List ByteArray) (w : World) (hr0 : Kd.C k38 w A0 l0.length l0) (hc0 : l0.length ≤ c0) (hr1 : Kd.C Kd.string w A1 l1.length l1) (hc1 : l1.length ≤ c1) (hn : l0.length ≤ 1000000) (hd : l1.length ≤ 1000000) (hs : ∀ x ∈ l0, Sz x) :
    Calls Tryz.prog 7 #[.agg #[.slice A0 l0.length c0, .slice A1 l1.length c1]] w fun e w' => e = .returned (.bool (rightM (l0.map conv) l1)) ∧ Below w.heap.size w w' := by
  have hu25 := Tryz.underlying25
  have hu38 := Tryz.underlying38
  have hm : rightM (l0.map conv) l1 = (decide (l0.length ≤ 200) && (allP l1 && l0.all fun x => rightS (conv x))) := by
    have : (l0.map conv).all rightS = l0.all fun x => rightS (conv x) := by rw [List.all_map]; rfl
    rw [rightM, List.length_map, this, Bool.and_assoc]; rfl
  obtain ⟨R, hR⟩ : ∃ R, rightM (l0.map conv) l1 = R := ⟨_, rfl⟩
  rw [hR] at hm ⊢
  have hmH := Lib.hid hm
  clear hm hR
  have hC0 := Lib.hid hr0
  have hSz := Lib.hid hs
  have hP := Lib.hid (fun (W : World) (h : Below w.heap.size w W) => paths_r A1 c1 l1 W (Kd.C_below hr1 h) hc1 hd)
  clear hr0 hr1 hs
  have hBox := Lib.hid ((Below.refl w.heap.size w).alloc (Nat.le_refl _) (.cells #[.slice A0 l0.length c0, .slice A1 l1.length c1] 25))
  have hCell : Hid ((w.alloc (.cells #[.slice A0 l0.length c0, .slice A1 l1.length c1] 25)).heap[w.heap.size]? = some (.cells #[.slice A0 l0.length c0, .slice A1 l1.length c1] 25 (0, 0))) := heap_alloc_new w _
  have hSz0 : w.heap.size < (w.alloc (.cells #[.slice A0 l0.length c0, .slice A1 l1.length c1] 25)).heap.size := by simp
  by_cases hbig : 200 < l0.length
  · have hdb : decide ((200 : Int) < (l0.length : Int)) = true := by rw [decide_eq_true_iff]; omega
    have hRf : Hid (R = false) := by
      have : ¬ l0.length ≤ 200 := by omega
      show R = false
      rw [hmH.out]; simp [this]
    go_enter Tryz.func7, Tryz.ntmps7
    go_wp2_with fail
    go_ret
    rw [hRf.out]
    exact ⟨rfl, hBox.out⟩
  have hdb : decide ((200 : Int) < (l0.length : Int)) = false := by rw [decide_eq_false_iff_not]; omega
  have hm2 : Hid (R = (allP l1 && l0.all fun x => rightS (conv x))) := by
    have : l0.length ≤ 200 := by omega
    show R = _
    rw [hmH.out]; simp [this]
  go_enter Tryz.func7, Tryz.ntmps7
  go_wp2_with fail
  generalize w.alloc (.cells #[.slice A0 l0.length c0, .slice A1 l1.length c1] 25) = w0 at *
  refine (hP.out _ hBox.out).mono ?_
  rintro e w1 ⟨rfl, hb⟩
  have hB1 := Lib.hid (hBox.out.trans (hb.mono hBox.out.size))
  have hCe1 := Lib.hid ((hb.block _ hSz0).trans hCell.out)
  have hSz1 : w.heap.size < w1.heap.size := Nat.lt_of_lt_of_le hSz0 hb.size
  clear hb hBox hCell hSz0 hP
  cases hpd : allP l1 with
  | false =>
    rw [hpd] at hm2
    go_wp2_with fail
    go_ret
    rw [hm2.out]
    exact ⟨rfl, hB1.out⟩
  | true =>
    rw [hpd] at hm2
    obtain ⟨n, hN⟩ : ∃ n, l0.length = n := ⟨_, rfl⟩
    rw [hN] at hn hC0 hCe1 hc0 hbig hdb
    simp only [hN]
    have k0 := (cell_of_heap (j := 0) hCe1.out).trans rfl
    go_wp2_with fail
    go_loopg [3] n (fun gk s3 wr => ∃ i : Nat, s3 = .int .i64 (i : Int) ∧ i + gk = n ∧ Hid ((l0.take i).all (fun x => rightS (conv x)) = true) ∧ Hid (Below w.heap.size w wr) ∧ Hid (wr.heap[w.heap.size]? = some (.cells #[.slice A0 n c0, .slice A1 l1.length c1] 25 (0, 0))))
    case atStart => exact ⟨0, rfl, Nat.zero_add _, rfl, hB1, hCe1⟩
    case round =>
      obtain ⟨i, rfl, hik, hA, hB, hCe⟩ := hrel
      have hCeS : w.heap.size < wr.heap.size := (Array.getElem?_eq_some_iff.1 hCe.out).1
      have k0 := (cell_of_heap (j := 0) hCe.out).trans rfl
      cases gk with
      | zero =>
        obtain rfl : i = n := by omega
        have hlt : decide ((i : Int) < (i : Int)) = false := by simp
        go_wp2_with fail
        go_ret
        have := hA.out
        rw [List.take_of_length_le (by omega)] at this
        rw [hm2.out, this]
        exact ⟨rfl, hB.out⟩
      | succ gk =>
        have hin : i < l0.length := by omega
        have hlt : decide ((i : Int) < (n : Int)) = true := by rw [decide_eq_true_iff]; omega
        have i1 : (0 : Int) ≤ (i : Int) := by omega
        have i2 : (i : Int) < (n : Int) := by omega
        have hCw : Kd.C k38 wr A0 n l0 := Kd.C_below hC0.out hB.out
        obtain ⟨ad, a0, d0, a1, d1, a2, d2, a3, d3, hA', q0, q1, q2, q3, q4, q5, m0, g0, m1, g1, m2, g2, m3, g3⟩ := at_T38 hCw (i : Int) i1 i2
        subst hA'
        rw [Int.toNat_natCast] at q0 q1 q2 q3 q4 q5
        rw [rd38 l0 i hin] at q0 q1 q2 q3 q4 q5 m0 g0 m1 g1 m2 g2 m3 g3
        have htake : Hid (l0.take (i + 1) = l0.take i ++ [l0[i]]) := List.take_succ_eq_append_getElem hin
        have hz := Lib.hid (hSz.out l0[i] (List.getElem_mem hin))
        have hmem : Hid (rightS (conv l0[i]) = false → l0.all (fun x => rightS (conv x)) = false) := by
          intro hr
          rw [List.all_eq_false]
          exact ⟨l0[i], List.getElem_mem hin, by simp [hr]⟩
        have hq := Lib.hid (rightS_eq l0[i])
        generalize l0[i] = x at *
        have p0 := Lib.hid (fun (W : World) (h : Below wr.heap.size wr W) => paths_r a0 d0 x.f0 W (Kd.C_below g0 h) m0 hz.out.s0)
        have p1 := Lib.hid (fun (W : World) (h : Below wr.heap.size wr W) => paths_r a1 d1 x.f1 W (Kd.C_below g1 h) m1 hz.out.s1)
        have p2 := Lib.hid (fun (W : World) (h : Below wr.heap.size wr W) => paths_r a2 d2 x.f2 W (Kd.C_below g2 h) m2 hz.out.s2)
        have p3 := Lib.hid (fun (W : World) (h : Below wr.heap.size wr W) => paths_r a3 d3 x.f3 W (Kd.C_below g3 h) m3 hz.out.s3)
        have p5 := Lib.hid (fun (W : World) => Right_r x.f5 W)
        have hBa := Lib.hid ((Below.refl wr.heap.size wr).alloc (Nat.le_refl _) (.cells #[.slice a0 x.f0.length d0, .slice a1 x.f1.length d1, .slice a2 x.f2.length d2, .slice a3 x.f3.length d3, .string x.f4, .string x.f5] 38))
        have hCa : Hid ((wr.alloc (.cells #[.slice a0 x.f0.length d0, .slice a1 x.f1.length d1, .slice a2 x.f2.length d2, .slice a3 x.f3.length d3, .string x.f4, .string x.f5] 38)).heap[wr.heap.size]? = some (.cells #[.slice a0 x.f0.length d0, .slice a1 x.f1.length d1, .slice a2 x.f2.length d2, .slice a3 x.f3.length d3, .string x.f4, .string x.f5] 38 (0, 0))) := heap_alloc_new wr _
        have hSa : wr.heap.size < (wr.alloc (.cells #[.slice a0 x.f0.length d0, .slice a1 x.f1.length d1, .slice a2 x.f2.length d2, .slice a3 x.f3.length d3, .string x.f4, .string x.f5] 38)).heap.size := by simp
        have hFalse : Hid (rightS (conv x) = false → R = false) := fun h => by rw [hm2.out, hmem.out h]; rfl
        clear g0 m0 g1 m1 g2 m2 g3 m3 hCw
        by_cases h0 : x.f0 = []
        · have hl0 : decide (((x.f0.length : Nat) : Int) = 0) = true := by rw [h0]; rfl
          have hrf : Hid (R = false) := hFalse.out (by rw [hq.out, h0]; rfl)
          go_wp2_with fail
          go_ret
          rw [hrf.out]
          exact ⟨rfl, hB.out.trans (((Below.refl wr.heap.size wr).alloc (Nat.le_refl _) _).mono hB.out.size)⟩
        have hp : 0 < x.f0.length := List.length_pos_iff.2 h0
        have hl0 : decide (((x.f0.length : Nat) : Int) = 0) = false := by rw [decide_eq_false_iff_not]; omega
        have hl2 : (((x.f0.length : Nat) : Int) == 0) = false := by rw [beq_eq_false_iff_ne]; omega
        have hq1 : Hid (rightS (conv x) = (allP x.f0 && (allP x.f1 && (allP x.f2 && (allP x.f3 && (!(toL x.f4).isEmpty && (((toL x.f5).isEmpty || rightL (toL x.f5)) && (toL x.f4).all visB))))))) := by
          have : x.f0.isEmpty = false := by cases h : x.f0 with | nil => exact absurd h h0 | cons _ _ => rfl
          show _ = _
          rw [hq.out, this]; rfl
        go_wp2_with fail
        generalize wr.alloc (.cells #[.slice a0 x.f0.length d0, .slice a1 x.f1.length d1, .slice a2 x.f2.length d2, .slice a3 x.f3.length d3, .string x.f4, .string x.f5] 38) = wa at *
        refine (p0.out _ hBa.out).mono ?_
        rintro e wb0 ⟨rfl, hb⟩
        have hBb0 := Lib.hid (hBa.out.trans (hb.mono hBa.out.size))
        have hCb0 := Lib.hid ((hb.block _ hSa).trans hCa.out)
        have hSb0 := Nat.lt_of_lt_of_le hSa hb.size
        have k1 := (cell_of_heap (j := 1) hCb0.out).trans rfl
        clear hb hBa hCa hSa p0
        cases hp0 : allP x.f0 with
        | false =>
          have hrf : Hid (R = false) := hFalse.out (by rw [hq1.out, hp0]; simp)
          clear hp0
          go_wp2_with fail
          go_ret
          rw [hrf.out]
          exact ⟨rfl, hB.out.trans (hBb0.out.mono hB.out.size)⟩
        | true =>
        have hp0' := Lib.hid hp0
        clear hp0
        go_wp2_with fail
        refine (p1.out _ hBb0.out).mono ?_
        rintro e wb1 ⟨rfl, hb⟩
        have hBb1 := Lib.hid (hBb0.out.trans (hb.mono hBb0.out.size))
        have hCb1 := Lib.hid ((hb.block _ hSb0).trans hCb0.out)
        have hSb1 := Nat.lt_of_lt_of_le hSb0 hb.size
        have k2 := (cell_of_heap (j := 2) hCb1.out).trans rfl
        clear hb hBb0 hCb0 hSb0 p1
        cases hp1 : allP x.f1 with
        | false =>
          have hrf : Hid (R = false) := hFalse.out (by rw [hq1.out, hp1]; simp)
          clear hp1
          go_wp2_with fail
          go_ret
          rw [hrf.out]
          exact ⟨rfl, hB.out.trans (hBb1.out.mono hB.out.size)⟩
        | true =>
        have hp1' := Lib.hid hp1
        clear hp1
        go_wp2_with fail
        refine (p2.out _ hBb1.out).mono ?_
        rintro e wb2 ⟨rfl, hb⟩
        have hBb2 := Lib.hid (hBb1.out.trans (hb.mono hBb1.out.size))
        have hCb2 := Lib.hid ((hb.block _ hSb1).trans hCb1.out)
        have hSb2 := Nat.lt_of_lt_of_le hSb1 hb.size
        have k3 := (cell_of_heap (j := 3) hCb2.out).trans rfl
        clear hb hBb1 hCb1 hSb1 p2
        cases hp2 : allP x.f2 with
        | false =>
          have hrf : Hid (R = false) := hFalse.out (by rw [hq1.out, hp2]; simp)
          clear hp2
          go_wp2_with fail
          go_ret
          rw [hrf.out]
          exact ⟨rfl, hB.out.trans (hBb2.out.mono hB.out.size)⟩
        | true =>
        have hp2' := Lib.hid hp2
        clear hp2
        go_wp2_with fail
        refine (p3.out _ hBb2.out).mono ?_
        rintro e wb3 ⟨rfl, hb⟩
        have hBb3 := Lib.hid (hBb2.out.trans (hb.mono hBb2.out.size))
        have hCb3 := Lib.hid ((hb.block _ hSb2).trans hCb2.out)
        have hSb3 := Nat.lt_of_lt_of_le hSb2 hb.size
        have k4 := (cell_of_heap (j := 4) hCb3.out).trans rfl
        have k5 := (cell_of_heap (j := 5) hCb3.out).trans rfl
        clear hb hBb2 hCb2 hSb2 p3
        cases hp3 : allP x.f3 with
        | false =>
          have hrf : Hid (R = false) := hFalse.out (by rw [hq1.out, hp3]; simp)
          clear hp3
          go_wp2_with fail
          go_ret
          rw [hrf.out]
          exact ⟨rfl, hB.out.trans (hBb3.out.mono hB.out.size)⟩
        | true =>
        have hp3' := Lib.hid hp3
        clear hp3
        have k4 := (cell_of_heap (j := 4) hCb3.out).trans rfl
        have tl4 := Lib.hid (show x.f4.toList = toL x.f4 from ByteArray.toList_eq ..)
        have tl5 := Lib.hid (show x.f5.toList = toL x.f5 from ByteArray.toList_eq ..)
        have hq2 : Hid (rightS (conv x) = (!(toL x.f4).isEmpty && (((toL x.f5).isEmpty || rightL (toL x.f5)) && (toL x.f4).all visB))) := by
          show _ = _
          rw [hq1.out, hp0'.out, hp1'.out, hp2'.out, hp3'.out]; simp only [Bool.true_and]
        clear hp0' hp1' hp2' hp3' hq1 hq
        cases h4 : (toL x.f4).isEmpty with
        | true =>
          have e4 : x.f4.toList.isEmpty = true := by rw [tl4.out]; exact h4
          have e5 : (x.f4.toList == []) = true := by rw [beq_iff_eq]; exact List.isEmpty_iff.1 e4
          have hrf : Hid (R = false) := hFalse.out (by rw [hq2.out, h4]; rfl)
          clear h4
          go_wp2_with fail
          go_ret
          rw [hrf.out]
          exact ⟨rfl, hB.out.trans (hBb3.out.mono hB.out.size)⟩
        | false =>
        have e4 : x.f4.toList.isEmpty = false := by rw [tl4.out]; exact h4
        have e5 : (x.f4.toList == []) = false := by
          rw [beq_eq_false_iff_ne]; intro h; rw [h] at e4; cases e4
        have hq3 : Hid (rightS (conv x) = (((toL x.f5).isEmpty || rightL (toL x.f5)) && (toL x.f4).all visB)) := by
          show _ = _
          rw [hq2.out, h4]; rfl
        clear h4 hq2
        cases h5 : (toL x.f5).isEmpty with
        | true =>
          have e6 : x.f5.toList.isEmpty = true := by rw [tl5.out]; exact h5
          have e7 : (x.f5.toList == []) = true := by rw [beq_iff_eq]; exact List.isEmpty_iff.1 e6
          have e8 : (!x.f5.toList.isEmpty) = false := by rw [e6]; rfl
          have e9 : (x.f5.toList != []) = false := by rw [bne, e7]; rfl
          have hq4 : Hid (rightS (conv x) = (toL x.f4).all visB) := by
            show _ = _
            rw [hq3.out, h5]; rfl
          clear h5 hq3
          go_wp2_with fail
          have hs4 : x.f4.size ≤ 1000000 := hz.out.s4
          go_loop [5] (fun s5 => ∃ k : Nat, s5 = .int .i64 (k : Int) ∧ k ≤ x.f4.size ∧ Hid (((toL x.f4).take k).all visB = true)) (fun s5 => x.f4.size - (intOf s5).toNat)
          case atStart => exact ⟨0, rfl, Nat.zero_le _, rfl⟩
          case round =>
            obtain ⟨k, rfl, hk, hV⟩ := hrel
            by_cases hkl : k < x.f4.size
            · have kt : decide ((k : Int) < (x.f4.size : Int)) = true := by rw [decide_eq_true_iff]; omega
              have ht : Hid ((toL x.f4).take (k + 1) = (toL x.f4).take k ++ [x.f4[k]]) := take_suc x.f4 k hkl
              have hmm : Hid (visB x.f4[k] = false → (toL x.f4).all visB = false) := vis_no x.f4 k hkl
              cases hv : visB x.f4[k] with
              | true =>
                have hb1 := vis_lo hv
                have hb2 := vis_hi hv
                have d1 : decide ((x.f4[k].toNat : Int) < 32) = false := by rw [decide_eq_false_iff_not]; omega
                have d2 : decide (126 < (x.f4[k].toNat : Int)) = false := by rw [decide_eq_false_iff_not]; omega
                have hV2 : Hid (((toL x.f4).take (k + 1)).all visB = true) := by
                  show _ = _
                  rw [ht.out, List.all_append, hV.out, List.all_cons, hv]; rfl
                clear hv ht hmm
                go_wp2_with fail
                exact ⟨⟨k + 1, by go_num, by omega, hV2⟩, by simp [intOf]; omega⟩
              | false =>
                have hrf : Hid (R = false) := hFalse.out (by rw [hq4.out]; exact hmm.out hv)
                rcases vis_out hv with h | h
                · have d1 : decide ((x.f4[k].toNat : Int) < 32) = true := by rw [decide_eq_true_iff]; omega
                  clear hv ht hmm
                  go_wp2_with fail
                  go_ret
                  rw [hrf.out]
                  exact ⟨rfl, hB.out.trans (hBb3.out.mono hB.out.size)⟩
                · have d1 : decide ((x.f4[k].toNat : Int) < 32) = false := by rw [decide_eq_false_iff_not]; omega
                  have d2 : decide (126 < (x.f4[k].toNat : Int)) = true := by rw [decide_eq_true_iff]; omega
                  clear hv ht hmm
                  go_wp2_with fail
                  go_ret
                  rw [hrf.out]
                  exact ⟨rfl, hB.out.trans (hBb3.out.mono hB.out.size)⟩
            · have kt : decide ((k : Int) < (x.f4.size : Int)) = false := by rw [decide_eq_false_iff_not]; omega
              have hall : Hid ((l0.take (i + 1)).all (fun x => rightS (conv x)) = true) := by
                show _ = _
                have hv := hV.out
                rw [List.take_of_length_le (by rw [toL_length]; omega)] at hv
                rw [htake.out, List.all_append, hA.out, List.all_cons, hq4.out, hv]; rfl
              clear hV
              go_wp2_with fail
              go_roundg gk
              case measure => omega
              case rel => exact ⟨i + 1, by go_num, by omega, hall, Lib.hid (hB.out.trans (hBb3.out.mono hB.out.size)), Lib.hid ((hBb3.out.block _ hCeS).trans hCe.out)⟩
        | false =>
          have e6 : x.f5.toList.isEmpty = false := by rw [tl5.out]; exact h5
          have e7 : (x.f5.toList == []) = false := by
            rw [beq_eq_false_iff_ne]; intro h; rw [h] at e6; cases e6
          have e8 : (!x.f5.toList.isEmpty) = true := by rw [e6]; rfl
          have e9 : (x.f5.toList != []) = true := by rw [bne, e7]; rfl
          have hq5 : Hid (rightS (conv x) = (rightL (toL x.f5) && (toL x.f4).all visB)) := by
            show _ = _
            rw [hq3.out, h5]; rfl
          clear h5 hq3
          go_wp2_with fail
          refine (p5.out _).mono ?_
          rintro e w5 ⟨rfl, hb⟩
          have hB5 := Lib.hid (hBb3.out.trans (hb.mono hBb3.out.size))
          have hC5 := Lib.hid ((hb.block _ hSb3).trans hCb3.out)
          clear k1 k2 k3 k4 k5
          have k4 := (cell_of_heap (j := 4) hC5.out).trans rfl
          clear hb hBb3 hCb3 hSb3 p5
          cases hp5 : rightL (toL x.f5) with
          | false =>
            have hrf : Hid (R = false) := hFalse.out (by rw [hq5.out, hp5]; rfl)
            clear hp5
            go_wp2_with fail
            go_ret
            rw [hrf.out]
            exact ⟨rfl, hB.out.trans (hB5.out.mono hB.out.size)⟩
          | true =>
          have hq4 : Hid (rightS (conv x) = (toL x.f4).all visB) := by
            show _ = _
            rw [hq5.out, hp5]; rfl
          clear hp5 hq5
          go_wp2_with fail
          have hs4 : x.f4.size ≤ 1000000 := hz.out.s4
          go_loop [5] (fun s5 => ∃ k : Nat, s5 = .int .i64 (k : Int) ∧ k ≤ x.f4.size ∧ Hid (((toL x.f4).take k).all visB = true)) (fun s5 => x.f4.size - (intOf s5).toNat)
          case atStart => exact ⟨0, rfl, Nat.zero_le _, rfl⟩
          case round =>
            obtain ⟨k, rfl, hk, hV⟩ := hrel
            by_cases hkl : k < x.f4.size
            · have kt : decide ((k : Int) < (x.f4.size : Int)) = true := by rw [decide_eq_true_iff]; omega
              have ht : Hid ((toL x.f4).take (k + 1) = (toL x.f4).take k ++ [x.f4[k]]) := take_suc x.f4 k hkl
              have hmm : Hid (visB x.f4[k] = false → (toL x.f4).all visB = false) := vis_no x.f4 k hkl
              cases hv : visB x.f4[k] with
              | true =>
                have hb1 := vis_lo hv
                have hb2 := vis_hi hv
                have d1 : decide ((x.f4[k].toNat : Int) < 32) = false := by rw [decide_eq_false_iff_not]; omega
                have d2 : decide (126 < (x.f4[k].toNat : Int)) = false := by rw [decide_eq_false_iff_not]; omega
                have hV2 : Hid (((toL x.f4).take (k + 1)).all visB = true) := by
                  show _ = _
                  rw [ht.out, List.all_append, hV.out, List.all_cons, hv]; rfl
                clear hv ht hmm
                go_wp2_with fail
                exact ⟨⟨k + 1, by go_num, by omega, hV2⟩, by simp [intOf]; omega⟩
              | false =>
                have hrf : Hid (R = false) := hFalse.out (by rw [hq4.out]; exact hmm.out hv)
                rcases vis_out hv with h | h
                · have d1 : decide ((x.f4[k].toNat : Int) < 32) = true := by rw [decide_eq_true_iff]; omega
                  clear hv ht hmm
                  go_wp2_with fail
                  go_ret
                  rw [hrf.out]
                  exact ⟨rfl, hB.out.trans (hB5.out.mono hB.out.size)⟩
                · have d1 : decide ((x.f4[k].toNat : Int) < 32) = false := by rw [decide_eq_false_iff_not]; omega
                  have d2 : decide (126 < (x.f4[k].toNat : Int)) = true := by rw [decide_eq_true_iff]; omega
                  clear hv ht hmm
                  go_wp2_with fail
                  go_ret
                  rw [hrf.out]
                  exact ⟨rfl, hB.out.trans (hB5.out.mono hB.out.size)⟩
            · have kt : decide ((k : Int) < (x.f4.size : Int)) = false := by rw [decide_eq_false_iff_not]; omega
              have hall : Hid ((l0.take (i + 1)).all (fun x => rightS (conv x)) = true) := by
                show _ = _
                have hv := hV.out
                rw [List.take_of_length_le (by rw [toL_length]; omega)] at hv
                rw [htake.out, List.all_append, hA.out, List.all_cons, hq4.out, hv]; rfl
              clear hV
              go_wp2_with fail
              go_roundg gk
              case measure => omega
              case rel => exact ⟨i + 1, by go_num, by omega, hall, Lib.hid (hB.out.trans (hB5.out.mono hB.out.size)), Lib.hid ((hB5.out.block _ hCeS).trans hCe.out)⟩
end Go.Proofs.YtapdchapjpnceaaGreatDoor.PrR
end
section
namespace Go.Proofs.YtapdchapjpnceaaGreatDoor.P
open Go.RowKit Go.Proofs.YtapdchapjpnceaaGreatDoorW.PrintWords Go.Proofs.YtapdchapjpnceaaGreatDoorW.PrintLast Go.Proofs.YtapdchapjpnceaaGreatDoorW.PrintMore
attribute [local go_sem] max2_int min2_int max_two min_two max_three min_three max_four min_four
set_option linter.unusedVariables false
set_option linter.unusedSimpArgs false
mutual
def bellowsref12_Print.l0 : Nat → ByteArray → Int → List (S38) → List ByteArray → Option (ByteArray)
  | 0, _, _, _, _ => none
  | k + 1, x3, x4, x228000, x228001 => if x4 < (x228000.length : Int) then (if 0 ≤ x4 then ((bellowsref12_Digits.f k x4).bind fun t231 => (if 6 + t231.size ≤ 9223372036854775807 then (if ((⟨#[114, 117, 108, 101, 32, 114]⟩ : ByteArray) ++ t231).size + 13 ≤ 9223372036854775807 then ((bellowsref10_Escape.f k ((rd_T38 x228000 x4).f4)).bind fun t232 => (if (((⟨#[114, 117, 108, 101, 32, 114]⟩ : ByteArray) ++ t231) ++ (⟨#[10, 32, 32, 99, 111, 109, 109, 97, 110, 100, 32, 61, 32]⟩ : ByteArray)).size + t232.size ≤ 9223372036854775807 then (if ((((⟨#[114, 117, 108, 101, 32, 114]⟩ : ByteArray) ++ t231) ++ (⟨#[10, 32, 32, 99, 111, 109, 109, 97, 110, 100, 32, 61, 32]⟩ : ByteArray)) ++ t232).size + 1 ≤ 9223372036854775807 then (if x3.size + (((((⟨#[114, 117, 108, 101, 32, 114]⟩ : ByteArray) ++ t231) ++ (⟨#[10, 32, 32, 99, 111, 109, 109, 97, 110, 100, 32, 61, 32]⟩ : ByteArray)) ++ t232) ++ (⟨#[10]⟩ : ByteArray)).size ≤ 9223372036854775807 then (if ((rd_T38 x228000 x4).f5).toList = ([] : List UInt8) then (bellowsref12_Print.j1 k (x3 ++ (((((⟨#[114, 117, 108, 101, 32, 114]⟩ : ByteArray) ++ t231) ++ (⟨#[10, 32, 32, 99, 111, 109, 109, 97, 110, 100, 32, 61, 32]⟩ : ByteArray)) ++ t232) ++ (⟨#[10]⟩ : ByteArray))) x4 x228000 x228001 ((rd_T38 x228000 x4).f0) ((rd_T38 x228000 x4).f1) ((rd_T38 x228000 x4).f2) ((rd_T38 x228000 x4).f3) ((rd_T38 x228000 x4).f4) ((rd_T38 x228000 x4).f5)) else ((bellowsref10_Escape.f k ((rd_T38 x228000 x4).f5)).bind fun t233 => (if 12 + t233.size ≤ 9223372036854775807 then (if ((⟨#[32, 32, 100, 101, 112, 102, 105, 108, 101, 32, 61, 32]⟩ : ByteArray) ++ t233).size + 1 ≤ 9223372036854775807 then (if (x3 ++ (((((⟨#[114, 117, 108, 101, 32, 114]⟩ : ByteArray) ++ t231) ++ (⟨#[10, 32, 32, 99, 111, 109, 109, 97, 110, 100, 32, 61, 32]⟩ : ByteArray)) ++ t232) ++ (⟨#[10]⟩ : ByteArray))).size + (((⟨#[32, 32, 100, 101, 112, 102, 105, 108, 101, 32, 61, 32]⟩ : ByteArray) ++ t233) ++ (⟨#[10]⟩ : ByteArray)).size ≤ 9223372036854775807 then (bellowsref12_Print.j1 k ((x3 ++ (((((⟨#[114, 117, 108, 101, 32, 114]⟩ : ByteArray) ++ t231) ++ (⟨#[10, 32, 32, 99, 111, 109, 109, 97, 110, 100, 32, 61, 32]⟩ : ByteArray)) ++ t232) ++ (⟨#[10]⟩ : ByteArray))) ++ (((⟨#[32, 32, 100, 101, 112, 102, 105, 108, 101, 32, 61, 32]⟩ : ByteArray) ++ t233) ++ (⟨#[10]⟩ : ByteArray))) x4 x228000 x228001 ((rd_T38 x228000 x4).f0) ((rd_T38 x228000 x4).f1) ((rd_T38 x228000 x4).f2) ((rd_T38 x228000 x4).f3) ((rd_T38 x228000 x4).f4) ((rd_T38 x228000 x4).f5)) else (none)) else (none)) else (none)))) else (none)) else (none)) else (none))) else (none)) else (none))) else (none)) else (if (x228001.length : Int) > 0 then ((bellowsref12_row.f k x228001).bind fun t228 => (if 7 + t228.size ≤ 9223372036854775807 then (if ((⟨#[100, 101, 102, 97, 117, 108, 116]⟩ : ByteArray) ++ t228).size + 1 ≤ 9223372036854775807 then (if x3.size + (((⟨#[100, 101, 102, 97, 117, 108, 116]⟩ : ByteArray) ++ t228) ++ (⟨#[10]⟩ : ByteArray)).size ≤ 9223372036854775807 then (some (x3 ++ (((⟨#[100, 101, 102, 97, 117, 108, 116]⟩ : ByteArray) ++ t228) ++ (⟨#[10]⟩ : ByteArray)))) else (none)) else (none)) else (none))) else (some x3))
def bellowsref12_Print.j1 : Nat → ByteArray → Int → List (S38) → List ByteArray → List ByteArray → List ByteArray → List ByteArray → List ByteArray → ByteArray → ByteArray → Option (ByteArray)
  | 0, _, _, _, _, _, _, _, _, _, _ => none
  | k + 1, x3, x4, x228000, x228001, x231000, x231001, x231002, x231003, x231004, x231005 => (bellowsref12_row.f k x231000).bind fun t234 => (if 5 + t234.size ≤ 9223372036854775807 then (if ((⟨#[98, 117, 105, 108, 100]⟩ : ByteArray) ++ t234).size + 3 ≤ 9223372036854775807 then ((bellowsref12_Digits.f k x4).bind fun t235 => (if (((⟨#[98, 117, 105, 108, 100]⟩ : ByteArray) ++ t234) ++ (⟨#[58, 32, 114]⟩ : ByteArray)).size + t235.size ≤ 9223372036854775807 then ((bellowsref12_row.f k x231001).bind fun t236 => (if ((((⟨#[98, 117, 105, 108, 100]⟩ : ByteArray) ++ t234) ++ (⟨#[58, 32, 114]⟩ : ByteArray)) ++ t235).size + t236.size ≤ 9223372036854775807 then (if x3.size + (((((⟨#[98, 117, 105, 108, 100]⟩ : ByteArray) ++ t234) ++ (⟨#[58, 32, 114]⟩ : ByteArray)) ++ t235) ++ t236).size ≤ 9223372036854775807 then (if (x231002.length : Int) > 0 then ((bellowsref12_row.f k x231002).bind fun t237 => (if 2 + t237.size ≤ 9223372036854775807 then (if (x3 ++ (((((⟨#[98, 117, 105, 108, 100]⟩ : ByteArray) ++ t234) ++ (⟨#[58, 32, 114]⟩ : ByteArray)) ++ t235) ++ t236)).size + ((⟨#[32, 124]⟩ : ByteArray) ++ t237).size ≤ 9223372036854775807 then (if (x231003.length : Int) > 0 then ((bellowsref12_row.f k x231003).bind fun t238 => (if 3 + t238.size ≤ 9223372036854775807 then (if ((x3 ++ (((((⟨#[98, 117, 105, 108, 100]⟩ : ByteArray) ++ t234) ++ (⟨#[58, 32, 114]⟩ : ByteArray)) ++ t235) ++ t236)) ++ ((⟨#[32, 124]⟩ : ByteArray) ++ t237)).size + ((⟨#[32, 124, 124]⟩ : ByteArray) ++ t238).size ≤ 9223372036854775807 then (if (((x3 ++ (((((⟨#[98, 117, 105, 108, 100]⟩ : ByteArray) ++ t234) ++ (⟨#[58, 32, 114]⟩ : ByteArray)) ++ t235) ++ t236)) ++ ((⟨#[32, 124]⟩ : ByteArray) ++ t237)) ++ ((⟨#[32, 124, 124]⟩ : ByteArray) ++ t238)).size + 1 ≤ 9223372036854775807 then (bellowsref12_Print.l0 k ((((x3 ++ (((((⟨#[98, 117, 105, 108, 100]⟩ : ByteArray) ++ t234) ++ (⟨#[58, 32, 114]⟩ : ByteArray)) ++ t235) ++ t236)) ++ ((⟨#[32, 124]⟩ : ByteArray) ++ t237)) ++ ((⟨#[32, 124, 124]⟩ : ByteArray) ++ t238)) ++ (⟨#[10]⟩ : ByteArray)) (wrap64 (x4 + 1)) x228000 x228001) else (none)) else (none)) else (none))) else (if ((x3 ++ (((((⟨#[98, 117, 105, 108, 100]⟩ : ByteArray) ++ t234) ++ (⟨#[58, 32, 114]⟩ : ByteArray)) ++ t235) ++ t236)) ++ ((⟨#[32, 124]⟩ : ByteArray) ++ t237)).size + 1 ≤ 9223372036854775807 then (bellowsref12_Print.l0 k (((x3 ++ (((((⟨#[98, 117, 105, 108, 100]⟩ : ByteArray) ++ t234) ++ (⟨#[58, 32, 114]⟩ : ByteArray)) ++ t235) ++ t236)) ++ ((⟨#[32, 124]⟩ : ByteArray) ++ t237)) ++ (⟨#[10]⟩ : ByteArray)) (wrap64 (x4 + 1)) x228000 x228001) else (none))) else (none)) else (none))) else (if (x231003.length : Int) > 0 then ((bellowsref12_row.f k x231003).bind fun t239 => (if 3 + t239.size ≤ 9223372036854775807 then (if (x3 ++ (((((⟨#[98, 117, 105, 108, 100]⟩ : ByteArray) ++ t234) ++ (⟨#[58, 32, 114]⟩ : ByteArray)) ++ t235) ++ t236)).size + ((⟨#[32, 124, 124]⟩ : ByteArray) ++ t239).size ≤ 9223372036854775807 then (if ((x3 ++ (((((⟨#[98, 117, 105, 108, 100]⟩ : ByteArray) ++ t234) ++ (⟨#[58, 32, 114]⟩ : ByteArray)) ++ t235) ++ t236)) ++ ((⟨#[32, 124, 124]⟩ : ByteArray) ++ t239)).size + 1 ≤ 9223372036854775807 then (bellowsref12_Print.l0 k (((x3 ++ (((((⟨#[98, 117, 105, 108, 100]⟩ : ByteArray) ++ t234) ++ (⟨#[58, 32, 114]⟩ : ByteArray)) ++ t235) ++ t236)) ++ ((⟨#[32, 124, 124]⟩ : ByteArray) ++ t239)) ++ (⟨#[10]⟩ : ByteArray)) (wrap64 (x4 + 1)) x228000 x228001) else (none)) else (none)) else (none))) else (if (x3 ++ (((((⟨#[98, 117, 105, 108, 100]⟩ : ByteArray) ++ t234) ++ (⟨#[58, 32, 114]⟩ : ByteArray)) ++ t235) ++ t236)).size + 1 ≤ 9223372036854775807 then (bellowsref12_Print.l0 k ((x3 ++ (((((⟨#[98, 117, 105, 108, 100]⟩ : ByteArray) ++ t234) ++ (⟨#[58, 32, 114]⟩ : ByteArray)) ++ t235) ++ t236)) ++ (⟨#[10]⟩ : ByteArray)) (wrap64 (x4 + 1)) x228000 x228001) else (none)))) else (none)) else (none))) else (none))) else (none)) else (none))
end
def bellowsref12_Print.f (k : Nat) (l0_0 : List (S38)) (l0_1 : List ByteArray) : Option (ByteArray) := bellowsref12_Print.l0 k (⟨#[]⟩ : ByteArray) 0 l0_0 l0_1
theorem bellowsref12_Print.mono_l : ∀ k, (∀ y0 y1 y2 y3, LeO (bellowsref12_Print.l0 k y0 y1 y2 y3) (bellowsref12_Print.l0 (k + 1) y0 y1 y2 y3)) ∧ (∀ y0 y1 y2 y3 y4 y5 y6 y7 y8 y9, LeO (bellowsref12_Print.j1 k y0 y1 y2 y3 y4 y5 y6 y7 y8 y9) (bellowsref12_Print.j1 (k + 1) y0 y1 y2 y3 y4 y5 y6 y7 y8 y9))
  | 0 => ⟨fun _ _ _ _ r h => by simp [bellowsref12_Print.l0] at h, fun _ _ _ _ _ _ _ _ _ _ r h => by simp [bellowsref12_Print.j1] at h⟩
  | k + 1 => by
    obtain ⟨ih0, ih1⟩ := bellowsref12_Print.mono_l k
    refine ⟨?_, ?_⟩
    · intro y0 y1 y2 y3
      unfold bellowsref12_Print.l0
      repeat' first
      | (with_reducible exact ih0 _ _ _ _)
      | (with_reducible exact ih1 _ _ _ _ _ _ _ _ _ _)
      | (with_reducible exact bellowsref10_Escape.mono _ _)
      | (with_reducible exact bellowsref12_Digits.mono _ _)
      | (with_reducible exact bellowsref12_row.mono _ _)
      | (with_reducible exact LeO.refl _)
      | (with_reducible exact LeO.none _)
      | (with_reducible refine LeO.ite ?_ ?_)
      | (with_reducible refine LeO.bind ?_ (fun _ => ?_))
      | exact ih0 _ _ _ _
      | exact ih1 _ _ _ _ _ _ _ _ _ _
      | exact bellowsref10_Escape.mono _ _
      | exact bellowsref12_Digits.mono _ _
      | exact bellowsref12_row.mono _ _
      | exact LeO.none _
      | refine LeO.ite ?_ ?_
      | refine LeO.bind ?_ (fun _ => ?_)
    · intro y0 y1 y2 y3 y4 y5 y6 y7 y8 y9
      unfold bellowsref12_Print.j1
      repeat' first
      | (with_reducible exact ih0 _ _ _ _)
      | (with_reducible exact ih1 _ _ _ _ _ _ _ _ _ _)
      | (with_reducible exact bellowsref10_Escape.mono _ _)
      | (with_reducible exact bellowsref12_Digits.mono _ _)
      | (with_reducible exact bellowsref12_row.mono _ _)
      | (with_reducible exact LeO.refl _)
      | (with_reducible exact LeO.none _)
      | (with_reducible refine LeO.ite ?_ ?_)
      | (with_reducible refine LeO.bind ?_ (fun _ => ?_))
      | exact ih0 _ _ _ _
      | exact ih1 _ _ _ _ _ _ _ _ _ _
      | exact bellowsref10_Escape.mono _ _
      | exact bellowsref12_Digits.mono _ _
      | exact bellowsref12_row.mono _ _
      | exact LeO.none _
      | refine LeO.ite ?_ ?_
      | refine LeO.bind ?_ (fun _ => ?_)
theorem bellowsref12_Print.mono : ∀ a0 a1 k, LeO (bellowsref12_Print.f k a0 a1) (bellowsref12_Print.f (k + 1) a0 a1) := by
  intro a0 a1 k
  obtain ⟨ih0, ih1⟩ := bellowsref12_Print.mono_l k
  unfold bellowsref12_Print.f
  repeat' first
      | (with_reducible exact ih0 _ _ _ _)
      | (with_reducible exact ih1 _ _ _ _ _ _ _ _ _ _)
      | (with_reducible exact bellowsref10_Escape.mono _ _)
      | (with_reducible exact bellowsref12_Digits.mono _ _)
      | (with_reducible exact bellowsref12_row.mono _ _)
      | (with_reducible exact LeO.refl _)
      | (with_reducible exact LeO.none _)
      | (with_reducible refine LeO.ite ?_ ?_)
      | (with_reducible refine LeO.bind ?_ (fun _ => ?_))
      | exact ih0 _ _ _ _
      | exact ih1 _ _ _ _ _ _ _ _ _ _
      | exact bellowsref10_Escape.mono _ _
      | exact bellowsref12_Digits.mono _ _
      | exact bellowsref12_row.mono _ _
      | exact LeO.none _
      | refine LeO.ite ?_ ?_
      | refine LeO.bind ?_ (fun _ => ?_)
def bellowsref12_Print.T6 : Bool × List (List Nat × List Nat) := (true, [([], []), ([], []), ([1], [1]), ([2], [2]), ([3], [3]), ([], []), ([5], [5]), ([6, 2], [6]), ([4, 7], [4, 7]), ([8], [8]), ([0, 9], [0, 9]), ([10, 7, 0, 1, 2, 3, 4, 5, 6, 7, 8, 9, 10], [0, 10])])
def bellowsref12_Print.B6 : List Nat := [0, 0, 2, 6, 14, 0, 32, 102, 254, 510, 1023, 2047]
theorem bellowsref12_Print.tab6 : rtab .any (opsOf Tryz.f10 6) = bellowsref12_Print.T6 := by kernel_rfl
theorem bellowsref12_Print.bits6 : waitsOk bellowsref12_Print.T6.2 bellowsref12_Print.B6 = true := by kernel_rfl
def bellowsref12_Print.T9 : Bool × List (List Nat × List Nat) := (true, [([], []), ([], []), ([1], [1]), ([2], [2]), ([3], [3]), ([4], [4]), ([], []), ([6, 3], [6]), ([5, 7], [5, 7]), ([], []), ([9], [9]), ([10, 7], [10]), ([8, 11], [8, 11]), ([0, 12], [0, 12]), ([13, 11, 0, 1, 2, 3, 4, 5, 6, 7, 8, 9, 10, 11, 12, 13], [0, 13])])
def bellowsref12_Print.B9 : List Nat := [0, 0, 2, 6, 14, 30, 0, 78, 254, 0, 512, 1742, 4094, 8191, 16383]
theorem bellowsref12_Print.tab9 : rtab .any (opsOf Tryz.f10 9) = bellowsref12_Print.T9 := by kernel_rfl
theorem bellowsref12_Print.bits9 : waitsOk bellowsref12_Print.T9.2 bellowsref12_Print.B9 = true := by kernel_rfl
set_option maxHeartbeats 8000000 in
set_option maxRecDepth 100000 in
theorem bellowsref12_Print.calls (k : Nat) (A0_0 : Option Addr) (c0_0 : Nat) (l0_0 : List (S38)) (A0_1 : Option Addr) (c0_1 : Nat) (l0_1 : List ByteArray) (r : ByteArray) (w : World) (hr0_0 : Kd.C k38 w A0_0 l0_0.length l0_0) (hc0_0 : l0_0.length ≤ c0_0) (hr0_1 : Kd.C Kd.string w A0_1 l0_1.length l0_1) (hc0_1 : l0_1.length ≤ c0_1) (h : bellowsref12_Print.f k l0_0 l0_1 = some r) :
    Calls Tryz.prog 10 #[.agg #[.slice A0_0 l0_0.length c0_0, .slice A0_1 l0_1.length c0_1]] w fun e w' => e = .returned (.string r) ∧ Below w.heap.size w w' := by
  have hu25 := Tryz.underlying25
  have hu38 := Tryz.underlying38
  have HR0_0 := Aside0.mk hr0_0
  have HC0_0 := Aside0.mk hc0_0
  clear hr0_0 hc0_0
  have HR0_1 := Aside0.mk hr0_1
  have HC0_1 := Aside0.mk hc0_1
  clear hr0_1 hc0_1
  have HB := Aside0.mk (Below.refl w.heap.size w)
  have H : (bellowsref12_Print.l0 k (⟨#[]⟩ : ByteArray) 0 l0_0 l0_1) = some r := h
  clear h
  have H' := Aside0.mk H
  clear H
  go_enter Tryz.func10, Tryz.ntmps10
  go_wp2_with (first | ((with_reducible refine gate_dst (N := 1) rfl ?_); refine box_event ?hg (N := 1) ?hd (cs := #[.slice A0_0 l0_0.length c0_0, .slice A0_1 l0_1.length c0_1]) (t := 25) ?hr ?_; (case hd => rfl); (case hg => rfl); (case hr => first | (go_simp; done) | (go_simp; rfl)); intro gb227 hg w2 hbox hb; have n0_ := Aside0.mk (below_step (by repeat (first | (with_reducible first | exact HB.out | apply below_alloc | apply pw_below_drewN | apply below_drew1) | exact HB.out)) hb); have n1_ := Aside0.mk (hbox); have n2_ := Aside0.mk ((by rw [hg]; exact (below_size (by repeat (first | (with_reducible first | exact HB.out | apply below_alloc | apply pw_below_drewN | apply below_drew1) | exact HB.out))) : w.heap.size ≤ gb227)); have n3_ := Aside0.mk ((by rw [hg]; exact (below_size (by repeat (first | (with_reducible first | exact HB.out | apply below_alloc | apply pw_below_drewN | apply below_drew1) | exact HB.out))) : w.heap.size ≤ gb227)); clear HB; have HB := n0_; have BK227 := n1_; have GW227 := n2_; have GE227 := n3_; clear n0_ n1_ n2_ n3_; clear hb hbox hg))
  go_loopg [3, 4] k (fun kq v3 v4 w' => ∃ (x3_1 : ByteArray) (x4_1 : Int), v3 = .string x3_1 ∧ v4 = .int .i64 x4_1 ∧ Aside0 (bellowsref12_Print.l0 kq x3_1 x4_1 l0_0 l0_1 = some r) ∧ Aside0 (kq ≤ k) ∧ Aside0 (w'.heap[gb227]? = some (.cells #[(.slice A0_0 l0_0.length c0_0), (.slice A0_1 l0_1.length c0_1)] 25 (0, 0))) ∧ Aside0 (Below w.heap.size w w'))
  case atStart => exact ⟨((⟨#[]⟩ : ByteArray)), (0), (by first | rfl | (simp; done) | (simp [*]; done)), (by first | rfl | (simp; done) | (simp [*]; done)), H', ⟨Nat.le_refl _⟩, ⟨by (with_reducible repeat (first | refine blk_drewN ?_ _ | refine blk_drew ?_ | refine blk_alloc ?_ _)); exact BK227.out⟩, ⟨by repeat (first | (with_reducible first | exact HB.out | apply below_alloc | apply pw_below_drewN | apply below_drew1 | refine below_set ?_ GE227.out) | exact HB.out)⟩⟩
  case round =>
    clear H'
    try clear c1
    try clear p2
    obtain ⟨x3_1, x4_1, rfl, rfl, HA, HK1, BK227, HB⟩ := hrel
    cases gk with
    | zero => exact absurd HA.out (by simp [bellowsref12_Print.l0])
    | succ k1 =>
      have H := HA.out
      clear HA
      simp only [bellowsref12_Print.l0] at H
      by_cases c3 : x4_1 < (l0_0.length : Int)
      · rw [if_pos c3] at H
        have c3b0 : decide (x4_1 < (l0_0.length : Int)) = true := decide_eq_true c3
        clear c3
        by_cases c4 : 0 ≤ x4_1
        · rw [if_pos c4] at H
          have c4b0 : decide (0 ≤ x4_1) = true := decide_eq_true c4
          clear c4
          replace H := Option.bind_eq_some_iff.mp H
          obtain ⟨t231, A50, H⟩ := H
          replace H : (if 6 + t231.size ≤ 9223372036854775807 then (if ((⟨#[114, 117, 108, 101, 32, 114]⟩ : ByteArray) ++ t231).size + 13 ≤ 9223372036854775807 then ((bellowsref10_Escape.f k1 ((rd_T38 l0_0 x4_1).f4)).bind fun t232 => (if (((⟨#[114, 117, 108, 101, 32, 114]⟩ : ByteArray) ++ t231) ++ (⟨#[10, 32, 32, 99, 111, 109, 109, 97, 110, 100, 32, 61, 32]⟩ : ByteArray)).size + t232.size ≤ 9223372036854775807 then (if ((((⟨#[114, 117, 108, 101, 32, 114]⟩ : ByteArray) ++ t231) ++ (⟨#[10, 32, 32, 99, 111, 109, 109, 97, 110, 100, 32, 61, 32]⟩ : ByteArray)) ++ t232).size + 1 ≤ 9223372036854775807 then (if x3_1.size + (((((⟨#[114, 117, 108, 101, 32, 114]⟩ : ByteArray) ++ t231) ++ (⟨#[10, 32, 32, 99, 111, 109, 109, 97, 110, 100, 32, 61, 32]⟩ : ByteArray)) ++ t232) ++ (⟨#[10]⟩ : ByteArray)).size ≤ 9223372036854775807 then (if ((rd_T38 l0_0 x4_1).f5).toList = ([] : List UInt8) then (bellowsref12_Print.j1 k1 (x3_1 ++ (((((⟨#[114, 117, 108, 101, 32, 114]⟩ : ByteArray) ++ t231) ++ (⟨#[10, 32, 32, 99, 111, 109, 109, 97, 110, 100, 32, 61, 32]⟩ : ByteArray)) ++ t232) ++ (⟨#[10]⟩ : ByteArray))) x4_1 l0_0 l0_1 ((rd_T38 l0_0 x4_1).f0) ((rd_T38 l0_0 x4_1).f1) ((rd_T38 l0_0 x4_1).f2) ((rd_T38 l0_0 x4_1).f3) ((rd_T38 l0_0 x4_1).f4) ((rd_T38 l0_0 x4_1).f5)) else ((bellowsref10_Escape.f k1 ((rd_T38 l0_0 x4_1).f5)).bind fun t233 => (if 12 + t233.size ≤ 9223372036854775807 then (if ((⟨#[32, 32, 100, 101, 112, 102, 105, 108, 101, 32, 61, 32]⟩ : ByteArray) ++ t233).size + 1 ≤ 9223372036854775807 then (if (x3_1 ++ (((((⟨#[114, 117, 108, 101, 32, 114]⟩ : ByteArray) ++ t231) ++ (⟨#[10, 32, 32, 99, 111, 109, 109, 97, 110, 100, 32, 61, 32]⟩ : ByteArray)) ++ t232) ++ (⟨#[10]⟩ : ByteArray))).size + (((⟨#[32, 32, 100, 101, 112, 102, 105, 108, 101, 32, 61, 32]⟩ : ByteArray) ++ t233) ++ (⟨#[10]⟩ : ByteArray)).size ≤ 9223372036854775807 then (bellowsref12_Print.j1 k1 ((x3_1 ++ (((((⟨#[114, 117, 108, 101, 32, 114]⟩ : ByteArray) ++ t231) ++ (⟨#[10, 32, 32, 99, 111, 109, 109, 97, 110, 100, 32, 61, 32]⟩ : ByteArray)) ++ t232) ++ (⟨#[10]⟩ : ByteArray))) ++ (((⟨#[32, 32, 100, 101, 112, 102, 105, 108, 101, 32, 61, 32]⟩ : ByteArray) ++ t233) ++ (⟨#[10]⟩ : ByteArray))) x4_1 l0_0 l0_1 ((rd_T38 l0_0 x4_1).f0) ((rd_T38 l0_0 x4_1).f1) ((rd_T38 l0_0 x4_1).f2) ((rd_T38 l0_0 x4_1).f3) ((rd_T38 l0_0 x4_1).f4) ((rd_T38 l0_0 x4_1).f5)) else (none)) else (none)) else (none)))) else (none)) else (none)) else (none))) else (none)) else (none)) = some r := H
          have A5 := Aside0.mk A50
          clear A50
          by_cases c6 : 6 + t231.size ≤ 9223372036854775807
          · rw [if_pos c6] at H
            have c6b0 := eq_true c6
            have c6b1 : decide (6 + t231.size ≤ 9223372036854775807) = true := decide_eq_true c6
            try have c6b2 : (9223372036854775807 < 6 + t231.size) = False := eq_false (Nat.not_lt.2 c6)
            have c6x : 6 + t231.size ≤ 9223372036854775807 := by have hh_ := c6; (try simp only [ByteArray.size_append] at hh_); exact hh_
            try have c6x0 : (9223372036854775807 < 6 + t231.size) = False := eq_false (by omega)
            by_cases c7 : ((⟨#[114, 117, 108, 101, 32, 114]⟩ : ByteArray) ++ t231).size + 13 ≤ 9223372036854775807
            · rw [if_pos c7] at H
              have c7b0 := eq_true c7
              have c7b1 : decide (((⟨#[114, 117, 108, 101, 32, 114]⟩ : ByteArray) ++ t231).size + 13 ≤ 9223372036854775807) = true := decide_eq_true c7
              try have c7b2 : (9223372036854775807 < ((⟨#[114, 117, 108, 101, 32, 114]⟩ : ByteArray) ++ t231).size + 13) = False := eq_false (Nat.not_lt.2 c7)
              try have c7b7 : (9223372036854775794 < ((⟨#[114, 117, 108, 101, 32, 114]⟩ : ByteArray) ++ t231).size) = False := eq_false (by omega)
              have c7e : 6 + t231.size + 13 ≤ 9223372036854775807 := by have hh_ := c7; rw [ByteArray.size_append] at hh_; exact hh_
              try have c7e0 : (9223372036854775794 < 6 + t231.size) = False := eq_false (by omega)
              try have c7e1 : (9223372036854775788 < t231.size) = False := eq_false (by omega)
              try have c7e2 : (9223372036854775807 < 6 + t231.size + 13) = False := eq_false (by omega)
              try have c7e3 : (9223372036854775794 < t231.size + 6) = False := eq_false (by omega)
              try have c7e4 : (9223372036854775807 < t231.size + 6 + 13) = False := eq_false (by omega)
              have c7x : 6 + t231.size + 13 ≤ 9223372036854775807 := by have hh_ := c7; (try simp only [ByteArray.size_append] at hh_); exact hh_
              try have c7x0 : (9223372036854775807 < 6 + t231.size + 13) = False := eq_false (by omega)
              try have c7x1 : (9223372036854775794 < 6 + t231.size) = False := eq_false (by omega)
              replace H := Option.bind_eq_some_iff.mp H
              obtain ⟨t232, A80, H⟩ := H
              replace H : (if (((⟨#[114, 117, 108, 101, 32, 114]⟩ : ByteArray) ++ t231) ++ (⟨#[10, 32, 32, 99, 111, 109, 109, 97, 110, 100, 32, 61, 32]⟩ : ByteArray)).size + t232.size ≤ 9223372036854775807 then (if ((((⟨#[114, 117, 108, 101, 32, 114]⟩ : ByteArray) ++ t231) ++ (⟨#[10, 32, 32, 99, 111, 109, 109, 97, 110, 100, 32, 61, 32]⟩ : ByteArray)) ++ t232).size + 1 ≤ 9223372036854775807 then (if x3_1.size + (((((⟨#[114, 117, 108, 101, 32, 114]⟩ : ByteArray) ++ t231) ++ (⟨#[10, 32, 32, 99, 111, 109, 109, 97, 110, 100, 32, 61, 32]⟩ : ByteArray)) ++ t232) ++ (⟨#[10]⟩ : ByteArray)).size ≤ 9223372036854775807 then (if ((rd_T38 l0_0 x4_1).f5).toList = ([] : List UInt8) then (bellowsref12_Print.j1 k1 (x3_1 ++ (((((⟨#[114, 117, 108, 101, 32, 114]⟩ : ByteArray) ++ t231) ++ (⟨#[10, 32, 32, 99, 111, 109, 109, 97, 110, 100, 32, 61, 32]⟩ : ByteArray)) ++ t232) ++ (⟨#[10]⟩ : ByteArray))) x4_1 l0_0 l0_1 ((rd_T38 l0_0 x4_1).f0) ((rd_T38 l0_0 x4_1).f1) ((rd_T38 l0_0 x4_1).f2) ((rd_T38 l0_0 x4_1).f3) ((rd_T38 l0_0 x4_1).f4) ((rd_T38 l0_0 x4_1).f5)) else ((bellowsref10_Escape.f k1 ((rd_T38 l0_0 x4_1).f5)).bind fun t233 => (if 12 + t233.size ≤ 9223372036854775807 then (if ((⟨#[32, 32, 100, 101, 112, 102, 105, 108, 101, 32, 61, 32]⟩ : ByteArray) ++ t233).size + 1 ≤ 9223372036854775807 then (if (x3_1 ++ (((((⟨#[114, 117, 108, 101, 32, 114]⟩ : ByteArray) ++ t231) ++ (⟨#[10, 32, 32, 99, 111, 109, 109, 97, 110, 100, 32, 61, 32]⟩ : ByteArray)) ++ t232) ++ (⟨#[10]⟩ : ByteArray))).size + (((⟨#[32, 32, 100, 101, 112, 102, 105, 108, 101, 32, 61, 32]⟩ : ByteArray) ++ t233) ++ (⟨#[10]⟩ : ByteArray)).size ≤ 9223372036854775807 then (bellowsref12_Print.j1 k1 ((x3_1 ++ (((((⟨#[114, 117, 108, 101, 32, 114]⟩ : ByteArray) ++ t231) ++ (⟨#[10, 32, 32, 99, 111, 109, 109, 97, 110, 100, 32, 61, 32]⟩ : ByteArray)) ++ t232) ++ (⟨#[10]⟩ : ByteArray))) ++ (((⟨#[32, 32, 100, 101, 112, 102, 105, 108, 101, 32, 61, 32]⟩ : ByteArray) ++ t233) ++ (⟨#[10]⟩ : ByteArray))) x4_1 l0_0 l0_1 ((rd_T38 l0_0 x4_1).f0) ((rd_T38 l0_0 x4_1).f1) ((rd_T38 l0_0 x4_1).f2) ((rd_T38 l0_0 x4_1).f3) ((rd_T38 l0_0 x4_1).f4) ((rd_T38 l0_0 x4_1).f5)) else (none)) else (none)) else (none)))) else (none)) else (none)) else (none)) = some r := H
              have A8 := Aside0.mk A80
              clear A80
              by_cases c9 : (((⟨#[114, 117, 108, 101, 32, 114]⟩ : ByteArray) ++ t231) ++ (⟨#[10, 32, 32, 99, 111, 109, 109, 97, 110, 100, 32, 61, 32]⟩ : ByteArray)).size + t232.size ≤ 9223372036854775807
              · rw [if_pos c9] at H
                have c9b0 := eq_true c9
                have c9b1 : decide ((((⟨#[114, 117, 108, 101, 32, 114]⟩ : ByteArray) ++ t231) ++ (⟨#[10, 32, 32, 99, 111, 109, 109, 97, 110, 100, 32, 61, 32]⟩ : ByteArray)).size + t232.size ≤ 9223372036854775807) = true := decide_eq_true c9
                try have c9b2 : (9223372036854775807 < (((⟨#[114, 117, 108, 101, 32, 114]⟩ : ByteArray) ++ t231) ++ (⟨#[10, 32, 32, 99, 111, 109, 109, 97, 110, 100, 32, 61, 32]⟩ : ByteArray)).size + t232.size) = False := eq_false (Nat.not_lt.2 c9)
                have c9x : 6 + t231.size + 13 + t232.size ≤ 9223372036854775807 := by have hh_ := c9; (try simp only [ByteArray.size_append] at hh_); exact hh_
                try have c9x0 : (9223372036854775807 < 6 + t231.size + 13 + t232.size) = False := eq_false (by omega)
                by_cases c10 : ((((⟨#[114, 117, 108, 101, 32, 114]⟩ : ByteArray) ++ t231) ++ (⟨#[10, 32, 32, 99, 111, 109, 109, 97, 110, 100, 32, 61, 32]⟩ : ByteArray)) ++ t232).size + 1 ≤ 9223372036854775807
                · rw [if_pos c10] at H
                  have c10b0 := eq_true c10
                  have c10b1 : decide (((((⟨#[114, 117, 108, 101, 32, 114]⟩ : ByteArray) ++ t231) ++ (⟨#[10, 32, 32, 99, 111, 109, 109, 97, 110, 100, 32, 61, 32]⟩ : ByteArray)) ++ t232).size + 1 ≤ 9223372036854775807) = true := decide_eq_true c10
                  try have c10b2 : (9223372036854775807 < ((((⟨#[114, 117, 108, 101, 32, 114]⟩ : ByteArray) ++ t231) ++ (⟨#[10, 32, 32, 99, 111, 109, 109, 97, 110, 100, 32, 61, 32]⟩ : ByteArray)) ++ t232).size + 1) = False := eq_false (Nat.not_lt.2 c10)
                  try have c10b7 : (9223372036854775806 < ((((⟨#[114, 117, 108, 101, 32, 114]⟩ : ByteArray) ++ t231) ++ (⟨#[10, 32, 32, 99, 111, 109, 109, 97, 110, 100, 32, 61, 32]⟩ : ByteArray)) ++ t232).size) = False := eq_false (by omega)
                  have c10x : 6 + t231.size + 13 + t232.size + 1 ≤ 9223372036854775807 := by have hh_ := c10; (try simp only [ByteArray.size_append] at hh_); exact hh_
                  try have c10x0 : (9223372036854775807 < 6 + t231.size + 13 + t232.size + 1) = False := eq_false (by omega)
                  try have c10x1 : (9223372036854775806 < 6 + t231.size + 13 + t232.size) = False := eq_false (by omega)
                  by_cases c11 : x3_1.size + (((((⟨#[114, 117, 108, 101, 32, 114]⟩ : ByteArray) ++ t231) ++ (⟨#[10, 32, 32, 99, 111, 109, 109, 97, 110, 100, 32, 61, 32]⟩ : ByteArray)) ++ t232) ++ (⟨#[10]⟩ : ByteArray)).size ≤ 9223372036854775807
                  · rw [if_pos c11] at H
                    have c11b0 := eq_true c11
                    have c11b1 : decide (x3_1.size + (((((⟨#[114, 117, 108, 101, 32, 114]⟩ : ByteArray) ++ t231) ++ (⟨#[10, 32, 32, 99, 111, 109, 109, 97, 110, 100, 32, 61, 32]⟩ : ByteArray)) ++ t232) ++ (⟨#[10]⟩ : ByteArray)).size ≤ 9223372036854775807) = true := decide_eq_true c11
                    try have c11b2 : (9223372036854775807 < x3_1.size + (((((⟨#[114, 117, 108, 101, 32, 114]⟩ : ByteArray) ++ t231) ++ (⟨#[10, 32, 32, 99, 111, 109, 109, 97, 110, 100, 32, 61, 32]⟩ : ByteArray)) ++ t232) ++ (⟨#[10]⟩ : ByteArray)).size) = False := eq_false (Nat.not_lt.2 c11)
                    have c11x : x3_1.size + (6 + t231.size + 13 + t232.size + 1) ≤ 9223372036854775807 := by have hh_ := c11; (try simp only [ByteArray.size_append] at hh_); exact hh_
                    try have c11x0 : (9223372036854775807 < x3_1.size + (6 + t231.size + 13 + t232.size + 1)) = False := eq_false (by omega)
                    try have c11x1 : (9223372036854775806 < x3_1.size + (6 + t231.size + 13 + t232.size)) = False := eq_false (by omega)
                    have HC12 := Aside0.mk H
                    clear H
                    have hcz13_0 : wr.cell? ⟨gb227, 0, none⟩ = some (.slice A0_0 l0_0.length c0_0) := (blk_cell BK227.out 0).trans rfl
                    have hcz13_1 : wr.cell? ⟨gb227, 1, none⟩ = some (.slice A0_1 l0_1.length c0_1) := (blk_cell BK227.out 1).trans rfl
                    have hfz13_0 := blk_frozen BK227.out 0
                    have hfz13_1 := blk_frozen BK227.out 1
                    have p229 : 0 ≤ (x4_1 : Int) := of_decide_eq_true (by first | (with_reducible assumption) | assumption)
                    have q229 : x4_1 < (l0_0.length : Int) := of_decide_eq_true (by first | (with_reducible assumption) | assumption)
                    obtain ⟨ad229, A229_0, c229_0, A229_1, c229_1, A229_2, c229_2, A229_3, c229_3, e229, hx229_0, hx229_1, hx229_2, hx229_3, hx229_4, hx229_5, hl229_0, hi229_0, hl229_1, hi229_1, hl229_2, hi229_2, hl229_3, hi229_3⟩ := at_T38 HR0_0.out x4_1 p229 q229
                    cases e229
                    replace hx229_0 := (HB.out.cell (World.block_lt_of_cell? w _ hx229_0)).trans hx229_0
                    replace hx229_1 := (HB.out.cell (World.block_lt_of_cell? w _ hx229_1)).trans hx229_1
                    replace hx229_2 := (HB.out.cell (World.block_lt_of_cell? w _ hx229_2)).trans hx229_2
                    replace hx229_3 := (HB.out.cell (World.block_lt_of_cell? w _ hx229_3)).trans hx229_3
                    replace hx229_4 := (HB.out.cell (World.block_lt_of_cell? w _ hx229_4)).trans hx229_4
                    replace hx229_5 := (HB.out.cell (World.block_lt_of_cell? w _ hx229_5)).trans hx229_5
                    have HR229_0 := Aside0.mk hi229_0
                    have HC229_0 := Aside0.mk hl229_0
                    clear hi229_0 hl229_0
                    have HR229_1 := Aside0.mk hi229_1
                    have HC229_1 := Aside0.mk hl229_1
                    clear hi229_1 hl229_1
                    have HR229_2 := Aside0.mk hi229_2
                    have HC229_2 := Aside0.mk hl229_2
                    clear hi229_2 hl229_2
                    have HR229_3 := Aside0.mk hi229_3
                    have HC229_3 := Aside0.mk hl229_3
                    clear hi229_3 hl229_3
                    replace p229 := eq_true p229
                    replace q229 := eq_true q229
                    try go_wp2_with (first | ((with_reducible refine gate_dst (N := 5) rfl ?_); refine box_event ?hg (N := 5) ?hd (cs := #[.slice none 0 0, .slice none 0 0, .slice none 0 0, .slice none 0 0, .string (⟨#[]⟩ : ByteArray), .string (⟨#[]⟩ : ByteArray)]) (t := 38) ?hr ?_; (case hd => rfl); (case hg => rfl); (case hr => first | (go_simp; done) | (go_simp; rfl)); intro gb230 hg w14 hbox hb; have n0_ := Aside0.mk (blk_below (g := gb227) (o := .cells #[.slice (some ad229) l0_0.length c0_0, .slice A0_1 l0_1.length c0_1] 25 (0, 0)) (by (with_reducible repeat (first | refine blk_drewN ?_ _ | refine blk_drew ?_ | refine blk_alloc ?_ _)); exact BK227.out) hb); have n1_ := Aside0.mk (below_step (by repeat (first | (with_reducible first | exact HB.out | apply below_alloc | apply pw_below_drewN | apply below_drew1 | refine below_set ?_ GE227.out) | exact HB.out)) hb); have n2_ := Aside0.mk (hbox); have n3_ := Aside0.mk ((by rw [hg]; exact (below_size (by repeat (first | (with_reducible first | exact HB.out | apply below_alloc | apply pw_below_drewN | apply below_drew1 | refine below_set ?_ GE227.out) | exact HB.out))) : w.heap.size ≤ gb230)); have n4_ := Aside0.mk ((by rw [hg]; exact (below_size (by repeat (first | (with_reducible first | exact HB.out | apply below_alloc | apply pw_below_drewN | apply below_drew1 | refine below_set ?_ GE227.out) | exact HB.out))) : w.heap.size ≤ gb230)); have n5_ := Aside0.mk ((by rw [hg]; exact Nat.ne_of_lt (blk_lt (g := gb227) (o := .cells #[.slice (some ad229) l0_0.length c0_0, .slice A0_1 l0_1.length c0_1] 25 (0, 0)) (by (with_reducible repeat (first | refine blk_drewN ?_ _ | refine blk_drew ?_ | refine blk_alloc ?_ _)); exact BK227.out)) : gb227 ≠ gb230)); have n6_ := Aside0.mk ((by rw [hg]; exact Nat.ne_of_gt (blk_lt (g := gb227) (o := .cells #[.slice (some ad229) l0_0.length c0_0, .slice A0_1 l0_1.length c0_1] 25 (0, 0)) (by (with_reducible repeat (first | refine blk_drewN ?_ _ | refine blk_drew ?_ | refine blk_alloc ?_ _)); exact BK227.out)) : gb230 ≠ gb227)); clear BK227; clear HB; have BK227 := n0_; have HB := n1_; have BK230 := n2_; have GW230 := n3_; have GE230 := n4_; have NB227_230 := n5_; have NB230_227 := n6_; clear n0_ n1_ n2_ n3_ n4_ n5_ n6_; clear hb hbox hg; have hnb15 := NB230_227.out; have hnc15 := NB227_230.out; have hcz16_0 : w14.cell? ⟨gb230, 0, none⟩ = some (.slice none 0 0) := (blk_cell BK230.out 0).trans rfl; have hcz16_1 : w14.cell? ⟨gb230, 1, none⟩ = some (.slice none 0 0) := (blk_cell BK230.out 1).trans rfl; have hcz16_2 : w14.cell? ⟨gb230, 2, none⟩ = some (.slice none 0 0) := (blk_cell BK230.out 2).trans rfl; have hcz16_3 : w14.cell? ⟨gb230, 3, none⟩ = some (.slice none 0 0) := (blk_cell BK230.out 3).trans rfl; have hcz16_4 : w14.cell? ⟨gb230, 4, none⟩ = some (.string (⟨#[]⟩ : ByteArray)) := (blk_cell BK230.out 4).trans rfl; have hcz16_5 : w14.cell? ⟨gb230, 5, none⟩ = some (.string (⟨#[]⟩ : ByteArray)) := (blk_cell BK230.out 5).trans rfl; have hfz16_0 := blk_frozen BK230.out 0; have hfz16_1 := blk_frozen BK230.out 1; have hfz16_2 := blk_frozen BK230.out 2; have hfz16_3 := blk_frozen BK230.out 3; have hfz16_4 := blk_frozen BK230.out 4; have hfz16_5 := blk_frozen BK230.out 5))
                    have n0_ : Aside0 (((((((w14.setCell ⟨gb230, 0, none⟩ (.slice A229_0 ((rd_T38 l0_0 x4_1).f0).length c229_0)).setCell ⟨gb230, 1, none⟩ (.slice A229_1 ((rd_T38 l0_0 x4_1).f1).length c229_1)).setCell ⟨gb230, 2, none⟩ (.slice A229_2 ((rd_T38 l0_0 x4_1).f2).length c229_2)).setCell ⟨gb230, 3, none⟩ (.slice A229_3 ((rd_T38 l0_0 x4_1).f3).length c229_3)).setCell ⟨gb230, 4, none⟩ (.string ((rd_T38 l0_0 x4_1).f4))).setCell ⟨gb230, 5, none⟩ (.string ((rd_T38 l0_0 x4_1).f5))).heap[gb227]? = some (.cells #[.slice (some ad229) l0_0.length c0_0, .slice A0_1 l0_1.length c0_1] 25 (0, 0))) := ⟨by (with_reducible repeat (first | refine blk_drewN ?_ _ | refine blk_drew ?_ | refine blk_alloc ?_ _)); refine blk_far ?_ NB227_230.out _; (with_reducible repeat (first | refine blk_drewN ?_ _ | refine blk_drew ?_ | refine blk_alloc ?_ _)); refine blk_far ?_ NB227_230.out _; (with_reducible repeat (first | refine blk_drewN ?_ _ | refine blk_drew ?_ | refine blk_alloc ?_ _)); refine blk_far ?_ NB227_230.out _; (with_reducible repeat (first | refine blk_drewN ?_ _ | refine blk_drew ?_ | refine blk_alloc ?_ _)); refine blk_far ?_ NB227_230.out _; (with_reducible repeat (first | refine blk_drewN ?_ _ | refine blk_drew ?_ | refine blk_alloc ?_ _)); refine blk_far ?_ NB227_230.out _; (with_reducible repeat (first | refine blk_drewN ?_ _ | refine blk_drew ?_ | refine blk_alloc ?_ _)); refine blk_far ?_ NB227_230.out _; (with_reducible repeat (first | refine blk_drewN ?_ _ | refine blk_drew ?_ | refine blk_alloc ?_ _)); exact BK227.out⟩
                    have n1_ : Aside0 (((((((w14.setCell ⟨gb230, 0, none⟩ (.slice A229_0 ((rd_T38 l0_0 x4_1).f0).length c229_0)).setCell ⟨gb230, 1, none⟩ (.slice A229_1 ((rd_T38 l0_0 x4_1).f1).length c229_1)).setCell ⟨gb230, 2, none⟩ (.slice A229_2 ((rd_T38 l0_0 x4_1).f2).length c229_2)).setCell ⟨gb230, 3, none⟩ (.slice A229_3 ((rd_T38 l0_0 x4_1).f3).length c229_3)).setCell ⟨gb230, 4, none⟩ (.string ((rd_T38 l0_0 x4_1).f4))).setCell ⟨gb230, 5, none⟩ (.string ((rd_T38 l0_0 x4_1).f5))).heap[gb230]? = some (.cells #[.slice A229_0 ((rd_T38 l0_0 x4_1).f0).length c229_0, .slice A229_1 ((rd_T38 l0_0 x4_1).f1).length c229_1, .slice A229_2 ((rd_T38 l0_0 x4_1).f2).length c229_2, .slice A229_3 ((rd_T38 l0_0 x4_1).f3).length c229_3, .string ((rd_T38 l0_0 x4_1).f4), .string ((rd_T38 l0_0 x4_1).f5)] 38 (0, 0))) := ⟨by (with_reducible repeat (first | refine blk_drewN ?_ _ | refine blk_drew ?_ | refine blk_alloc ?_ _)); refine blk_put (cs := #[.slice A229_0 ((rd_T38 l0_0 x4_1).f0).length c229_0, .slice A229_1 ((rd_T38 l0_0 x4_1).f1).length c229_1, .slice A229_2 ((rd_T38 l0_0 x4_1).f2).length c229_2, .slice A229_3 ((rd_T38 l0_0 x4_1).f3).length c229_3, .string ((rd_T38 l0_0 x4_1).f4), .string (⟨#[]⟩ : ByteArray)]) ?_ 5 _ rfl; (with_reducible repeat (first | refine blk_drewN ?_ _ | refine blk_drew ?_ | refine blk_alloc ?_ _)); refine blk_put (cs := #[.slice A229_0 ((rd_T38 l0_0 x4_1).f0).length c229_0, .slice A229_1 ((rd_T38 l0_0 x4_1).f1).length c229_1, .slice A229_2 ((rd_T38 l0_0 x4_1).f2).length c229_2, .slice A229_3 ((rd_T38 l0_0 x4_1).f3).length c229_3, .string (⟨#[]⟩ : ByteArray), .string (⟨#[]⟩ : ByteArray)]) ?_ 4 _ rfl; (with_reducible repeat (first | refine blk_drewN ?_ _ | refine blk_drew ?_ | refine blk_alloc ?_ _)); refine blk_put (cs := #[.slice A229_0 ((rd_T38 l0_0 x4_1).f0).length c229_0, .slice A229_1 ((rd_T38 l0_0 x4_1).f1).length c229_1, .slice A229_2 ((rd_T38 l0_0 x4_1).f2).length c229_2, .slice none 0 0, .string (⟨#[]⟩ : ByteArray), .string (⟨#[]⟩ : ByteArray)]) ?_ 3 _ rfl; (with_reducible repeat (first | refine blk_drewN ?_ _ | refine blk_drew ?_ | refine blk_alloc ?_ _)); refine blk_put (cs := #[.slice A229_0 ((rd_T38 l0_0 x4_1).f0).length c229_0, .slice A229_1 ((rd_T38 l0_0 x4_1).f1).length c229_1, .slice none 0 0, .slice none 0 0, .string (⟨#[]⟩ : ByteArray), .string (⟨#[]⟩ : ByteArray)]) ?_ 2 _ rfl; (with_reducible repeat (first | refine blk_drewN ?_ _ | refine blk_drew ?_ | refine blk_alloc ?_ _)); refine blk_put (cs := #[.slice A229_0 ((rd_T38 l0_0 x4_1).f0).length c229_0, .slice none 0 0, .slice none 0 0, .slice none 0 0, .string (⟨#[]⟩ : ByteArray), .string (⟨#[]⟩ : ByteArray)]) ?_ 1 _ rfl; (with_reducible repeat (first | refine blk_drewN ?_ _ | refine blk_drew ?_ | refine blk_alloc ?_ _)); refine blk_put (cs := #[.slice none 0 0, .slice none 0 0, .slice none 0 0, .slice none 0 0, .string (⟨#[]⟩ : ByteArray), .string (⟨#[]⟩ : ByteArray)]) ?_ 0 _ rfl; (with_reducible repeat (first | refine blk_drewN ?_ _ | refine blk_drew ?_ | refine blk_alloc ?_ _)); exact BK230.out⟩
                    have n2_ : Aside0 (Below w.heap.size w ((((((w14.setCell ⟨gb230, 0, none⟩ (.slice A229_0 ((rd_T38 l0_0 x4_1).f0).length c229_0)).setCell ⟨gb230, 1, none⟩ (.slice A229_1 ((rd_T38 l0_0 x4_1).f1).length c229_1)).setCell ⟨gb230, 2, none⟩ (.slice A229_2 ((rd_T38 l0_0 x4_1).f2).length c229_2)).setCell ⟨gb230, 3, none⟩ (.slice A229_3 ((rd_T38 l0_0 x4_1).f3).length c229_3)).setCell ⟨gb230, 4, none⟩ (.string ((rd_T38 l0_0 x4_1).f4))).setCell ⟨gb230, 5, none⟩ (.string ((rd_T38 l0_0 x4_1).f5)))) := ⟨by repeat (first | (with_reducible first | exact HB.out | apply below_alloc | apply pw_below_drewN | apply below_drew1 | refine below_set ?_ GE227.out | refine below_set ?_ GE230.out) | exact HB.out)⟩
                    (try clear BK227)
                    (try clear BK230)
                    (try clear HB)
                    generalize ((((((w14.setCell ⟨gb230, 0, none⟩ (.slice A229_0 ((rd_T38 l0_0 x4_1).f0).length c229_0)).setCell ⟨gb230, 1, none⟩ (.slice A229_1 ((rd_T38 l0_0 x4_1).f1).length c229_1)).setCell ⟨gb230, 2, none⟩ (.slice A229_2 ((rd_T38 l0_0 x4_1).f2).length c229_2)).setCell ⟨gb230, 3, none⟩ (.slice A229_3 ((rd_T38 l0_0 x4_1).f3).length c229_3)).setCell ⟨gb230, 4, none⟩ (.string ((rd_T38 l0_0 x4_1).f4))).setCell ⟨gb230, 5, none⟩ (.string ((rd_T38 l0_0 x4_1).f5))) = w17 at n0_ n1_ n2_ ⊢
                    have BK227 := n0_
                    have BK230 := n1_
                    have HB := n2_
                    clear n0_ n1_ n2_
                    have n0_ := Aside0.mk (blk_drew BK227.out)
                    have n1_ := Aside0.mk (blk_drew BK230.out)
                    have n2_ := Aside0.mk (below_drew1 HB.out)
                    clear BK227
                    clear BK230
                    clear HB
                    have BK227 := n0_
                    have BK230 := n1_
                    have HB := n2_
                    clear n0_ n1_ n2_
                    refine start_ (n := 12) (S := fun w' => w'.cell? ⟨gb230, 0, none⟩ = some (.slice A229_0 ((rd_T38 l0_0 x4_1).f0).length c229_0) ∧ w'.cell? ⟨gb230, 1, none⟩ = some (.slice A229_1 ((rd_T38 l0_0 x4_1).f1).length c229_1) ∧ w'.cell? ⟨gb230, 2, none⟩ = some (.slice A229_2 ((rd_T38 l0_0 x4_1).f2).length c229_2) ∧ w'.cell? ⟨gb230, 3, none⟩ = some (.slice A229_3 ((rd_T38 l0_0 x4_1).f3).length c229_3) ∧ w'.cell? ⟨gb230, 4, none⟩ = some (.string ((rd_T38 l0_0 x4_1).f4)) ∧ w'.cell? ⟨gb230, 5, none⟩ = some (.string ((rd_T38 l0_0 x4_1).f5))) (ds := []) #[false, false, false, false, false, false, false, false, false, false, false, false] (by kernel_rfl) rfl rfl ⟨(blk_cell BK230.out 0).trans rfl, (blk_cell BK230.out 1).trans rfl, (blk_cell BK230.out 2).trans rfl, (blk_cell BK230.out 3).trans rfl, (blk_cell BK230.out 4).trans rfl, (blk_cell BK230.out 5).trans rfl⟩ (fun hHeld => ?_); refine with_tabW bellowsref12_Print.tab6 bellowsref12_Print.bits6 (fun HT_ HW_ => ?_)
                    generalize w17.drew = w18 at BK227 BK230 HB hHeld ⊢
                    refine pure_ (i := 0) (N := some 18) (v := ?_) (a' := ?_) #[true, false, false, false, false, false, false, false, false, false, false, false] rfl rfl (any_of HT_.out (by kernel_rfl)) (fun _ _ _ h => h) (Or.inl ⟨by rfl, ?_⟩) ?_ ?_
                    rotate_left
                    · intro w'
                      go_simp
                      with_reducible rfl
                    rotate_left
                    · simp only [Act.put, List.setIfInBounds_toArray, List.set_cons_zero, List.set_cons_succ, i64_w, i32_w]
                      rfl
                    refine pure_ (i := 1) (N := some 19) (v := ?_) (a' := ?_) #[true, true, false, false, false, false, false, false, false, false, false, false] rfl rfl (any_of HT_.out (by kernel_rfl)) (fun _ _ _ h => h) (Or.inl ⟨by rfl, ?_⟩) ?_ ?_
                    rotate_left
                    · intro w'
                      go_simp
                      with_reducible rfl
                    rotate_left
                    · simp only [Act.put, List.setIfInBounds_toArray, List.set_cons_zero, List.set_cons_succ, i64_w, i32_w]
                      rfl
                    refine pure_ (i := 5) (N := some 23) (v := ?_) (a' := ?_) #[true, true, false, false, false, true, false, false, false, false, false, false] rfl rfl (any_of HT_.out (by kernel_rfl)) (fun _ _ _ h => h) (Or.inl ⟨by rfl, ?_⟩) ?_ ?_
                    rotate_left
                    · intro w'
                      go_simp
                      with_reducible rfl
                    rotate_left
                    · simp only [Act.put, List.setIfInBounds_toArray, List.set_cons_zero, List.set_cons_succ, i64_w, i32_w]
                      rfl
                    refine take_ (i := 6) (N := some 24) (v := ?_) (a' := ?_) #[true, true, false, false, false, true, true, false, false, false, false, false] rfl rfl (take_ofW HT_.out HW_.out (by kernel_rfl)) (fun _ _ _ h => h) (Or.inl ⟨by rfl, ?_⟩) hHeld ?_ ?_
                    rotate_left
                    · rintro w' ⟨s0, s1, s2, s3, s4, s5⟩
                      go_simp
                      with_reducible rfl
                    rotate_left
                    · simp only [Act.put, List.setIfInBounds_toArray, List.set_cons_zero, List.set_cons_succ, i64_w, i32_w]
                      rfl
                    refine one_ (i := 2) (N := some 20) #[true, true, true, false, false, true, true, false, false, false, false, false] rfl rfl (one_of HT_.out (by kernel_rfl)) (by decide) (fun K hK => ?_)
                    refine goes_ Tryz.func22 (by kernel_rfl) rfl #[.int .i64 x4_1] (by rfl) rfl rfl (by (try simp only [List.map_toArray, List.map_cons, List.map_nil]); first | done | rfl | (simp only [List.length_drop, List.length_take]; rfl)) ?_
                    with_reducible refine (bellowsref12_Digits.calls k1 x4_1 t231 _ A5.out).mono ?_
                    rintro e w19 ⟨rfl, hb⟩
                    refine ⟨_, rfl, ?_⟩
                    have n0_ := Aside0.mk (blk_below (g := gb227) (o := .cells #[.slice (some ad229) l0_0.length c0_0, .slice A0_1 l0_1.length c0_1] 25 (0, 0)) (by (with_reducible repeat (first | refine blk_drewN ?_ _ | refine blk_drew ?_ | refine blk_alloc ?_ _)); exact BK227.out) hb)
                    have n1_ := Aside0.mk (blk_below (g := gb230) (o := .cells #[.slice A229_0 ((rd_T38 l0_0 x4_1).f0).length c229_0, .slice A229_1 ((rd_T38 l0_0 x4_1).f1).length c229_1, .slice A229_2 ((rd_T38 l0_0 x4_1).f2).length c229_2, .slice A229_3 ((rd_T38 l0_0 x4_1).f3).length c229_3, .string ((rd_T38 l0_0 x4_1).f4), .string ((rd_T38 l0_0 x4_1).f5)] 38 (0, 0)) (by (with_reducible repeat (first | refine blk_drewN ?_ _ | refine blk_drew ?_ | refine blk_alloc ?_ _)); exact BK230.out) hb)
                    have n2_ := Aside0.mk (below_step (by repeat (first | (with_reducible first | exact HB.out | apply below_alloc | apply pw_below_drewN | apply below_drew1 | refine below_set ?_ GE227.out | refine below_set ?_ GE230.out) | exact HB.out)) hb)
                    clear BK227
                    clear BK230
                    clear HB
                    have BK227 := n0_
                    have BK230 := n1_
                    have HB := n2_
                    clear n0_ n1_ n2_
                    (try clear hb)
                    (try clear hb2)
                    (try clear hk)
                    (try clear hi)
                    refine hK.out _ _ ⟨(blk_cell BK230.out 0).trans rfl, (blk_cell BK230.out 1).trans rfl, (blk_cell BK230.out 2).trans rfl, (blk_cell BK230.out 3).trans rfl, (blk_cell BK230.out 4).trans rfl, (blk_cell BK230.out 5).trans rfl⟩ (fun hHeld => ?_)
                    clear hK K
                    refine norm_ (a' := ?_) ?_ ?_
                    rotate_left
                    · show Act.put _ (some 20) _ = _
                      simp only [Act.put, List.setIfInBounds_toArray, List.set_cons_zero, List.set_cons_succ, i64_w, i32_w]
                      rfl
                    refine pure_ (i := 3) (N := some 21) (v := ?_) (a' := ?_) #[true, true, true, true, false, true, true, false, false, false, false, false] rfl rfl (any_of HT_.out (by kernel_rfl)) (fun _ _ _ h => h) (Or.inl ⟨by rfl, ?_⟩) ?_ ?_
                    rotate_left
                    · intro w'
                      go_simp
                      with_reducible rfl
                    rotate_left
                    · simp only [Act.put, List.setIfInBounds_toArray, List.set_cons_zero, List.set_cons_succ, i64_w, i32_w]
                      rfl
                    refine pure_ (i := 4) (N := some 22) (v := ?_) (a' := ?_) #[true, true, true, true, true, true, true, false, false, false, false, false] rfl rfl (any_of HT_.out (by kernel_rfl)) (fun _ _ _ h => h) (Or.inl ⟨by rfl, ?_⟩) ?_ ?_
                    rotate_left
                    · intro w'
                      go_simp
                      with_reducible rfl
                    rotate_left
                    · simp only [Act.put, List.setIfInBounds_toArray, List.set_cons_zero, List.set_cons_succ, i64_w, i32_w]
                      rfl
                    refine one_ (i := 7) (N := some 25) #[true, true, true, true, true, true, true, true, false, false, false, false] rfl rfl (one_of HT_.out (by kernel_rfl)) (by decide) (fun K hK => ?_)
                    refine goes_ Tryz.func23 (by kernel_rfl) rfl #[.string ((rd_T38 l0_0 x4_1).f4)] (by rfl) rfl rfl (by (try simp only [List.map_toArray, List.map_cons, List.map_nil]); first | done | rfl | (simp only [List.length_drop, List.length_take]; rfl)) ?_
                    with_reducible refine (bellowsref10_Escape.calls k1 ((rd_T38 l0_0 x4_1).f4) t232 _ A8.out).mono ?_
                    rintro e w' ⟨rfl, ⟨nd, rfl⟩⟩
                    refine ⟨_, rfl, ?_⟩
                    refine hK.out _ _ ⟨(blk_cell BK230.out 0).trans rfl, (blk_cell BK230.out 1).trans rfl, (blk_cell BK230.out 2).trans rfl, (blk_cell BK230.out 3).trans rfl, (blk_cell BK230.out 4).trans rfl, (blk_cell BK230.out 5).trans rfl⟩ (fun hHeld => ?_)
                    clear hK K
                    refine norm_ (a' := ?_) ?_ ?_
                    rotate_left
                    · show Act.put _ (some 25) _ = _
                      simp only [Act.put, List.setIfInBounds_toArray, List.set_cons_zero, List.set_cons_succ, i64_w, i32_w]
                      rfl
                    refine pure_ (i := 8) (N := some 26) (v := ?_) (a' := ?_) #[true, true, true, true, true, true, true, true, true, false, false, false] rfl rfl (any_of HT_.out (by kernel_rfl)) (fun _ _ _ h => h) (Or.inl ⟨by rfl, ?_⟩) ?_ ?_
                    rotate_left
                    · intro w'
                      go_simp
                      with_reducible rfl
                    rotate_left
                    · simp only [Act.put, List.setIfInBounds_toArray, List.set_cons_zero, List.set_cons_succ, i64_w, i32_w]
                      rfl
                    refine pure_ (i := 9) (N := some 27) (v := ?_) (a' := ?_) #[true, true, true, true, true, true, true, true, true, true, false, false] rfl rfl (any_of HT_.out (by kernel_rfl)) (fun _ _ _ h => h) (Or.inl ⟨by rfl, ?_⟩) ?_ ?_
                    rotate_left
                    · intro w'
                      go_simp
                      with_reducible rfl
                    rotate_left
                    · simp only [Act.put, List.setIfInBounds_toArray, List.set_cons_zero, List.set_cons_succ, i64_w, i32_w]
                      rfl
                    refine pure_ (i := 10) (N := some 28) (v := ?_) (a' := ?_) #[true, true, true, true, true, true, true, true, true, true, true, false] rfl rfl (any_of HT_.out (by kernel_rfl)) (fun _ _ _ h => h) (Or.inl ⟨by rfl, ?_⟩) ?_ ?_
                    rotate_left
                    · intro w'
                      go_simp
                      with_reducible rfl
                    rotate_left
                    · simp only [Act.put, List.setIfInBounds_toArray, List.set_cons_zero, List.set_cons_succ, i64_w, i32_w]
                      rfl
                    refine pure_ (i := 11) (N := some 3) (v := ?_) (a' := ?_) #[true, true, true, true, true, true, true, true, true, true, true, true] rfl rfl (any_of HT_.out (by kernel_rfl)) (fun _ _ _ h => h) (Or.inl ⟨by rfl, ?_⟩) ?_ ?_
                    rotate_left
                    · intro w'
                      go_simp
                      with_reducible rfl
                    rotate_left
                    · simp only [Act.put, List.setIfInBounds_toArray, List.set_cons_zero, List.set_cons_succ, i64_w, i32_w]
                      rfl
                    refine done_ (done_of HT_.out (by kernel_rfl)) ?_
                    have hcz20_0 : w19.cell? ⟨gb230, 0, none⟩ = some (.slice A229_0 ((rd_T38 l0_0 x4_1).f0).length c229_0) := (blk_cell BK230.out 0).trans rfl
                    have hcz20_1 : w19.cell? ⟨gb230, 1, none⟩ = some (.slice A229_1 ((rd_T38 l0_0 x4_1).f1).length c229_1) := (blk_cell BK230.out 1).trans rfl
                    have hcz20_2 : w19.cell? ⟨gb230, 2, none⟩ = some (.slice A229_2 ((rd_T38 l0_0 x4_1).f2).length c229_2) := (blk_cell BK230.out 2).trans rfl
                    have hcz20_3 : w19.cell? ⟨gb230, 3, none⟩ = some (.slice A229_3 ((rd_T38 l0_0 x4_1).f3).length c229_3) := (blk_cell BK230.out 3).trans rfl
                    have hcz20_4 : w19.cell? ⟨gb230, 4, none⟩ = some (.string ((rd_T38 l0_0 x4_1).f4)) := (blk_cell BK230.out 4).trans rfl
                    have hcz20_5 : w19.cell? ⟨gb230, 5, none⟩ = some (.string ((rd_T38 l0_0 x4_1).f5)) := (blk_cell BK230.out 5).trans rfl
                    have hfz20_0 := blk_frozen BK230.out 0
                    have hfz20_1 := blk_frozen BK230.out 1
                    have hfz20_2 := blk_frozen BK230.out 2
                    have hfz20_3 := blk_frozen BK230.out 3
                    have hfz20_4 := blk_frozen BK230.out 4
                    have hfz20_5 := blk_frozen BK230.out 5
                    go_upto_if 31 with (fail)
                    go_cut [3] (fun v3 wc => ∃ (kq : Nat) (x3_11 : ByteArray), v3 = .string x3_11 ∧ Aside0 (bellowsref12_Print.j1 kq x3_11 x4_1 l0_0 l0_1 ((rd_T38 l0_0 x4_1).f0) ((rd_T38 l0_0 x4_1).f1) ((rd_T38 l0_0 x4_1).f2) ((rd_T38 l0_0 x4_1).f3) ((rd_T38 l0_0 x4_1).f4) ((rd_T38 l0_0 x4_1).f5) = some r) ∧ Aside0 (kq ≤ k1) ∧ Aside0 (wc.heap[gb227]? = some (.cells #[(.slice (some ad229) l0_0.length c0_0), (.slice A0_1 l0_1.length c0_1)] 25 (0, 0))) ∧ Aside0 (wc.heap[gb230]? = some (.cells #[(.slice A229_0 ((rd_T38 l0_0 x4_1).f0).length c229_0), (.slice A229_1 ((rd_T38 l0_0 x4_1).f1).length c229_1), (.slice A229_2 ((rd_T38 l0_0 x4_1).f2).length c229_2), (.slice A229_3 ((rd_T38 l0_0 x4_1).f3).length c229_3), .string ((rd_T38 l0_0 x4_1).f4), .string ((rd_T38 l0_0 x4_1).f5)] 38 (0, 0))) ∧ Aside0 (Below w.heap.size w wc))
                    case first =>
                      have H := HC12.out
                      clear HC12
                      by_cases c21 : ((rd_T38 l0_0 x4_1).f5).toList = ([] : List UInt8)
                      · rw [if_pos c21] at H
                        have c21b0 : (((rd_T38 l0_0 x4_1).f5).toList == ([] : List UInt8)) = true := beq_iff_eq.mpr c21
                        try have c21b7 : ((rd_T38 l0_0 x4_1).f5).toList.isEmpty = true := List.isEmpty_iff.2 (beq_iff_eq.1 c21b0)
                        try have c21b8 : (!((rd_T38 l0_0 x4_1).f5).toList.isEmpty) = false := by rw [c21b7]; rfl
                        have c21b1 : (((rd_T38 l0_0 x4_1).f5).toList != ([] : List UInt8)) = false := bne_eq_false_iff_eq.mpr c21
                        clear c21
                        (first | rw [c21b8] | rw [c21b0] | (simp only [i64_w, i32_w]; rw [c21b0]) | skip)
                        have H' := Aside0.mk H
                        clear H
                        go_wp2
                        go_meet
                        case rel => exact ⟨_, (x3_1 ++ (((((⟨#[114, 117, 108, 101, 32, 114]⟩ : ByteArray) ++ t231) ++ (⟨#[10, 32, 32, 99, 111, 109, 109, 97, 110, 100, 32, 61, 32]⟩ : ByteArray)) ++ t232) ++ (⟨#[10]⟩ : ByteArray))), (by first | rfl | (simp; done) | (simp [*]; done)), H', ⟨by have := HK1.out; first | omega | exact Nat.le_refl _⟩, ⟨by (with_reducible repeat (first | refine blk_drewN ?_ _ | refine blk_drew ?_ | refine blk_alloc ?_ _)); exact BK227.out⟩, ⟨by (with_reducible repeat (first | refine blk_drewN ?_ _ | refine blk_drew ?_ | refine blk_alloc ?_ _)); exact BK230.out⟩, ⟨by repeat (first | (with_reducible first | exact HB.out | apply below_alloc | apply pw_below_drewN | apply below_drew1 | refine below_set ?_ GE227.out | refine below_set ?_ GE230.out) | exact HB.out)⟩⟩
                      · rw [if_neg c21] at H
                        have c21b0 : (((rd_T38 l0_0 x4_1).f5).toList == ([] : List UInt8)) = false := beq_eq_false_iff_ne.mpr c21
                        try have c21b7 : ((rd_T38 l0_0 x4_1).f5).toList.isEmpty = false := by have hh_ := beq_eq_false_iff_ne.1 c21b0; cases hq_ : ((rd_T38 l0_0 x4_1).f5).toList with | nil => exact absurd hq_ hh_ | cons _ _ => rfl
                        try have c21b8 : (!((rd_T38 l0_0 x4_1).f5).toList.isEmpty) = true := by rw [c21b7]; rfl
                        have c21b1 : (((rd_T38 l0_0 x4_1).f5).toList != ([] : List UInt8)) = true := bne_iff_ne.mpr c21
                        (first | rw [c21b8] | rw [c21b0] | (simp only [i64_w, i32_w]; rw [c21b0]) | skip)
                        replace H := Option.bind_eq_some_iff.mp H
                        obtain ⟨t233, A220, H⟩ := H
                        replace H : (if 12 + t233.size ≤ 9223372036854775807 then (if ((⟨#[32, 32, 100, 101, 112, 102, 105, 108, 101, 32, 61, 32]⟩ : ByteArray) ++ t233).size + 1 ≤ 9223372036854775807 then (if (x3_1 ++ (((((⟨#[114, 117, 108, 101, 32, 114]⟩ : ByteArray) ++ t231) ++ (⟨#[10, 32, 32, 99, 111, 109, 109, 97, 110, 100, 32, 61, 32]⟩ : ByteArray)) ++ t232) ++ (⟨#[10]⟩ : ByteArray))).size + (((⟨#[32, 32, 100, 101, 112, 102, 105, 108, 101, 32, 61, 32]⟩ : ByteArray) ++ t233) ++ (⟨#[10]⟩ : ByteArray)).size ≤ 9223372036854775807 then (bellowsref12_Print.j1 k1 ((x3_1 ++ (((((⟨#[114, 117, 108, 101, 32, 114]⟩ : ByteArray) ++ t231) ++ (⟨#[10, 32, 32, 99, 111, 109, 109, 97, 110, 100, 32, 61, 32]⟩ : ByteArray)) ++ t232) ++ (⟨#[10]⟩ : ByteArray))) ++ (((⟨#[32, 32, 100, 101, 112, 102, 105, 108, 101, 32, 61, 32]⟩ : ByteArray) ++ t233) ++ (⟨#[10]⟩ : ByteArray))) x4_1 l0_0 l0_1 ((rd_T38 l0_0 x4_1).f0) ((rd_T38 l0_0 x4_1).f1) ((rd_T38 l0_0 x4_1).f2) ((rd_T38 l0_0 x4_1).f3) ((rd_T38 l0_0 x4_1).f4) ((rd_T38 l0_0 x4_1).f5)) else (none)) else (none)) else (none)) = some r := H
                        have A22 := Aside0.mk A220
                        clear A220
                        by_cases c23 : 12 + t233.size ≤ 9223372036854775807
                        · rw [if_pos c23] at H
                          have c23b0 := eq_true c23
                          have c23b1 : decide (12 + t233.size ≤ 9223372036854775807) = true := decide_eq_true c23
                          try have c23b2 : (9223372036854775807 < 12 + t233.size) = False := eq_false (Nat.not_lt.2 c23)
                          have c23x : 12 + t233.size ≤ 9223372036854775807 := by have hh_ := c23; (try simp only [ByteArray.size_append] at hh_); exact hh_
                          try have c23x0 : (9223372036854775807 < 12 + t233.size) = False := eq_false (by omega)
                          by_cases c24 : ((⟨#[32, 32, 100, 101, 112, 102, 105, 108, 101, 32, 61, 32]⟩ : ByteArray) ++ t233).size + 1 ≤ 9223372036854775807
                          · rw [if_pos c24] at H
                            have c24b0 := eq_true c24
                            have c24b1 : decide (((⟨#[32, 32, 100, 101, 112, 102, 105, 108, 101, 32, 61, 32]⟩ : ByteArray) ++ t233).size + 1 ≤ 9223372036854775807) = true := decide_eq_true c24
                            try have c24b2 : (9223372036854775807 < ((⟨#[32, 32, 100, 101, 112, 102, 105, 108, 101, 32, 61, 32]⟩ : ByteArray) ++ t233).size + 1) = False := eq_false (Nat.not_lt.2 c24)
                            try have c24b7 : (9223372036854775806 < ((⟨#[32, 32, 100, 101, 112, 102, 105, 108, 101, 32, 61, 32]⟩ : ByteArray) ++ t233).size) = False := eq_false (by omega)
                            have c24e : 12 + t233.size + 1 ≤ 9223372036854775807 := by have hh_ := c24; rw [ByteArray.size_append] at hh_; exact hh_
                            try have c24e0 : (9223372036854775806 < 12 + t233.size) = False := eq_false (by omega)
                            try have c24e1 : (9223372036854775794 < t233.size) = False := eq_false (by omega)
                            try have c24e2 : (9223372036854775807 < 12 + t233.size + 1) = False := eq_false (by omega)
                            try have c24e3 : (9223372036854775806 < t233.size + 12) = False := eq_false (by omega)
                            try have c24e4 : (9223372036854775807 < t233.size + 12 + 1) = False := eq_false (by omega)
                            have c24x : 12 + t233.size + 1 ≤ 9223372036854775807 := by have hh_ := c24; (try simp only [ByteArray.size_append] at hh_); exact hh_
                            try have c24x0 : (9223372036854775807 < 12 + t233.size + 1) = False := eq_false (by omega)
                            try have c24x1 : (9223372036854775806 < 12 + t233.size) = False := eq_false (by omega)
                            by_cases c25 : (x3_1 ++ (((((⟨#[114, 117, 108, 101, 32, 114]⟩ : ByteArray) ++ t231) ++ (⟨#[10, 32, 32, 99, 111, 109, 109, 97, 110, 100, 32, 61, 32]⟩ : ByteArray)) ++ t232) ++ (⟨#[10]⟩ : ByteArray))).size + (((⟨#[32, 32, 100, 101, 112, 102, 105, 108, 101, 32, 61, 32]⟩ : ByteArray) ++ t233) ++ (⟨#[10]⟩ : ByteArray)).size ≤ 9223372036854775807
                            · rw [if_pos c25] at H
                              have c25b0 := eq_true c25
                              have c25b1 : decide ((x3_1 ++ (((((⟨#[114, 117, 108, 101, 32, 114]⟩ : ByteArray) ++ t231) ++ (⟨#[10, 32, 32, 99, 111, 109, 109, 97, 110, 100, 32, 61, 32]⟩ : ByteArray)) ++ t232) ++ (⟨#[10]⟩ : ByteArray))).size + (((⟨#[32, 32, 100, 101, 112, 102, 105, 108, 101, 32, 61, 32]⟩ : ByteArray) ++ t233) ++ (⟨#[10]⟩ : ByteArray)).size ≤ 9223372036854775807) = true := decide_eq_true c25
                              try have c25b2 : (9223372036854775807 < (x3_1 ++ (((((⟨#[114, 117, 108, 101, 32, 114]⟩ : ByteArray) ++ t231) ++ (⟨#[10, 32, 32, 99, 111, 109, 109, 97, 110, 100, 32, 61, 32]⟩ : ByteArray)) ++ t232) ++ (⟨#[10]⟩ : ByteArray))).size + (((⟨#[32, 32, 100, 101, 112, 102, 105, 108, 101, 32, 61, 32]⟩ : ByteArray) ++ t233) ++ (⟨#[10]⟩ : ByteArray)).size) = False := eq_false (Nat.not_lt.2 c25)
                              have c25x : x3_1.size + (6 + t231.size + 13 + t232.size + 1) + (12 + t233.size + 1) ≤ 9223372036854775807 := by have hh_ := c25; (try simp only [ByteArray.size_append] at hh_); exact hh_
                              try have c25x0 : (9223372036854775807 < x3_1.size + (6 + t231.size + 13 + t232.size + 1) + (12 + t233.size + 1)) = False := eq_false (by omega)
                              try have c25x1 : (9223372036854775806 < x3_1.size + (6 + t231.size + 13 + t232.size + 1) + (12 + t233.size)) = False := eq_false (by omega)
                              have H' := Aside0.mk H
                              clear H
                              have hnb26 := NB230_227.out
                              have hnc26 := NB227_230.out
                              have hcz27_0 : w19.cell? ⟨gb230, 0, none⟩ = some (.slice A229_0 ((rd_T38 l0_0 x4_1).f0).length c229_0) := (blk_cell BK230.out 0).trans rfl
                              have hcz27_1 : w19.cell? ⟨gb230, 1, none⟩ = some (.slice A229_1 ((rd_T38 l0_0 x4_1).f1).length c229_1) := (blk_cell BK230.out 1).trans rfl
                              have hcz27_2 : w19.cell? ⟨gb230, 2, none⟩ = some (.slice A229_2 ((rd_T38 l0_0 x4_1).f2).length c229_2) := (blk_cell BK230.out 2).trans rfl
                              have hcz27_3 : w19.cell? ⟨gb230, 3, none⟩ = some (.slice A229_3 ((rd_T38 l0_0 x4_1).f3).length c229_3) := (blk_cell BK230.out 3).trans rfl
                              have hcz27_4 : w19.cell? ⟨gb230, 4, none⟩ = some (.string ((rd_T38 l0_0 x4_1).f4)) := (blk_cell BK230.out 4).trans rfl
                              have hcz27_5 : w19.cell? ⟨gb230, 5, none⟩ = some (.string ((rd_T38 l0_0 x4_1).f5)) := (blk_cell BK230.out 5).trans rfl
                              have hfz27_0 := blk_frozen BK230.out 0
                              have hfz27_1 := blk_frozen BK230.out 1
                              have hfz27_2 := blk_frozen BK230.out 2
                              have hfz27_3 := blk_frozen BK230.out 3
                              have hfz27_4 := blk_frozen BK230.out 4
                              have hfz27_5 := blk_frozen BK230.out 5
                              go_wp2_with (first | ((with_reducible refine gate_callee (f := 23) rfl ?_); refine goesL_ (some 35) rfl rfl Tryz.func23 (by kernel_rfl) rfl #[.string ((rd_T38 l0_0 x4_1).f5)] rfl (by (try simp only [List.map_toArray, List.map_cons, List.map_nil]); first | done | rfl | (simp only [List.length_drop, List.length_take]; rfl)) ?_; (with_reducible refine (bellowsref10_Escape.calls k1 ((rd_T38 l0_0 x4_1).f5) t233 _ A22.out).mono ?_); rintro e w' ⟨rfl, ⟨nd, rfl⟩⟩; refine ⟨_, rfl, ?_⟩))
                              go_meet
                              case rel => exact ⟨_, ((x3_1 ++ (((((⟨#[114, 117, 108, 101, 32, 114]⟩ : ByteArray) ++ t231) ++ (⟨#[10, 32, 32, 99, 111, 109, 109, 97, 110, 100, 32, 61, 32]⟩ : ByteArray)) ++ t232) ++ (⟨#[10]⟩ : ByteArray))) ++ (((⟨#[32, 32, 100, 101, 112, 102, 105, 108, 101, 32, 61, 32]⟩ : ByteArray) ++ t233) ++ (⟨#[10]⟩ : ByteArray))), (by first | rfl | (simp; done) | (simp [*]; done)), H', ⟨by have := HK1.out; first | omega | exact Nat.le_refl _⟩, ⟨by (with_reducible repeat (first | refine blk_drewN ?_ _ | refine blk_drew ?_ | refine blk_alloc ?_ _)); exact BK227.out⟩, ⟨by (with_reducible repeat (first | refine blk_drewN ?_ _ | refine blk_drew ?_ | refine blk_alloc ?_ _)); exact BK230.out⟩, ⟨by repeat (first | (with_reducible first | exact HB.out | apply below_alloc | apply pw_below_drewN | apply below_drew1 | refine below_set ?_ GE227.out | refine below_set ?_ GE230.out) | exact HB.out)⟩⟩
                            · rw [if_neg c25] at H
                              exact absurd H (by simp)
                          · rw [if_neg c24] at H
                            exact absurd H (by simp)
                        · rw [if_neg c23] at H
                          exact absurd H (by simp)
                    case rest =>
                      clear HC12
                      try clear c1
                      try clear c2
                      try clear p2
                      try clear q2
                      try clear hx2
                      try clear c3
                      try clear c3b0
                      try clear c4
                      try clear c4b0
                      try clear c6
                      try clear c6b0
                      try clear c6b1
                      try clear c6b2
                      try clear c7
                      try clear c7b0
                      try clear c7b1
                      try clear c7b2
                      try clear c9
                      try clear c9b0
                      try clear c9b1
                      try clear c9b2
                      try clear c10
                      try clear c10b0
                      try clear c10b1
                      try clear c10b2
                      try clear c11
                      try clear c11b0
                      try clear c11b1
                      try clear c11b2
                      try clear c15
                      try clear c21
                      try clear c21b0
                      try clear c21b1
                      try clear c22
                      try clear p22
                      try clear q22
                      try clear hx22
                      try clear c23
                      try clear c23b0
                      try clear c23b1
                      try clear c23b2
                      try clear c24
                      try clear c24b0
                      try clear c24b1
                      try clear c24b2
                      try clear c25
                      try clear c25b0
                      try clear c25b1
                      try clear c25b2
                      try clear c26
                      try clear hcz13_0
                      try clear hcz13_1
                      try clear hcz16_0
                      try clear hcz16_1
                      try clear hcz16_2
                      try clear hcz16_3
                      try clear hcz16_4
                      try clear hcz16_5
                      try clear hcz20_0
                      try clear hcz20_1
                      try clear hcz20_2
                      try clear hcz20_3
                      try clear hcz20_4
                      try clear hcz20_5
                      try clear hcz27_0
                      try clear hcz27_1
                      try clear hcz27_2
                      try clear hcz27_3
                      try clear hcz27_4
                      try clear hcz27_5
                      try clear hfz13_0
                      try clear hfz13_1
                      try clear hfz16_0
                      try clear hfz16_1
                      try clear hfz16_2
                      try clear hfz16_3
                      try clear hfz16_4
                      try clear hfz16_5
                      try clear hfz20_0
                      try clear hfz20_1
                      try clear hfz20_2
                      try clear hfz20_3
                      try clear hfz20_4
                      try clear hfz20_5
                      try clear hfz27_0
                      try clear hfz27_1
                      try clear hfz27_2
                      try clear hfz27_3
                      try clear hfz27_4
                      try clear hfz27_5
                      try clear hx229_0
                      try clear hx229_1
                      try clear hx229_2
                      try clear hx229_3
                      try clear hx229_4
                      try clear hx229_5
                      try clear p2
                      try clear p229
                      try clear q229
                      obtain ⟨kq, x3_11, rfl, HA, HJ11, BK227, BK230, HB⟩ := hcut
                      cases kq with
                      | zero => exact absurd HA.out (by simp [bellowsref12_Print.j1])
                      | succ kj11 =>
                        have H := HA.out
                        clear HA
                        simp only [bellowsref12_Print.j1] at H
                        replace H := Option.bind_eq_some_iff.mp H
                        obtain ⟨t234, A280, H⟩ := H
                        replace H : (if 5 + t234.size ≤ 9223372036854775807 then (if ((⟨#[98, 117, 105, 108, 100]⟩ : ByteArray) ++ t234).size + 3 ≤ 9223372036854775807 then ((bellowsref12_Digits.f kj11 x4_1).bind fun t235 => (if (((⟨#[98, 117, 105, 108, 100]⟩ : ByteArray) ++ t234) ++ (⟨#[58, 32, 114]⟩ : ByteArray)).size + t235.size ≤ 9223372036854775807 then ((bellowsref12_row.f kj11 ((rd_T38 l0_0 x4_1).f1)).bind fun t236 => (if ((((⟨#[98, 117, 105, 108, 100]⟩ : ByteArray) ++ t234) ++ (⟨#[58, 32, 114]⟩ : ByteArray)) ++ t235).size + t236.size ≤ 9223372036854775807 then (if x3_11.size + (((((⟨#[98, 117, 105, 108, 100]⟩ : ByteArray) ++ t234) ++ (⟨#[58, 32, 114]⟩ : ByteArray)) ++ t235) ++ t236).size ≤ 9223372036854775807 then (if (((rd_T38 l0_0 x4_1).f2).length : Int) > 0 then ((bellowsref12_row.f kj11 ((rd_T38 l0_0 x4_1).f2)).bind fun t237 => (if 2 + t237.size ≤ 9223372036854775807 then (if (x3_11 ++ (((((⟨#[98, 117, 105, 108, 100]⟩ : ByteArray) ++ t234) ++ (⟨#[58, 32, 114]⟩ : ByteArray)) ++ t235) ++ t236)).size + ((⟨#[32, 124]⟩ : ByteArray) ++ t237).size ≤ 9223372036854775807 then (if (((rd_T38 l0_0 x4_1).f3).length : Int) > 0 then ((bellowsref12_row.f kj11 ((rd_T38 l0_0 x4_1).f3)).bind fun t238 => (if 3 + t238.size ≤ 9223372036854775807 then (if ((x3_11 ++ (((((⟨#[98, 117, 105, 108, 100]⟩ : ByteArray) ++ t234) ++ (⟨#[58, 32, 114]⟩ : ByteArray)) ++ t235) ++ t236)) ++ ((⟨#[32, 124]⟩ : ByteArray) ++ t237)).size + ((⟨#[32, 124, 124]⟩ : ByteArray) ++ t238).size ≤ 9223372036854775807 then (if (((x3_11 ++ (((((⟨#[98, 117, 105, 108, 100]⟩ : ByteArray) ++ t234) ++ (⟨#[58, 32, 114]⟩ : ByteArray)) ++ t235) ++ t236)) ++ ((⟨#[32, 124]⟩ : ByteArray) ++ t237)) ++ ((⟨#[32, 124, 124]⟩ : ByteArray) ++ t238)).size + 1 ≤ 9223372036854775807 then (bellowsref12_Print.l0 kj11 ((((x3_11 ++ (((((⟨#[98, 117, 105, 108, 100]⟩ : ByteArray) ++ t234) ++ (⟨#[58, 32, 114]⟩ : ByteArray)) ++ t235) ++ t236)) ++ ((⟨#[32, 124]⟩ : ByteArray) ++ t237)) ++ ((⟨#[32, 124, 124]⟩ : ByteArray) ++ t238)) ++ (⟨#[10]⟩ : ByteArray)) (wrap64 (x4_1 + 1)) l0_0 l0_1) else (none)) else (none)) else (none))) else (if ((x3_11 ++ (((((⟨#[98, 117, 105, 108, 100]⟩ : ByteArray) ++ t234) ++ (⟨#[58, 32, 114]⟩ : ByteArray)) ++ t235) ++ t236)) ++ ((⟨#[32, 124]⟩ : ByteArray) ++ t237)).size + 1 ≤ 9223372036854775807 then (bellowsref12_Print.l0 kj11 (((x3_11 ++ (((((⟨#[98, 117, 105, 108, 100]⟩ : ByteArray) ++ t234) ++ (⟨#[58, 32, 114]⟩ : ByteArray)) ++ t235) ++ t236)) ++ ((⟨#[32, 124]⟩ : ByteArray) ++ t237)) ++ (⟨#[10]⟩ : ByteArray)) (wrap64 (x4_1 + 1)) l0_0 l0_1) else (none))) else (none)) else (none))) else (if (((rd_T38 l0_0 x4_1).f3).length : Int) > 0 then ((bellowsref12_row.f kj11 ((rd_T38 l0_0 x4_1).f3)).bind fun t239 => (if 3 + t239.size ≤ 9223372036854775807 then (if (x3_11 ++ (((((⟨#[98, 117, 105, 108, 100]⟩ : ByteArray) ++ t234) ++ (⟨#[58, 32, 114]⟩ : ByteArray)) ++ t235) ++ t236)).size + ((⟨#[32, 124, 124]⟩ : ByteArray) ++ t239).size ≤ 9223372036854775807 then (if ((x3_11 ++ (((((⟨#[98, 117, 105, 108, 100]⟩ : ByteArray) ++ t234) ++ (⟨#[58, 32, 114]⟩ : ByteArray)) ++ t235) ++ t236)) ++ ((⟨#[32, 124, 124]⟩ : ByteArray) ++ t239)).size + 1 ≤ 9223372036854775807 then (bellowsref12_Print.l0 kj11 (((x3_11 ++ (((((⟨#[98, 117, 105, 108, 100]⟩ : ByteArray) ++ t234) ++ (⟨#[58, 32, 114]⟩ : ByteArray)) ++ t235) ++ t236)) ++ ((⟨#[32, 124, 124]⟩ : ByteArray) ++ t239)) ++ (⟨#[10]⟩ : ByteArray)) (wrap64 (x4_1 + 1)) l0_0 l0_1) else (none)) else (none)) else (none))) else (if (x3_11 ++ (((((⟨#[98, 117, 105, 108, 100]⟩ : ByteArray) ++ t234) ++ (⟨#[58, 32, 114]⟩ : ByteArray)) ++ t235) ++ t236)).size + 1 ≤ 9223372036854775807 then (bellowsref12_Print.l0 kj11 ((x3_11 ++ (((((⟨#[98, 117, 105, 108, 100]⟩ : ByteArray) ++ t234) ++ (⟨#[58, 32, 114]⟩ : ByteArray)) ++ t235) ++ t236)) ++ (⟨#[10]⟩ : ByteArray)) (wrap64 (x4_1 + 1)) l0_0 l0_1) else (none)))) else (none)) else (none))) else (none))) else (none)) else (none)) = some r := H
                        have A28 := Aside0.mk A280
                        clear A280
                        by_cases c29 : 5 + t234.size ≤ 9223372036854775807
                        · rw [if_pos c29] at H
                          have c29b0 := eq_true c29
                          have c29b1 : decide (5 + t234.size ≤ 9223372036854775807) = true := decide_eq_true c29
                          try have c29b2 : (9223372036854775807 < 5 + t234.size) = False := eq_false (Nat.not_lt.2 c29)
                          have c29x : 5 + t234.size ≤ 9223372036854775807 := by have hh_ := c29; (try simp only [ByteArray.size_append] at hh_); exact hh_
                          try have c29x0 : (9223372036854775807 < 5 + t234.size) = False := eq_false (by omega)
                          by_cases c30 : ((⟨#[98, 117, 105, 108, 100]⟩ : ByteArray) ++ t234).size + 3 ≤ 9223372036854775807
                          · rw [if_pos c30] at H
                            have c30b0 := eq_true c30
                            have c30b1 : decide (((⟨#[98, 117, 105, 108, 100]⟩ : ByteArray) ++ t234).size + 3 ≤ 9223372036854775807) = true := decide_eq_true c30
                            try have c30b2 : (9223372036854775807 < ((⟨#[98, 117, 105, 108, 100]⟩ : ByteArray) ++ t234).size + 3) = False := eq_false (Nat.not_lt.2 c30)
                            try have c30b7 : (9223372036854775804 < ((⟨#[98, 117, 105, 108, 100]⟩ : ByteArray) ++ t234).size) = False := eq_false (by omega)
                            have c30e : 5 + t234.size + 3 ≤ 9223372036854775807 := by have hh_ := c30; rw [ByteArray.size_append] at hh_; exact hh_
                            try have c30e0 : (9223372036854775804 < 5 + t234.size) = False := eq_false (by omega)
                            try have c30e1 : (9223372036854775799 < t234.size) = False := eq_false (by omega)
                            try have c30e2 : (9223372036854775807 < 5 + t234.size + 3) = False := eq_false (by omega)
                            try have c30e3 : (9223372036854775804 < t234.size + 5) = False := eq_false (by omega)
                            try have c30e4 : (9223372036854775807 < t234.size + 5 + 3) = False := eq_false (by omega)
                            have c30x : 5 + t234.size + 3 ≤ 9223372036854775807 := by have hh_ := c30; (try simp only [ByteArray.size_append] at hh_); exact hh_
                            try have c30x0 : (9223372036854775807 < 5 + t234.size + 3) = False := eq_false (by omega)
                            try have c30x1 : (9223372036854775804 < 5 + t234.size) = False := eq_false (by omega)
                            replace H := Option.bind_eq_some_iff.mp H
                            obtain ⟨t235, A310, H⟩ := H
                            replace H : (if (((⟨#[98, 117, 105, 108, 100]⟩ : ByteArray) ++ t234) ++ (⟨#[58, 32, 114]⟩ : ByteArray)).size + t235.size ≤ 9223372036854775807 then ((bellowsref12_row.f kj11 ((rd_T38 l0_0 x4_1).f1)).bind fun t236 => (if ((((⟨#[98, 117, 105, 108, 100]⟩ : ByteArray) ++ t234) ++ (⟨#[58, 32, 114]⟩ : ByteArray)) ++ t235).size + t236.size ≤ 9223372036854775807 then (if x3_11.size + (((((⟨#[98, 117, 105, 108, 100]⟩ : ByteArray) ++ t234) ++ (⟨#[58, 32, 114]⟩ : ByteArray)) ++ t235) ++ t236).size ≤ 9223372036854775807 then (if (((rd_T38 l0_0 x4_1).f2).length : Int) > 0 then ((bellowsref12_row.f kj11 ((rd_T38 l0_0 x4_1).f2)).bind fun t237 => (if 2 + t237.size ≤ 9223372036854775807 then (if (x3_11 ++ (((((⟨#[98, 117, 105, 108, 100]⟩ : ByteArray) ++ t234) ++ (⟨#[58, 32, 114]⟩ : ByteArray)) ++ t235) ++ t236)).size + ((⟨#[32, 124]⟩ : ByteArray) ++ t237).size ≤ 9223372036854775807 then (if (((rd_T38 l0_0 x4_1).f3).length : Int) > 0 then ((bellowsref12_row.f kj11 ((rd_T38 l0_0 x4_1).f3)).bind fun t238 => (if 3 + t238.size ≤ 9223372036854775807 then (if ((x3_11 ++ (((((⟨#[98, 117, 105, 108, 100]⟩ : ByteArray) ++ t234) ++ (⟨#[58, 32, 114]⟩ : ByteArray)) ++ t235) ++ t236)) ++ ((⟨#[32, 124]⟩ : ByteArray) ++ t237)).size + ((⟨#[32, 124, 124]⟩ : ByteArray) ++ t238).size ≤ 9223372036854775807 then (if (((x3_11 ++ (((((⟨#[98, 117, 105, 108, 100]⟩ : ByteArray) ++ t234) ++ (⟨#[58, 32, 114]⟩ : ByteArray)) ++ t235) ++ t236)) ++ ((⟨#[32, 124]⟩ : ByteArray) ++ t237)) ++ ((⟨#[32, 124, 124]⟩ : ByteArray) ++ t238)).size + 1 ≤ 9223372036854775807 then (bellowsref12_Print.l0 kj11 ((((x3_11 ++ (((((⟨#[98, 117, 105, 108, 100]⟩ : ByteArray) ++ t234) ++ (⟨#[58, 32, 114]⟩ : ByteArray)) ++ t235) ++ t236)) ++ ((⟨#[32, 124]⟩ : ByteArray) ++ t237)) ++ ((⟨#[32, 124, 124]⟩ : ByteArray) ++ t238)) ++ (⟨#[10]⟩ : ByteArray)) (wrap64 (x4_1 + 1)) l0_0 l0_1) else (none)) else (none)) else (none))) else (if ((x3_11 ++ (((((⟨#[98, 117, 105, 108, 100]⟩ : ByteArray) ++ t234) ++ (⟨#[58, 32, 114]⟩ : ByteArray)) ++ t235) ++ t236)) ++ ((⟨#[32, 124]⟩ : ByteArray) ++ t237)).size + 1 ≤ 9223372036854775807 then (bellowsref12_Print.l0 kj11 (((x3_11 ++ (((((⟨#[98, 117, 105, 108, 100]⟩ : ByteArray) ++ t234) ++ (⟨#[58, 32, 114]⟩ : ByteArray)) ++ t235) ++ t236)) ++ ((⟨#[32, 124]⟩ : ByteArray) ++ t237)) ++ (⟨#[10]⟩ : ByteArray)) (wrap64 (x4_1 + 1)) l0_0 l0_1) else (none))) else (none)) else (none))) else (if (((rd_T38 l0_0 x4_1).f3).length : Int) > 0 then ((bellowsref12_row.f kj11 ((rd_T38 l0_0 x4_1).f3)).bind fun t239 => (if 3 + t239.size ≤ 9223372036854775807 then (if (x3_11 ++ (((((⟨#[98, 117, 105, 108, 100]⟩ : ByteArray) ++ t234) ++ (⟨#[58, 32, 114]⟩ : ByteArray)) ++ t235) ++ t236)).size + ((⟨#[32, 124, 124]⟩ : ByteArray) ++ t239).size ≤ 9223372036854775807 then (if ((x3_11 ++ (((((⟨#[98, 117, 105, 108, 100]⟩ : ByteArray) ++ t234) ++ (⟨#[58, 32, 114]⟩ : ByteArray)) ++ t235) ++ t236)) ++ ((⟨#[32, 124, 124]⟩ : ByteArray) ++ t239)).size + 1 ≤ 9223372036854775807 then (bellowsref12_Print.l0 kj11 (((x3_11 ++ (((((⟨#[98, 117, 105, 108, 100]⟩ : ByteArray) ++ t234) ++ (⟨#[58, 32, 114]⟩ : ByteArray)) ++ t235) ++ t236)) ++ ((⟨#[32, 124, 124]⟩ : ByteArray) ++ t239)) ++ (⟨#[10]⟩ : ByteArray)) (wrap64 (x4_1 + 1)) l0_0 l0_1) else (none)) else (none)) else (none))) else (if (x3_11 ++ (((((⟨#[98, 117, 105, 108, 100]⟩ : ByteArray) ++ t234) ++ (⟨#[58, 32, 114]⟩ : ByteArray)) ++ t235) ++ t236)).size + 1 ≤ 9223372036854775807 then (bellowsref12_Print.l0 kj11 ((x3_11 ++ (((((⟨#[98, 117, 105, 108, 100]⟩ : ByteArray) ++ t234) ++ (⟨#[58, 32, 114]⟩ : ByteArray)) ++ t235) ++ t236)) ++ (⟨#[10]⟩ : ByteArray)) (wrap64 (x4_1 + 1)) l0_0 l0_1) else (none)))) else (none)) else (none))) else (none)) = some r := H
                            have A31 := Aside0.mk A310
                            clear A310
                            by_cases c32 : (((⟨#[98, 117, 105, 108, 100]⟩ : ByteArray) ++ t234) ++ (⟨#[58, 32, 114]⟩ : ByteArray)).size + t235.size ≤ 9223372036854775807
                            · rw [if_pos c32] at H
                              have c32b0 := eq_true c32
                              have c32b1 : decide ((((⟨#[98, 117, 105, 108, 100]⟩ : ByteArray) ++ t234) ++ (⟨#[58, 32, 114]⟩ : ByteArray)).size + t235.size ≤ 9223372036854775807) = true := decide_eq_true c32
                              try have c32b2 : (9223372036854775807 < (((⟨#[98, 117, 105, 108, 100]⟩ : ByteArray) ++ t234) ++ (⟨#[58, 32, 114]⟩ : ByteArray)).size + t235.size) = False := eq_false (Nat.not_lt.2 c32)
                              have c32x : 5 + t234.size + 3 + t235.size ≤ 9223372036854775807 := by have hh_ := c32; (try simp only [ByteArray.size_append] at hh_); exact hh_
                              try have c32x0 : (9223372036854775807 < 5 + t234.size + 3 + t235.size) = False := eq_false (by omega)
                              replace H := Option.bind_eq_some_iff.mp H
                              obtain ⟨t236, A330, H⟩ := H
                              replace H : (if ((((⟨#[98, 117, 105, 108, 100]⟩ : ByteArray) ++ t234) ++ (⟨#[58, 32, 114]⟩ : ByteArray)) ++ t235).size + t236.size ≤ 9223372036854775807 then (if x3_11.size + (((((⟨#[98, 117, 105, 108, 100]⟩ : ByteArray) ++ t234) ++ (⟨#[58, 32, 114]⟩ : ByteArray)) ++ t235) ++ t236).size ≤ 9223372036854775807 then (if (((rd_T38 l0_0 x4_1).f2).length : Int) > 0 then ((bellowsref12_row.f kj11 ((rd_T38 l0_0 x4_1).f2)).bind fun t237 => (if 2 + t237.size ≤ 9223372036854775807 then (if (x3_11 ++ (((((⟨#[98, 117, 105, 108, 100]⟩ : ByteArray) ++ t234) ++ (⟨#[58, 32, 114]⟩ : ByteArray)) ++ t235) ++ t236)).size + ((⟨#[32, 124]⟩ : ByteArray) ++ t237).size ≤ 9223372036854775807 then (if (((rd_T38 l0_0 x4_1).f3).length : Int) > 0 then ((bellowsref12_row.f kj11 ((rd_T38 l0_0 x4_1).f3)).bind fun t238 => (if 3 + t238.size ≤ 9223372036854775807 then (if ((x3_11 ++ (((((⟨#[98, 117, 105, 108, 100]⟩ : ByteArray) ++ t234) ++ (⟨#[58, 32, 114]⟩ : ByteArray)) ++ t235) ++ t236)) ++ ((⟨#[32, 124]⟩ : ByteArray) ++ t237)).size + ((⟨#[32, 124, 124]⟩ : ByteArray) ++ t238).size ≤ 9223372036854775807 then (if (((x3_11 ++ (((((⟨#[98, 117, 105, 108, 100]⟩ : ByteArray) ++ t234) ++ (⟨#[58, 32, 114]⟩ : ByteArray)) ++ t235) ++ t236)) ++ ((⟨#[32, 124]⟩ : ByteArray) ++ t237)) ++ ((⟨#[32, 124, 124]⟩ : ByteArray) ++ t238)).size + 1 ≤ 9223372036854775807 then (bellowsref12_Print.l0 kj11 ((((x3_11 ++ (((((⟨#[98, 117, 105, 108, 100]⟩ : ByteArray) ++ t234) ++ (⟨#[58, 32, 114]⟩ : ByteArray)) ++ t235) ++ t236)) ++ ((⟨#[32, 124]⟩ : ByteArray) ++ t237)) ++ ((⟨#[32, 124, 124]⟩ : ByteArray) ++ t238)) ++ (⟨#[10]⟩ : ByteArray)) (wrap64 (x4_1 + 1)) l0_0 l0_1) else (none)) else (none)) else (none))) else (if ((x3_11 ++ (((((⟨#[98, 117, 105, 108, 100]⟩ : ByteArray) ++ t234) ++ (⟨#[58, 32, 114]⟩ : ByteArray)) ++ t235) ++ t236)) ++ ((⟨#[32, 124]⟩ : ByteArray) ++ t237)).size + 1 ≤ 9223372036854775807 then (bellowsref12_Print.l0 kj11 (((x3_11 ++ (((((⟨#[98, 117, 105, 108, 100]⟩ : ByteArray) ++ t234) ++ (⟨#[58, 32, 114]⟩ : ByteArray)) ++ t235) ++ t236)) ++ ((⟨#[32, 124]⟩ : ByteArray) ++ t237)) ++ (⟨#[10]⟩ : ByteArray)) (wrap64 (x4_1 + 1)) l0_0 l0_1) else (none))) else (none)) else (none))) else (if (((rd_T38 l0_0 x4_1).f3).length : Int) > 0 then ((bellowsref12_row.f kj11 ((rd_T38 l0_0 x4_1).f3)).bind fun t239 => (if 3 + t239.size ≤ 9223372036854775807 then (if (x3_11 ++ (((((⟨#[98, 117, 105, 108, 100]⟩ : ByteArray) ++ t234) ++ (⟨#[58, 32, 114]⟩ : ByteArray)) ++ t235) ++ t236)).size + ((⟨#[32, 124, 124]⟩ : ByteArray) ++ t239).size ≤ 9223372036854775807 then (if ((x3_11 ++ (((((⟨#[98, 117, 105, 108, 100]⟩ : ByteArray) ++ t234) ++ (⟨#[58, 32, 114]⟩ : ByteArray)) ++ t235) ++ t236)) ++ ((⟨#[32, 124, 124]⟩ : ByteArray) ++ t239)).size + 1 ≤ 9223372036854775807 then (bellowsref12_Print.l0 kj11 (((x3_11 ++ (((((⟨#[98, 117, 105, 108, 100]⟩ : ByteArray) ++ t234) ++ (⟨#[58, 32, 114]⟩ : ByteArray)) ++ t235) ++ t236)) ++ ((⟨#[32, 124, 124]⟩ : ByteArray) ++ t239)) ++ (⟨#[10]⟩ : ByteArray)) (wrap64 (x4_1 + 1)) l0_0 l0_1) else (none)) else (none)) else (none))) else (if (x3_11 ++ (((((⟨#[98, 117, 105, 108, 100]⟩ : ByteArray) ++ t234) ++ (⟨#[58, 32, 114]⟩ : ByteArray)) ++ t235) ++ t236)).size + 1 ≤ 9223372036854775807 then (bellowsref12_Print.l0 kj11 ((x3_11 ++ (((((⟨#[98, 117, 105, 108, 100]⟩ : ByteArray) ++ t234) ++ (⟨#[58, 32, 114]⟩ : ByteArray)) ++ t235) ++ t236)) ++ (⟨#[10]⟩ : ByteArray)) (wrap64 (x4_1 + 1)) l0_0 l0_1) else (none)))) else (none)) else (none)) = some r := H
                              have A33 := Aside0.mk A330
                              clear A330
                              by_cases c34 : ((((⟨#[98, 117, 105, 108, 100]⟩ : ByteArray) ++ t234) ++ (⟨#[58, 32, 114]⟩ : ByteArray)) ++ t235).size + t236.size ≤ 9223372036854775807
                              · rw [if_pos c34] at H
                                have c34b0 := eq_true c34
                                have c34b1 : decide (((((⟨#[98, 117, 105, 108, 100]⟩ : ByteArray) ++ t234) ++ (⟨#[58, 32, 114]⟩ : ByteArray)) ++ t235).size + t236.size ≤ 9223372036854775807) = true := decide_eq_true c34
                                try have c34b2 : (9223372036854775807 < ((((⟨#[98, 117, 105, 108, 100]⟩ : ByteArray) ++ t234) ++ (⟨#[58, 32, 114]⟩ : ByteArray)) ++ t235).size + t236.size) = False := eq_false (Nat.not_lt.2 c34)
                                have c34x : 5 + t234.size + 3 + t235.size + t236.size ≤ 9223372036854775807 := by have hh_ := c34; (try simp only [ByteArray.size_append] at hh_); exact hh_
                                try have c34x0 : (9223372036854775807 < 5 + t234.size + 3 + t235.size + t236.size) = False := eq_false (by omega)
                                by_cases c35 : x3_11.size + (((((⟨#[98, 117, 105, 108, 100]⟩ : ByteArray) ++ t234) ++ (⟨#[58, 32, 114]⟩ : ByteArray)) ++ t235) ++ t236).size ≤ 9223372036854775807
                                · rw [if_pos c35] at H
                                  have c35b0 := eq_true c35
                                  have c35b1 : decide (x3_11.size + (((((⟨#[98, 117, 105, 108, 100]⟩ : ByteArray) ++ t234) ++ (⟨#[58, 32, 114]⟩ : ByteArray)) ++ t235) ++ t236).size ≤ 9223372036854775807) = true := decide_eq_true c35
                                  try have c35b2 : (9223372036854775807 < x3_11.size + (((((⟨#[98, 117, 105, 108, 100]⟩ : ByteArray) ++ t234) ++ (⟨#[58, 32, 114]⟩ : ByteArray)) ++ t235) ++ t236).size) = False := eq_false (Nat.not_lt.2 c35)
                                  have c35x : x3_11.size + (5 + t234.size + 3 + t235.size + t236.size) ≤ 9223372036854775807 := by have hh_ := c35; (try simp only [ByteArray.size_append] at hh_); exact hh_
                                  try have c35x0 : (9223372036854775807 < x3_11.size + (5 + t234.size + 3 + t235.size + t236.size)) = False := eq_false (by omega)
                                  by_cases c36 : (((rd_T38 l0_0 x4_1).f2).length : Int) > 0
                                  · rw [if_pos c36] at H
                                    have c36b0 : decide (0 < (((rd_T38 l0_0 x4_1).f2).length : Int)) = true := decide_eq_true c36
                                    have c36b1 : decide (0 < ((rd_T38 l0_0 x4_1).f2).length) = true := decide_eq_true (by omega)
                                    clear c36
                                    replace H := Option.bind_eq_some_iff.mp H
                                    obtain ⟨t237, A370, H⟩ := H
                                    replace H : (if 2 + t237.size ≤ 9223372036854775807 then (if (x3_11 ++ (((((⟨#[98, 117, 105, 108, 100]⟩ : ByteArray) ++ t234) ++ (⟨#[58, 32, 114]⟩ : ByteArray)) ++ t235) ++ t236)).size + ((⟨#[32, 124]⟩ : ByteArray) ++ t237).size ≤ 9223372036854775807 then (if (((rd_T38 l0_0 x4_1).f3).length : Int) > 0 then ((bellowsref12_row.f kj11 ((rd_T38 l0_0 x4_1).f3)).bind fun t238 => (if 3 + t238.size ≤ 9223372036854775807 then (if ((x3_11 ++ (((((⟨#[98, 117, 105, 108, 100]⟩ : ByteArray) ++ t234) ++ (⟨#[58, 32, 114]⟩ : ByteArray)) ++ t235) ++ t236)) ++ ((⟨#[32, 124]⟩ : ByteArray) ++ t237)).size + ((⟨#[32, 124, 124]⟩ : ByteArray) ++ t238).size ≤ 9223372036854775807 then (if (((x3_11 ++ (((((⟨#[98, 117, 105, 108, 100]⟩ : ByteArray) ++ t234) ++ (⟨#[58, 32, 114]⟩ : ByteArray)) ++ t235) ++ t236)) ++ ((⟨#[32, 124]⟩ : ByteArray) ++ t237)) ++ ((⟨#[32, 124, 124]⟩ : ByteArray) ++ t238)).size + 1 ≤ 9223372036854775807 then (bellowsref12_Print.l0 kj11 ((((x3_11 ++ (((((⟨#[98, 117, 105, 108, 100]⟩ : ByteArray) ++ t234) ++ (⟨#[58, 32, 114]⟩ : ByteArray)) ++ t235) ++ t236)) ++ ((⟨#[32, 124]⟩ : ByteArray) ++ t237)) ++ ((⟨#[32, 124, 124]⟩ : ByteArray) ++ t238)) ++ (⟨#[10]⟩ : ByteArray)) (wrap64 (x4_1 + 1)) l0_0 l0_1) else (none)) else (none)) else (none))) else (if ((x3_11 ++ (((((⟨#[98, 117, 105, 108, 100]⟩ : ByteArray) ++ t234) ++ (⟨#[58, 32, 114]⟩ : ByteArray)) ++ t235) ++ t236)) ++ ((⟨#[32, 124]⟩ : ByteArray) ++ t237)).size + 1 ≤ 9223372036854775807 then (bellowsref12_Print.l0 kj11 (((x3_11 ++ (((((⟨#[98, 117, 105, 108, 100]⟩ : ByteArray) ++ t234) ++ (⟨#[58, 32, 114]⟩ : ByteArray)) ++ t235) ++ t236)) ++ ((⟨#[32, 124]⟩ : ByteArray) ++ t237)) ++ (⟨#[10]⟩ : ByteArray)) (wrap64 (x4_1 + 1)) l0_0 l0_1) else (none))) else (none)) else (none)) = some r := H
                                    have A37 := Aside0.mk A370
                                    clear A370
                                    by_cases c38 : 2 + t237.size ≤ 9223372036854775807
                                    · rw [if_pos c38] at H
                                      have c38b0 := eq_true c38
                                      have c38b1 : decide (2 + t237.size ≤ 9223372036854775807) = true := decide_eq_true c38
                                      try have c38b2 : (9223372036854775807 < 2 + t237.size) = False := eq_false (Nat.not_lt.2 c38)
                                      have c38x : 2 + t237.size ≤ 9223372036854775807 := by have hh_ := c38; (try simp only [ByteArray.size_append] at hh_); exact hh_
                                      try have c38x0 : (9223372036854775807 < 2 + t237.size) = False := eq_false (by omega)
                                      by_cases c39 : (x3_11 ++ (((((⟨#[98, 117, 105, 108, 100]⟩ : ByteArray) ++ t234) ++ (⟨#[58, 32, 114]⟩ : ByteArray)) ++ t235) ++ t236)).size + ((⟨#[32, 124]⟩ : ByteArray) ++ t237).size ≤ 9223372036854775807
                                      · rw [if_pos c39] at H
                                        have c39b0 := eq_true c39
                                        have c39b1 : decide ((x3_11 ++ (((((⟨#[98, 117, 105, 108, 100]⟩ : ByteArray) ++ t234) ++ (⟨#[58, 32, 114]⟩ : ByteArray)) ++ t235) ++ t236)).size + ((⟨#[32, 124]⟩ : ByteArray) ++ t237).size ≤ 9223372036854775807) = true := decide_eq_true c39
                                        try have c39b2 : (9223372036854775807 < (x3_11 ++ (((((⟨#[98, 117, 105, 108, 100]⟩ : ByteArray) ++ t234) ++ (⟨#[58, 32, 114]⟩ : ByteArray)) ++ t235) ++ t236)).size + ((⟨#[32, 124]⟩ : ByteArray) ++ t237).size) = False := eq_false (Nat.not_lt.2 c39)
                                        have c39x : x3_11.size + (5 + t234.size + 3 + t235.size + t236.size) + (2 + t237.size) ≤ 9223372036854775807 := by have hh_ := c39; (try simp only [ByteArray.size_append] at hh_); exact hh_
                                        try have c39x0 : (9223372036854775807 < x3_11.size + (5 + t234.size + 3 + t235.size + t236.size) + (2 + t237.size)) = False := eq_false (by omega)
                                        by_cases c40 : (((rd_T38 l0_0 x4_1).f3).length : Int) > 0
                                        · rw [if_pos c40] at H
                                          have c40b0 : decide (0 < (((rd_T38 l0_0 x4_1).f3).length : Int)) = true := decide_eq_true c40
                                          have c40b1 : decide (0 < ((rd_T38 l0_0 x4_1).f3).length) = true := decide_eq_true (by omega)
                                          clear c40
                                          replace H := Option.bind_eq_some_iff.mp H
                                          obtain ⟨t238, A410, H⟩ := H
                                          replace H : (if 3 + t238.size ≤ 9223372036854775807 then (if ((x3_11 ++ (((((⟨#[98, 117, 105, 108, 100]⟩ : ByteArray) ++ t234) ++ (⟨#[58, 32, 114]⟩ : ByteArray)) ++ t235) ++ t236)) ++ ((⟨#[32, 124]⟩ : ByteArray) ++ t237)).size + ((⟨#[32, 124, 124]⟩ : ByteArray) ++ t238).size ≤ 9223372036854775807 then (if (((x3_11 ++ (((((⟨#[98, 117, 105, 108, 100]⟩ : ByteArray) ++ t234) ++ (⟨#[58, 32, 114]⟩ : ByteArray)) ++ t235) ++ t236)) ++ ((⟨#[32, 124]⟩ : ByteArray) ++ t237)) ++ ((⟨#[32, 124, 124]⟩ : ByteArray) ++ t238)).size + 1 ≤ 9223372036854775807 then (bellowsref12_Print.l0 kj11 ((((x3_11 ++ (((((⟨#[98, 117, 105, 108, 100]⟩ : ByteArray) ++ t234) ++ (⟨#[58, 32, 114]⟩ : ByteArray)) ++ t235) ++ t236)) ++ ((⟨#[32, 124]⟩ : ByteArray) ++ t237)) ++ ((⟨#[32, 124, 124]⟩ : ByteArray) ++ t238)) ++ (⟨#[10]⟩ : ByteArray)) (wrap64 (x4_1 + 1)) l0_0 l0_1) else (none)) else (none)) else (none)) = some r := H
                                          have A41 := Aside0.mk A410
                                          clear A410
                                          by_cases c42 : 3 + t238.size ≤ 9223372036854775807
                                          · rw [if_pos c42] at H
                                            have c42b0 := eq_true c42
                                            have c42b1 : decide (3 + t238.size ≤ 9223372036854775807) = true := decide_eq_true c42
                                            try have c42b2 : (9223372036854775807 < 3 + t238.size) = False := eq_false (Nat.not_lt.2 c42)
                                            have c42x : 3 + t238.size ≤ 9223372036854775807 := by have hh_ := c42; (try simp only [ByteArray.size_append] at hh_); exact hh_
                                            try have c42x0 : (9223372036854775807 < 3 + t238.size) = False := eq_false (by omega)
                                            by_cases c43 : ((x3_11 ++ (((((⟨#[98, 117, 105, 108, 100]⟩ : ByteArray) ++ t234) ++ (⟨#[58, 32, 114]⟩ : ByteArray)) ++ t235) ++ t236)) ++ ((⟨#[32, 124]⟩ : ByteArray) ++ t237)).size + ((⟨#[32, 124, 124]⟩ : ByteArray) ++ t238).size ≤ 9223372036854775807
                                            · rw [if_pos c43] at H
                                              have c43b0 := eq_true c43
                                              have c43b1 : decide (((x3_11 ++ (((((⟨#[98, 117, 105, 108, 100]⟩ : ByteArray) ++ t234) ++ (⟨#[58, 32, 114]⟩ : ByteArray)) ++ t235) ++ t236)) ++ ((⟨#[32, 124]⟩ : ByteArray) ++ t237)).size + ((⟨#[32, 124, 124]⟩ : ByteArray) ++ t238).size ≤ 9223372036854775807) = true := decide_eq_true c43
                                              try have c43b2 : (9223372036854775807 < ((x3_11 ++ (((((⟨#[98, 117, 105, 108, 100]⟩ : ByteArray) ++ t234) ++ (⟨#[58, 32, 114]⟩ : ByteArray)) ++ t235) ++ t236)) ++ ((⟨#[32, 124]⟩ : ByteArray) ++ t237)).size + ((⟨#[32, 124, 124]⟩ : ByteArray) ++ t238).size) = False := eq_false (Nat.not_lt.2 c43)
                                              have c43x : x3_11.size + (5 + t234.size + 3 + t235.size + t236.size) + (2 + t237.size) + (3 + t238.size) ≤ 9223372036854775807 := by have hh_ := c43; (try simp only [ByteArray.size_append] at hh_); exact hh_
                                              try have c43x0 : (9223372036854775807 < x3_11.size + (5 + t234.size + 3 + t235.size + t236.size) + (2 + t237.size) + (3 + t238.size)) = False := eq_false (by omega)
                                              by_cases c44 : (((x3_11 ++ (((((⟨#[98, 117, 105, 108, 100]⟩ : ByteArray) ++ t234) ++ (⟨#[58, 32, 114]⟩ : ByteArray)) ++ t235) ++ t236)) ++ ((⟨#[32, 124]⟩ : ByteArray) ++ t237)) ++ ((⟨#[32, 124, 124]⟩ : ByteArray) ++ t238)).size + 1 ≤ 9223372036854775807
                                              · rw [if_pos c44] at H
                                                have c44b0 := eq_true c44
                                                have c44b1 : decide ((((x3_11 ++ (((((⟨#[98, 117, 105, 108, 100]⟩ : ByteArray) ++ t234) ++ (⟨#[58, 32, 114]⟩ : ByteArray)) ++ t235) ++ t236)) ++ ((⟨#[32, 124]⟩ : ByteArray) ++ t237)) ++ ((⟨#[32, 124, 124]⟩ : ByteArray) ++ t238)).size + 1 ≤ 9223372036854775807) = true := decide_eq_true c44
                                                try have c44b2 : (9223372036854775807 < (((x3_11 ++ (((((⟨#[98, 117, 105, 108, 100]⟩ : ByteArray) ++ t234) ++ (⟨#[58, 32, 114]⟩ : ByteArray)) ++ t235) ++ t236)) ++ ((⟨#[32, 124]⟩ : ByteArray) ++ t237)) ++ ((⟨#[32, 124, 124]⟩ : ByteArray) ++ t238)).size + 1) = False := eq_false (Nat.not_lt.2 c44)
                                                try have c44b7 : (9223372036854775806 < (((x3_11 ++ (((((⟨#[98, 117, 105, 108, 100]⟩ : ByteArray) ++ t234) ++ (⟨#[58, 32, 114]⟩ : ByteArray)) ++ t235) ++ t236)) ++ ((⟨#[32, 124]⟩ : ByteArray) ++ t237)) ++ ((⟨#[32, 124, 124]⟩ : ByteArray) ++ t238)).size) = False := eq_false (by omega)
                                                have c44x : x3_11.size + (5 + t234.size + 3 + t235.size + t236.size) + (2 + t237.size) + (3 + t238.size) + 1 ≤ 9223372036854775807 := by have hh_ := c44; (try simp only [ByteArray.size_append] at hh_); exact hh_
                                                try have c44x0 : (9223372036854775807 < x3_11.size + (5 + t234.size + 3 + t235.size + t236.size) + (2 + t237.size) + (3 + t238.size) + 1) = False := eq_false (by omega)
                                                try have c44x1 : (9223372036854775806 < x3_11.size + (5 + t234.size + 3 + t235.size + t236.size) + (2 + t237.size) + (3 + t238.size)) = False := eq_false (by omega)
                                                have H' := Aside0.mk H
                                                clear H
                                                try go_wp2
                                                have n0_ := Aside0.mk (blk_drew BK227.out)
                                                have n1_ := Aside0.mk (blk_drew BK230.out)
                                                have n2_ := Aside0.mk (below_drew1 HB.out)
                                                clear BK227
                                                clear BK230
                                                clear HB
                                                have BK227 := n0_
                                                have BK230 := n1_
                                                have HB := n2_
                                                clear n0_ n1_ n2_
                                                refine start_ (n := 15) (S := fun w' => w'.cell? ⟨gb230, 0, none⟩ = some (.slice A229_0 ((rd_T38 l0_0 x4_1).f0).length c229_0) ∧ w'.cell? ⟨gb230, 1, none⟩ = some (.slice A229_1 ((rd_T38 l0_0 x4_1).f1).length c229_1) ∧ w'.cell? ⟨gb230, 2, none⟩ = some (.slice A229_2 ((rd_T38 l0_0 x4_1).f2).length c229_2) ∧ w'.cell? ⟨gb230, 3, none⟩ = some (.slice A229_3 ((rd_T38 l0_0 x4_1).f3).length c229_3) ∧ w'.cell? ⟨gb230, 4, none⟩ = some (.string ((rd_T38 l0_0 x4_1).f4)) ∧ w'.cell? ⟨gb230, 5, none⟩ = some (.string ((rd_T38 l0_0 x4_1).f5))) (ds := []) #[false, false, false, false, false, false, false, false, false, false, false, false, false, false, false] (by kernel_rfl) rfl rfl ⟨(blk_cell BK230.out 0).trans rfl, (blk_cell BK230.out 1).trans rfl, (blk_cell BK230.out 2).trans rfl, (blk_cell BK230.out 3).trans rfl, (blk_cell BK230.out 4).trans rfl, (blk_cell BK230.out 5).trans rfl⟩ (fun hHeld => ?_); refine with_tabW bellowsref12_Print.tab9 bellowsref12_Print.bits9 (fun HT_ HW_ => ?_)
                                                generalize wc.drew = w45 at BK227 BK230 HB hHeld ⊢
                                                refine pure_ (i := 0) (N := some 39) (v := ?_) (a' := ?_) #[true, false, false, false, false, false, false, false, false, false, false, false, false, false, false] rfl rfl (any_of HT_.out (by kernel_rfl)) (fun _ _ _ h => h) (Or.inl ⟨by rfl, ?_⟩) ?_ ?_
                                                rotate_left
                                                · intro w'
                                                  go_simp
                                                  with_reducible rfl
                                                rotate_left
                                                · simp only [Act.put, List.setIfInBounds_toArray, List.set_cons_zero, List.set_cons_succ, i64_w, i32_w]
                                                  rfl
                                                refine pure_ (i := 1) (N := some 40) (v := ?_) (a' := ?_) #[true, true, false, false, false, false, false, false, false, false, false, false, false, false, false] rfl rfl (any_of HT_.out (by kernel_rfl)) (fun _ _ _ h => h) (Or.inl ⟨by rfl, ?_⟩) ?_ ?_
                                                rotate_left
                                                · intro w'
                                                  go_simp
                                                  with_reducible rfl
                                                rotate_left
                                                · simp only [Act.put, List.setIfInBounds_toArray, List.set_cons_zero, List.set_cons_succ, i64_w, i32_w]
                                                  rfl
                                                refine pure_ (i := 6) (N := some 45) (v := ?_) (a' := ?_) #[true, true, false, false, false, false, true, false, false, false, false, false, false, false, false] rfl rfl (any_of HT_.out (by kernel_rfl)) (fun _ _ _ h => h) (Or.inl ⟨by rfl, ?_⟩) ?_ ?_
                                                rotate_left
                                                · intro w'
                                                  go_simp
                                                  with_reducible rfl
                                                rotate_left
                                                · simp only [Act.put, List.setIfInBounds_toArray, List.set_cons_zero, List.set_cons_succ, i64_w, i32_w]
                                                  rfl
                                                refine pure_ (i := 9) (N := some 48) (v := ?_) (a' := ?_) #[true, true, false, false, false, false, true, false, false, true, false, false, false, false, false] rfl rfl (any_of HT_.out (by kernel_rfl)) (fun _ _ _ h => h) (Or.inl ⟨by rfl, ?_⟩) ?_ ?_
                                                rotate_left
                                                · intro w'
                                                  go_simp
                                                  with_reducible rfl
                                                rotate_left
                                                · simp only [Act.put, List.setIfInBounds_toArray, List.set_cons_zero, List.set_cons_succ, i64_w, i32_w]
                                                  rfl
                                                refine take_ (i := 2) (N := some 41) (v := ?_) (a' := ?_) #[true, true, true, false, false, false, true, false, false, true, false, false, false, false, false] rfl rfl (take_ofW HT_.out HW_.out (by kernel_rfl)) (fun _ _ _ h => h) (Or.inl ⟨by rfl, ?_⟩) hHeld ?_ ?_
                                                rotate_left
                                                · rintro w' ⟨s0, s1, s2, s3, s4, s5⟩
                                                  go_simp
                                                  with_reducible rfl
                                                rotate_left
                                                · simp only [Act.put, List.setIfInBounds_toArray, List.set_cons_zero, List.set_cons_succ, i64_w, i32_w]
                                                  rfl
                                                refine take_ (i := 10) (N := some 49) (v := ?_) (a' := ?_) #[true, true, true, false, false, false, true, false, false, true, true, false, false, false, false] rfl rfl (take_ofW HT_.out HW_.out (by kernel_rfl)) (fun _ _ _ h => h) (Or.inl ⟨by rfl, ?_⟩) hHeld ?_ ?_
                                                rotate_left
                                                · rintro w' ⟨s0, s1, s2, s3, s4, s5⟩
                                                  go_simp
                                                  with_reducible rfl
                                                rotate_left
                                                · simp only [Act.put, List.setIfInBounds_toArray, List.set_cons_zero, List.set_cons_succ, i64_w, i32_w]
                                                  rfl
                                                refine one_ (i := 3) (N := some 42) #[true, true, true, true, false, false, true, false, false, true, true, false, false, false, false] rfl rfl (one_of HT_.out (by kernel_rfl)) (by decide) (fun K hK => ?_)
                                                refine goes_ Tryz.func24 (by kernel_rfl) rfl #[.slice A229_0 ((rd_T38 l0_0 x4_1).f0).length c229_0] (by rfl) rfl rfl (by (try simp only [List.map_toArray, List.map_cons, List.map_nil]); first | done | rfl | (simp only [List.length_drop, List.length_take]; rfl)) ?_
                                                with_reducible refine (bellowsref12_row.calls kj11 _ _ ((rd_T38 l0_0 x4_1).f0) t234 _ ?side1 ?side2 A28.out).mono ?_
                                                (case side1 => repeat (first | exact (Kd.C_below HR229_0.out HB.out) | (with_reducible refine Kd.C_alloc ?_ _) | (with_reducible refine Kd.C_drewN ?_ _) | (with_reducible refine Kd.C_drew ?_)))
                                                (case side2 => exact HC229_0.out)
                                                rintro e w' ⟨rfl, ⟨nd, rfl⟩⟩
                                                refine ⟨_, rfl, ?_⟩
                                                refine hK.out _ _ ⟨(blk_cell BK230.out 0).trans rfl, (blk_cell BK230.out 1).trans rfl, (blk_cell BK230.out 2).trans rfl, (blk_cell BK230.out 3).trans rfl, (blk_cell BK230.out 4).trans rfl, (blk_cell BK230.out 5).trans rfl⟩ (fun hHeld => ?_)
                                                clear hK K
                                                refine norm_ (a' := ?_) ?_ ?_
                                                rotate_left
                                                · show Act.put _ (some 42) _ = _
                                                  simp only [Act.put, List.setIfInBounds_toArray, List.set_cons_zero, List.set_cons_succ, i64_w, i32_w]
                                                  rfl
                                                refine pure_ (i := 4) (N := some 43) (v := ?_) (a' := ?_) #[true, true, true, true, true, false, true, false, false, true, true, false, false, false, false] rfl rfl (any_of HT_.out (by kernel_rfl)) (fun _ _ _ h => h) (Or.inl ⟨by rfl, ?_⟩) ?_ ?_
                                                rotate_left
                                                · intro w'
                                                  go_simp
                                                  with_reducible rfl
                                                rotate_left
                                                · simp only [Act.put, List.setIfInBounds_toArray, List.set_cons_zero, List.set_cons_succ, i64_w, i32_w]
                                                  rfl
                                                refine pure_ (i := 5) (N := some 44) (v := ?_) (a' := ?_) #[true, true, true, true, true, true, true, false, false, true, true, false, false, false, false] rfl rfl (any_of HT_.out (by kernel_rfl)) (fun _ _ _ h => h) (Or.inl ⟨by rfl, ?_⟩) ?_ ?_
                                                rotate_left
                                                · intro w'
                                                  go_simp
                                                  with_reducible rfl
                                                rotate_left
                                                · simp only [Act.put, List.setIfInBounds_toArray, List.set_cons_zero, List.set_cons_succ, i64_w, i32_w]
                                                  rfl
                                                refine one_ (i := 7) (N := some 46) #[true, true, true, true, true, true, true, true, false, true, true, false, false, false, false] rfl rfl (one_of HT_.out (by kernel_rfl)) (by decide) (fun K hK => ?_)
                                                refine goes_ Tryz.func22 (by kernel_rfl) rfl #[.int .i64 x4_1] (by rfl) rfl rfl (by (try simp only [List.map_toArray, List.map_cons, List.map_nil]); first | done | rfl | (simp only [List.length_drop, List.length_take]; rfl)) ?_
                                                with_reducible refine (bellowsref12_Digits.calls kj11 x4_1 t235 _ A31.out).mono ?_
                                                rintro e w46 ⟨rfl, hb⟩
                                                refine ⟨_, rfl, ?_⟩
                                                have n0_ := Aside0.mk (blk_below (g := gb227) (o := .cells #[.slice (some ad229) l0_0.length c0_0, .slice A0_1 l0_1.length c0_1] 25 (0, 0)) (by (with_reducible repeat (first | refine blk_drewN ?_ _ | refine blk_drew ?_ | refine blk_alloc ?_ _)); exact BK227.out) hb)
                                                have n1_ := Aside0.mk (blk_below (g := gb230) (o := .cells #[.slice A229_0 ((rd_T38 l0_0 x4_1).f0).length c229_0, .slice A229_1 ((rd_T38 l0_0 x4_1).f1).length c229_1, .slice A229_2 ((rd_T38 l0_0 x4_1).f2).length c229_2, .slice A229_3 ((rd_T38 l0_0 x4_1).f3).length c229_3, .string ((rd_T38 l0_0 x4_1).f4), .string ((rd_T38 l0_0 x4_1).f5)] 38 (0, 0)) (by (with_reducible repeat (first | refine blk_drewN ?_ _ | refine blk_drew ?_ | refine blk_alloc ?_ _)); exact BK230.out) hb)
                                                have n2_ := Aside0.mk (below_step (by repeat (first | (with_reducible first | exact HB.out | apply below_alloc | apply pw_below_drewN | apply below_drew1 | refine below_set ?_ GE227.out | refine below_set ?_ GE230.out) | exact HB.out)) hb)
                                                clear BK227
                                                clear BK230
                                                clear HB
                                                have BK227 := n0_
                                                have BK230 := n1_
                                                have HB := n2_
                                                clear n0_ n1_ n2_
                                                (try clear hb)
                                                (try clear hb2)
                                                (try clear hk)
                                                (try clear hi)
                                                refine hK.out _ _ ⟨(blk_cell BK230.out 0).trans rfl, (blk_cell BK230.out 1).trans rfl, (blk_cell BK230.out 2).trans rfl, (blk_cell BK230.out 3).trans rfl, (blk_cell BK230.out 4).trans rfl, (blk_cell BK230.out 5).trans rfl⟩ (fun hHeld => ?_)
                                                clear hK K
                                                refine norm_ (a' := ?_) ?_ ?_
                                                rotate_left
                                                · show Act.put _ (some 46) _ = _
                                                  simp only [Act.put, List.setIfInBounds_toArray, List.set_cons_zero, List.set_cons_succ, i64_w, i32_w]
                                                  rfl
                                                refine pure_ (i := 8) (N := some 47) (v := ?_) (a' := ?_) #[true, true, true, true, true, true, true, true, true, true, true, false, false, false, false] rfl rfl (any_of HT_.out (by kernel_rfl)) (fun _ _ _ h => h) (Or.inl ⟨by rfl, ?_⟩) ?_ ?_
                                                rotate_left
                                                · intro w'
                                                  go_simp
                                                  with_reducible rfl
                                                rotate_left
                                                · simp only [Act.put, List.setIfInBounds_toArray, List.set_cons_zero, List.set_cons_succ, i64_w, i32_w]
                                                  rfl
                                                refine one_ (i := 11) (N := some 50) #[true, true, true, true, true, true, true, true, true, true, true, true, false, false, false] rfl rfl (one_of HT_.out (by kernel_rfl)) (by decide) (fun K hK => ?_)
                                                refine goes_ Tryz.func24 (by kernel_rfl) rfl #[.slice A229_1 ((rd_T38 l0_0 x4_1).f1).length c229_1] (by rfl) rfl rfl (by (try simp only [List.map_toArray, List.map_cons, List.map_nil]); first | done | rfl | (simp only [List.length_drop, List.length_take]; rfl)) ?_
                                                with_reducible refine (bellowsref12_row.calls kj11 _ _ ((rd_T38 l0_0 x4_1).f1) t236 _ ?side1 ?side2 A33.out).mono ?_
                                                (case side1 => repeat (first | exact (Kd.C_below HR229_1.out HB.out) | (with_reducible refine Kd.C_alloc ?_ _) | (with_reducible refine Kd.C_drewN ?_ _) | (with_reducible refine Kd.C_drew ?_)))
                                                (case side2 => exact HC229_1.out)
                                                rintro e w' ⟨rfl, ⟨nd, rfl⟩⟩
                                                refine ⟨_, rfl, ?_⟩
                                                refine hK.out _ _ ⟨(blk_cell BK230.out 0).trans rfl, (blk_cell BK230.out 1).trans rfl, (blk_cell BK230.out 2).trans rfl, (blk_cell BK230.out 3).trans rfl, (blk_cell BK230.out 4).trans rfl, (blk_cell BK230.out 5).trans rfl⟩ (fun hHeld => ?_)
                                                clear hK K
                                                refine norm_ (a' := ?_) ?_ ?_
                                                rotate_left
                                                · show Act.put _ (some 50) _ = _
                                                  simp only [Act.put, List.setIfInBounds_toArray, List.set_cons_zero, List.set_cons_succ, i64_w, i32_w]
                                                  rfl
                                                refine pure_ (i := 12) (N := some 51) (v := ?_) (a' := ?_) #[true, true, true, true, true, true, true, true, true, true, true, true, true, false, false] rfl rfl (any_of HT_.out (by kernel_rfl)) (fun _ _ _ h => h) (Or.inl ⟨by rfl, ?_⟩) ?_ ?_
                                                rotate_left
                                                · intro w'
                                                  go_simp
                                                  with_reducible rfl
                                                rotate_left
                                                · simp only [Act.put, List.setIfInBounds_toArray, List.set_cons_zero, List.set_cons_succ, i64_w, i32_w]
                                                  rfl
                                                refine pure_ (i := 13) (N := some 52) (v := ?_) (a' := ?_) #[true, true, true, true, true, true, true, true, true, true, true, true, true, true, false] rfl rfl (any_of HT_.out (by kernel_rfl)) (fun _ _ _ h => h) (Or.inl ⟨by rfl, ?_⟩) ?_ ?_
                                                rotate_left
                                                · intro w'
                                                  go_simp
                                                  with_reducible rfl
                                                rotate_left
                                                · simp only [Act.put, List.setIfInBounds_toArray, List.set_cons_zero, List.set_cons_succ, i64_w, i32_w]
                                                  rfl
                                                refine pure_ (i := 14) (N := some 3) (v := ?_) (a' := ?_) #[true, true, true, true, true, true, true, true, true, true, true, true, true, true, true] rfl rfl (any_of HT_.out (by kernel_rfl)) (fun _ _ _ h => h) (Or.inl ⟨by rfl, ?_⟩) ?_ ?_
                                                rotate_left
                                                · intro w'
                                                  go_simp
                                                  with_reducible rfl
                                                rotate_left
                                                · simp only [Act.put, List.setIfInBounds_toArray, List.set_cons_zero, List.set_cons_succ, i64_w, i32_w]
                                                  rfl
                                                refine done_ (done_of HT_.out (by kernel_rfl)) ?_
                                                have hnb47 := NB230_227.out
                                                have hnc47 := NB227_230.out
                                                have hcz48_0 : w46.cell? ⟨gb230, 0, none⟩ = some (.slice A229_0 ((rd_T38 l0_0 x4_1).f0).length c229_0) := (blk_cell BK230.out 0).trans rfl
                                                have hcz48_1 : w46.cell? ⟨gb230, 1, none⟩ = some (.slice A229_1 ((rd_T38 l0_0 x4_1).f1).length c229_1) := (blk_cell BK230.out 1).trans rfl
                                                have hcz48_2 : w46.cell? ⟨gb230, 2, none⟩ = some (.slice A229_2 ((rd_T38 l0_0 x4_1).f2).length c229_2) := (blk_cell BK230.out 2).trans rfl
                                                have hcz48_3 : w46.cell? ⟨gb230, 3, none⟩ = some (.slice A229_3 ((rd_T38 l0_0 x4_1).f3).length c229_3) := (blk_cell BK230.out 3).trans rfl
                                                have hcz48_4 : w46.cell? ⟨gb230, 4, none⟩ = some (.string ((rd_T38 l0_0 x4_1).f4)) := (blk_cell BK230.out 4).trans rfl
                                                have hcz48_5 : w46.cell? ⟨gb230, 5, none⟩ = some (.string ((rd_T38 l0_0 x4_1).f5)) := (blk_cell BK230.out 5).trans rfl
                                                have hfz48_0 := blk_frozen BK230.out 0
                                                have hfz48_1 := blk_frozen BK230.out 1
                                                have hfz48_2 := blk_frozen BK230.out 2
                                                have hfz48_3 := blk_frozen BK230.out 3
                                                have hfz48_4 := blk_frozen BK230.out 4
                                                have hfz48_5 := blk_frozen BK230.out 5
                                                try go_wp2_with (first | ((with_reducible refine gate_callee (f := 24) rfl ?_); refine goesL_ (some 60) rfl rfl Tryz.func24 (by kernel_rfl) rfl #[.slice A229_2 ((rd_T38 l0_0 x4_1).f2).length c229_2] rfl (by (try simp only [List.map_toArray, List.map_cons, List.map_nil]); first | done | rfl | (simp only [List.length_drop, List.length_take]; rfl)) ?_; (with_reducible refine (bellowsref12_row.calls kj11 _ _ ((rd_T38 l0_0 x4_1).f2) t237 _ ?side1 ?side2 A37.out).mono ?_); (case side1 => repeat (first | exact (Kd.C_below HR229_2.out (by repeat (first | (with_reducible first | exact HB.out | apply below_alloc | apply pw_below_drewN | apply below_drew1 | refine below_set ?_ GE227.out | refine below_set ?_ GE230.out) | exact HB.out))) | (with_reducible refine Kd.C_alloc ?_ _) | (with_reducible refine Kd.C_drewN ?_ _) | (with_reducible refine Kd.C_drew ?_))); (case side2 => exact HC229_2.out); rintro e w' ⟨rfl, ⟨nd, rfl⟩⟩; refine ⟨_, rfl, ?_⟩) | ((with_reducible refine gate_callee (f := 24) rfl ?_); refine goesL_ (some 70) rfl rfl Tryz.func24 (by kernel_rfl) rfl #[.slice A229_3 ((rd_T38 l0_0 x4_1).f3).length c229_3] rfl (by (try simp only [List.map_toArray, List.map_cons, List.map_nil]); first | done | rfl | (simp only [List.length_drop, List.length_take]; rfl)) ?_; (with_reducible refine (bellowsref12_row.calls kj11 _ _ ((rd_T38 l0_0 x4_1).f3) t238 _ ?side1 ?side2 A41.out).mono ?_); (case side1 => repeat (first | exact (Kd.C_below HR229_3.out (by repeat (first | (with_reducible first | exact HB.out | apply below_alloc | apply pw_below_drewN | apply below_drew1 | refine below_set ?_ GE227.out | refine below_set ?_ GE230.out) | exact HB.out))) | (with_reducible refine Kd.C_alloc ?_ _) | (with_reducible refine Kd.C_drewN ?_ _) | (with_reducible refine Kd.C_drew ?_))); (case side2 => exact HC229_3.out); rintro e w' ⟨rfl, ⟨nd, rfl⟩⟩; refine ⟨_, rfl, ?_⟩))
                                                go_roundg kj11
                                                case measure => have := HK1.out; have := HJ11.out; omega
                                                case rel => exact ⟨((((x3_11 ++ (((((⟨#[98, 117, 105, 108, 100]⟩ : ByteArray) ++ t234) ++ (⟨#[58, 32, 114]⟩ : ByteArray)) ++ t235) ++ t236)) ++ ((⟨#[32, 124]⟩ : ByteArray) ++ t237)) ++ ((⟨#[32, 124, 124]⟩ : ByteArray) ++ t238)) ++ (⟨#[10]⟩ : ByteArray)), (wrap64 (x4_1 + 1)), (by first | rfl | (simp; done) | (simp [*]; done)), (by first | rfl | (simp; done) | (simp [*]; done)), H', ⟨by have := HK1.out; have := HJ11.out; omega⟩, ⟨by (with_reducible repeat (first | refine blk_drewN ?_ _ | refine blk_drew ?_ | refine blk_alloc ?_ _)); exact BK227.out⟩, ⟨by repeat (first | (with_reducible first | exact HB.out | apply below_alloc | apply pw_below_drewN | apply below_drew1 | refine below_set ?_ GE227.out | refine below_set ?_ GE230.out) | exact HB.out)⟩⟩
                                              · rw [if_neg c44] at H
                                                exact absurd H (by simp)
                                            · rw [if_neg c43] at H
                                              exact absurd H (by simp)
                                          · rw [if_neg c42] at H
                                            exact absurd H (by simp)
                                        · rw [if_neg c40] at H
                                          have c40b0 : decide (0 < (((rd_T38 l0_0 x4_1).f3).length : Int)) = false := decide_eq_false c40
                                          have c40b1 : decide (0 < ((rd_T38 l0_0 x4_1).f3).length) = false := decide_eq_false (by omega)
                                          clear c40
                                          by_cases c49 : ((x3_11 ++ (((((⟨#[98, 117, 105, 108, 100]⟩ : ByteArray) ++ t234) ++ (⟨#[58, 32, 114]⟩ : ByteArray)) ++ t235) ++ t236)) ++ ((⟨#[32, 124]⟩ : ByteArray) ++ t237)).size + 1 ≤ 9223372036854775807
                                          · rw [if_pos c49] at H
                                            have c49b0 := eq_true c49
                                            have c49b1 : decide (((x3_11 ++ (((((⟨#[98, 117, 105, 108, 100]⟩ : ByteArray) ++ t234) ++ (⟨#[58, 32, 114]⟩ : ByteArray)) ++ t235) ++ t236)) ++ ((⟨#[32, 124]⟩ : ByteArray) ++ t237)).size + 1 ≤ 9223372036854775807) = true := decide_eq_true c49
                                            try have c49b2 : (9223372036854775807 < ((x3_11 ++ (((((⟨#[98, 117, 105, 108, 100]⟩ : ByteArray) ++ t234) ++ (⟨#[58, 32, 114]⟩ : ByteArray)) ++ t235) ++ t236)) ++ ((⟨#[32, 124]⟩ : ByteArray) ++ t237)).size + 1) = False := eq_false (Nat.not_lt.2 c49)
                                            try have c49b7 : (9223372036854775806 < ((x3_11 ++ (((((⟨#[98, 117, 105, 108, 100]⟩ : ByteArray) ++ t234) ++ (⟨#[58, 32, 114]⟩ : ByteArray)) ++ t235) ++ t236)) ++ ((⟨#[32, 124]⟩ : ByteArray) ++ t237)).size) = False := eq_false (by omega)
                                            have c49x : x3_11.size + (5 + t234.size + 3 + t235.size + t236.size) + (2 + t237.size) + 1 ≤ 9223372036854775807 := by have hh_ := c49; (try simp only [ByteArray.size_append] at hh_); exact hh_
                                            try have c49x0 : (9223372036854775807 < x3_11.size + (5 + t234.size + 3 + t235.size + t236.size) + (2 + t237.size) + 1) = False := eq_false (by omega)
                                            try have c49x1 : (9223372036854775806 < x3_11.size + (5 + t234.size + 3 + t235.size + t236.size) + (2 + t237.size)) = False := eq_false (by omega)
                                            have H' := Aside0.mk H
                                            clear H
                                            try go_wp2
                                            have n0_ := Aside0.mk (blk_drew BK227.out)
                                            have n1_ := Aside0.mk (blk_drew BK230.out)
                                            have n2_ := Aside0.mk (below_drew1 HB.out)
                                            clear BK227
                                            clear BK230
                                            clear HB
                                            have BK227 := n0_
                                            have BK230 := n1_
                                            have HB := n2_
                                            clear n0_ n1_ n2_
                                            refine start_ (n := 15) (S := fun w' => w'.cell? ⟨gb230, 0, none⟩ = some (.slice A229_0 ((rd_T38 l0_0 x4_1).f0).length c229_0) ∧ w'.cell? ⟨gb230, 1, none⟩ = some (.slice A229_1 ((rd_T38 l0_0 x4_1).f1).length c229_1) ∧ w'.cell? ⟨gb230, 2, none⟩ = some (.slice A229_2 ((rd_T38 l0_0 x4_1).f2).length c229_2) ∧ w'.cell? ⟨gb230, 3, none⟩ = some (.slice A229_3 ((rd_T38 l0_0 x4_1).f3).length c229_3) ∧ w'.cell? ⟨gb230, 4, none⟩ = some (.string ((rd_T38 l0_0 x4_1).f4)) ∧ w'.cell? ⟨gb230, 5, none⟩ = some (.string ((rd_T38 l0_0 x4_1).f5))) (ds := []) #[false, false, false, false, false, false, false, false, false, false, false, false, false, false, false] (by kernel_rfl) rfl rfl ⟨(blk_cell BK230.out 0).trans rfl, (blk_cell BK230.out 1).trans rfl, (blk_cell BK230.out 2).trans rfl, (blk_cell BK230.out 3).trans rfl, (blk_cell BK230.out 4).trans rfl, (blk_cell BK230.out 5).trans rfl⟩ (fun hHeld => ?_); refine with_tabW bellowsref12_Print.tab9 bellowsref12_Print.bits9 (fun HT_ HW_ => ?_)
                                            generalize wc.drew = w50 at BK227 BK230 HB hHeld ⊢
                                            refine pure_ (i := 0) (N := some 39) (v := ?_) (a' := ?_) #[true, false, false, false, false, false, false, false, false, false, false, false, false, false, false] rfl rfl (any_of HT_.out (by kernel_rfl)) (fun _ _ _ h => h) (Or.inl ⟨by rfl, ?_⟩) ?_ ?_
                                            rotate_left
                                            · intro w'
                                              go_simp
                                              with_reducible rfl
                                            rotate_left
                                            · simp only [Act.put, List.setIfInBounds_toArray, List.set_cons_zero, List.set_cons_succ, i64_w, i32_w]
                                              rfl
                                            refine pure_ (i := 1) (N := some 40) (v := ?_) (a' := ?_) #[true, true, false, false, false, false, false, false, false, false, false, false, false, false, false] rfl rfl (any_of HT_.out (by kernel_rfl)) (fun _ _ _ h => h) (Or.inl ⟨by rfl, ?_⟩) ?_ ?_
                                            rotate_left
                                            · intro w'
                                              go_simp
                                              with_reducible rfl
                                            rotate_left
                                            · simp only [Act.put, List.setIfInBounds_toArray, List.set_cons_zero, List.set_cons_succ, i64_w, i32_w]
                                              rfl
                                            refine pure_ (i := 6) (N := some 45) (v := ?_) (a' := ?_) #[true, true, false, false, false, false, true, false, false, false, false, false, false, false, false] rfl rfl (any_of HT_.out (by kernel_rfl)) (fun _ _ _ h => h) (Or.inl ⟨by rfl, ?_⟩) ?_ ?_
                                            rotate_left
                                            · intro w'
                                              go_simp
                                              with_reducible rfl
                                            rotate_left
                                            · simp only [Act.put, List.setIfInBounds_toArray, List.set_cons_zero, List.set_cons_succ, i64_w, i32_w]
                                              rfl
                                            refine pure_ (i := 9) (N := some 48) (v := ?_) (a' := ?_) #[true, true, false, false, false, false, true, false, false, true, false, false, false, false, false] rfl rfl (any_of HT_.out (by kernel_rfl)) (fun _ _ _ h => h) (Or.inl ⟨by rfl, ?_⟩) ?_ ?_
                                            rotate_left
                                            · intro w'
                                              go_simp
                                              with_reducible rfl
                                            rotate_left
                                            · simp only [Act.put, List.setIfInBounds_toArray, List.set_cons_zero, List.set_cons_succ, i64_w, i32_w]
                                              rfl
                                            refine take_ (i := 2) (N := some 41) (v := ?_) (a' := ?_) #[true, true, true, false, false, false, true, false, false, true, false, false, false, false, false] rfl rfl (take_ofW HT_.out HW_.out (by kernel_rfl)) (fun _ _ _ h => h) (Or.inl ⟨by rfl, ?_⟩) hHeld ?_ ?_
                                            rotate_left
                                            · rintro w' ⟨s0, s1, s2, s3, s4, s5⟩
                                              go_simp
                                              with_reducible rfl
                                            rotate_left
                                            · simp only [Act.put, List.setIfInBounds_toArray, List.set_cons_zero, List.set_cons_succ, i64_w, i32_w]
                                              rfl
                                            refine take_ (i := 10) (N := some 49) (v := ?_) (a' := ?_) #[true, true, true, false, false, false, true, false, false, true, true, false, false, false, false] rfl rfl (take_ofW HT_.out HW_.out (by kernel_rfl)) (fun _ _ _ h => h) (Or.inl ⟨by rfl, ?_⟩) hHeld ?_ ?_
                                            rotate_left
                                            · rintro w' ⟨s0, s1, s2, s3, s4, s5⟩
                                              go_simp
                                              with_reducible rfl
                                            rotate_left
                                            · simp only [Act.put, List.setIfInBounds_toArray, List.set_cons_zero, List.set_cons_succ, i64_w, i32_w]
                                              rfl
                                            refine one_ (i := 3) (N := some 42) #[true, true, true, true, false, false, true, false, false, true, true, false, false, false, false] rfl rfl (one_of HT_.out (by kernel_rfl)) (by decide) (fun K hK => ?_)
                                            refine goes_ Tryz.func24 (by kernel_rfl) rfl #[.slice A229_0 ((rd_T38 l0_0 x4_1).f0).length c229_0] (by rfl) rfl rfl (by (try simp only [List.map_toArray, List.map_cons, List.map_nil]); first | done | rfl | (simp only [List.length_drop, List.length_take]; rfl)) ?_
                                            with_reducible refine (bellowsref12_row.calls kj11 _ _ ((rd_T38 l0_0 x4_1).f0) t234 _ ?side1 ?side2 A28.out).mono ?_
                                            (case side1 => repeat (first | exact (Kd.C_below HR229_0.out HB.out) | (with_reducible refine Kd.C_alloc ?_ _) | (with_reducible refine Kd.C_drewN ?_ _) | (with_reducible refine Kd.C_drew ?_)))
                                            (case side2 => exact HC229_0.out)
                                            rintro e w' ⟨rfl, ⟨nd, rfl⟩⟩
                                            refine ⟨_, rfl, ?_⟩
                                            refine hK.out _ _ ⟨(blk_cell BK230.out 0).trans rfl, (blk_cell BK230.out 1).trans rfl, (blk_cell BK230.out 2).trans rfl, (blk_cell BK230.out 3).trans rfl, (blk_cell BK230.out 4).trans rfl, (blk_cell BK230.out 5).trans rfl⟩ (fun hHeld => ?_)
                                            clear hK K
                                            refine norm_ (a' := ?_) ?_ ?_
                                            rotate_left
                                            · show Act.put _ (some 42) _ = _
                                              simp only [Act.put, List.setIfInBounds_toArray, List.set_cons_zero, List.set_cons_succ, i64_w, i32_w]
                                              rfl
                                            refine pure_ (i := 4) (N := some 43) (v := ?_) (a' := ?_) #[true, true, true, true, true, false, true, false, false, true, true, false, false, false, false] rfl rfl (any_of HT_.out (by kernel_rfl)) (fun _ _ _ h => h) (Or.inl ⟨by rfl, ?_⟩) ?_ ?_
                                            rotate_left
                                            · intro w'
                                              go_simp
                                              with_reducible rfl
                                            rotate_left
                                            · simp only [Act.put, List.setIfInBounds_toArray, List.set_cons_zero, List.set_cons_succ, i64_w, i32_w]
                                              rfl
                                            refine pure_ (i := 5) (N := some 44) (v := ?_) (a' := ?_) #[true, true, true, true, true, true, true, false, false, true, true, false, false, false, false] rfl rfl (any_of HT_.out (by kernel_rfl)) (fun _ _ _ h => h) (Or.inl ⟨by rfl, ?_⟩) ?_ ?_
                                            rotate_left
                                            · intro w'
                                              go_simp
                                              with_reducible rfl
                                            rotate_left
                                            · simp only [Act.put, List.setIfInBounds_toArray, List.set_cons_zero, List.set_cons_succ, i64_w, i32_w]
                                              rfl
                                            refine one_ (i := 7) (N := some 46) #[true, true, true, true, true, true, true, true, false, true, true, false, false, false, false] rfl rfl (one_of HT_.out (by kernel_rfl)) (by decide) (fun K hK => ?_)
                                            refine goes_ Tryz.func22 (by kernel_rfl) rfl #[.int .i64 x4_1] (by rfl) rfl rfl (by (try simp only [List.map_toArray, List.map_cons, List.map_nil]); first | done | rfl | (simp only [List.length_drop, List.length_take]; rfl)) ?_
                                            with_reducible refine (bellowsref12_Digits.calls kj11 x4_1 t235 _ A31.out).mono ?_
                                            rintro e w51 ⟨rfl, hb⟩
                                            refine ⟨_, rfl, ?_⟩
                                            have n0_ := Aside0.mk (blk_below (g := gb227) (o := .cells #[.slice (some ad229) l0_0.length c0_0, .slice A0_1 l0_1.length c0_1] 25 (0, 0)) (by (with_reducible repeat (first | refine blk_drewN ?_ _ | refine blk_drew ?_ | refine blk_alloc ?_ _)); exact BK227.out) hb)
                                            have n1_ := Aside0.mk (blk_below (g := gb230) (o := .cells #[.slice A229_0 ((rd_T38 l0_0 x4_1).f0).length c229_0, .slice A229_1 ((rd_T38 l0_0 x4_1).f1).length c229_1, .slice A229_2 ((rd_T38 l0_0 x4_1).f2).length c229_2, .slice A229_3 ((rd_T38 l0_0 x4_1).f3).length c229_3, .string ((rd_T38 l0_0 x4_1).f4), .string ((rd_T38 l0_0 x4_1).f5)] 38 (0, 0)) (by (with_reducible repeat (first | refine blk_drewN ?_ _ | refine blk_drew ?_ | refine blk_alloc ?_ _)); exact BK230.out) hb)
                                            have n2_ := Aside0.mk (below_step (by repeat (first | (with_reducible first | exact HB.out | apply below_alloc | apply pw_below_drewN | apply below_drew1 | refine below_set ?_ GE227.out | refine below_set ?_ GE230.out) | exact HB.out)) hb)
                                            clear BK227
                                            clear BK230
                                            clear HB
                                            have BK227 := n0_
                                            have BK230 := n1_
                                            have HB := n2_
                                            clear n0_ n1_ n2_
                                            (try clear hb)
                                            (try clear hb2)
                                            (try clear hk)
                                            (try clear hi)
                                            refine hK.out _ _ ⟨(blk_cell BK230.out 0).trans rfl, (blk_cell BK230.out 1).trans rfl, (blk_cell BK230.out 2).trans rfl, (blk_cell BK230.out 3).trans rfl, (blk_cell BK230.out 4).trans rfl, (blk_cell BK230.out 5).trans rfl⟩ (fun hHeld => ?_)
                                            clear hK K
                                            refine norm_ (a' := ?_) ?_ ?_
                                            rotate_left
                                            · show Act.put _ (some 46) _ = _
                                              simp only [Act.put, List.setIfInBounds_toArray, List.set_cons_zero, List.set_cons_succ, i64_w, i32_w]
                                              rfl
                                            refine pure_ (i := 8) (N := some 47) (v := ?_) (a' := ?_) #[true, true, true, true, true, true, true, true, true, true, true, false, false, false, false] rfl rfl (any_of HT_.out (by kernel_rfl)) (fun _ _ _ h => h) (Or.inl ⟨by rfl, ?_⟩) ?_ ?_
                                            rotate_left
                                            · intro w'
                                              go_simp
                                              with_reducible rfl
                                            rotate_left
                                            · simp only [Act.put, List.setIfInBounds_toArray, List.set_cons_zero, List.set_cons_succ, i64_w, i32_w]
                                              rfl
                                            refine one_ (i := 11) (N := some 50) #[true, true, true, true, true, true, true, true, true, true, true, true, false, false, false] rfl rfl (one_of HT_.out (by kernel_rfl)) (by decide) (fun K hK => ?_)
                                            refine goes_ Tryz.func24 (by kernel_rfl) rfl #[.slice A229_1 ((rd_T38 l0_0 x4_1).f1).length c229_1] (by rfl) rfl rfl (by (try simp only [List.map_toArray, List.map_cons, List.map_nil]); first | done | rfl | (simp only [List.length_drop, List.length_take]; rfl)) ?_
                                            with_reducible refine (bellowsref12_row.calls kj11 _ _ ((rd_T38 l0_0 x4_1).f1) t236 _ ?side1 ?side2 A33.out).mono ?_
                                            (case side1 => repeat (first | exact (Kd.C_below HR229_1.out HB.out) | (with_reducible refine Kd.C_alloc ?_ _) | (with_reducible refine Kd.C_drewN ?_ _) | (with_reducible refine Kd.C_drew ?_)))
                                            (case side2 => exact HC229_1.out)
                                            rintro e w' ⟨rfl, ⟨nd, rfl⟩⟩
                                            refine ⟨_, rfl, ?_⟩
                                            refine hK.out _ _ ⟨(blk_cell BK230.out 0).trans rfl, (blk_cell BK230.out 1).trans rfl, (blk_cell BK230.out 2).trans rfl, (blk_cell BK230.out 3).trans rfl, (blk_cell BK230.out 4).trans rfl, (blk_cell BK230.out 5).trans rfl⟩ (fun hHeld => ?_)
                                            clear hK K
                                            refine norm_ (a' := ?_) ?_ ?_
                                            rotate_left
                                            · show Act.put _ (some 50) _ = _
                                              simp only [Act.put, List.setIfInBounds_toArray, List.set_cons_zero, List.set_cons_succ, i64_w, i32_w]
                                              rfl
                                            refine pure_ (i := 12) (N := some 51) (v := ?_) (a' := ?_) #[true, true, true, true, true, true, true, true, true, true, true, true, true, false, false] rfl rfl (any_of HT_.out (by kernel_rfl)) (fun _ _ _ h => h) (Or.inl ⟨by rfl, ?_⟩) ?_ ?_
                                            rotate_left
                                            · intro w'
                                              go_simp
                                              with_reducible rfl
                                            rotate_left
                                            · simp only [Act.put, List.setIfInBounds_toArray, List.set_cons_zero, List.set_cons_succ, i64_w, i32_w]
                                              rfl
                                            refine pure_ (i := 13) (N := some 52) (v := ?_) (a' := ?_) #[true, true, true, true, true, true, true, true, true, true, true, true, true, true, false] rfl rfl (any_of HT_.out (by kernel_rfl)) (fun _ _ _ h => h) (Or.inl ⟨by rfl, ?_⟩) ?_ ?_
                                            rotate_left
                                            · intro w'
                                              go_simp
                                              with_reducible rfl
                                            rotate_left
                                            · simp only [Act.put, List.setIfInBounds_toArray, List.set_cons_zero, List.set_cons_succ, i64_w, i32_w]
                                              rfl
                                            refine pure_ (i := 14) (N := some 3) (v := ?_) (a' := ?_) #[true, true, true, true, true, true, true, true, true, true, true, true, true, true, true] rfl rfl (any_of HT_.out (by kernel_rfl)) (fun _ _ _ h => h) (Or.inl ⟨by rfl, ?_⟩) ?_ ?_
                                            rotate_left
                                            · intro w'
                                              go_simp
                                              with_reducible rfl
                                            rotate_left
                                            · simp only [Act.put, List.setIfInBounds_toArray, List.set_cons_zero, List.set_cons_succ, i64_w, i32_w]
                                              rfl
                                            refine done_ (done_of HT_.out (by kernel_rfl)) ?_
                                            have hnb52 := NB230_227.out
                                            have hnc52 := NB227_230.out
                                            have hcz53_0 : w51.cell? ⟨gb230, 0, none⟩ = some (.slice A229_0 ((rd_T38 l0_0 x4_1).f0).length c229_0) := (blk_cell BK230.out 0).trans rfl
                                            have hcz53_1 : w51.cell? ⟨gb230, 1, none⟩ = some (.slice A229_1 ((rd_T38 l0_0 x4_1).f1).length c229_1) := (blk_cell BK230.out 1).trans rfl
                                            have hcz53_2 : w51.cell? ⟨gb230, 2, none⟩ = some (.slice A229_2 ((rd_T38 l0_0 x4_1).f2).length c229_2) := (blk_cell BK230.out 2).trans rfl
                                            have hcz53_3 : w51.cell? ⟨gb230, 3, none⟩ = some (.slice A229_3 ((rd_T38 l0_0 x4_1).f3).length c229_3) := (blk_cell BK230.out 3).trans rfl
                                            have hcz53_4 : w51.cell? ⟨gb230, 4, none⟩ = some (.string ((rd_T38 l0_0 x4_1).f4)) := (blk_cell BK230.out 4).trans rfl
                                            have hcz53_5 : w51.cell? ⟨gb230, 5, none⟩ = some (.string ((rd_T38 l0_0 x4_1).f5)) := (blk_cell BK230.out 5).trans rfl
                                            have hfz53_0 := blk_frozen BK230.out 0
                                            have hfz53_1 := blk_frozen BK230.out 1
                                            have hfz53_2 := blk_frozen BK230.out 2
                                            have hfz53_3 := blk_frozen BK230.out 3
                                            have hfz53_4 := blk_frozen BK230.out 4
                                            have hfz53_5 := blk_frozen BK230.out 5
                                            try go_wp2_with (first | ((with_reducible refine gate_callee (f := 24) rfl ?_); refine goesL_ (some 60) rfl rfl Tryz.func24 (by kernel_rfl) rfl #[.slice A229_2 ((rd_T38 l0_0 x4_1).f2).length c229_2] rfl (by (try simp only [List.map_toArray, List.map_cons, List.map_nil]); first | done | rfl | (simp only [List.length_drop, List.length_take]; rfl)) ?_; (with_reducible refine (bellowsref12_row.calls kj11 _ _ ((rd_T38 l0_0 x4_1).f2) t237 _ ?side1 ?side2 A37.out).mono ?_); (case side1 => repeat (first | exact (Kd.C_below HR229_2.out (by repeat (first | (with_reducible first | exact HB.out | apply below_alloc | apply pw_below_drewN | apply below_drew1 | refine below_set ?_ GE227.out | refine below_set ?_ GE230.out) | exact HB.out))) | (with_reducible refine Kd.C_alloc ?_ _) | (with_reducible refine Kd.C_drewN ?_ _) | (with_reducible refine Kd.C_drew ?_))); (case side2 => exact HC229_2.out); rintro e w' ⟨rfl, ⟨nd, rfl⟩⟩; refine ⟨_, rfl, ?_⟩))
                                            go_roundg kj11
                                            case measure => have := HK1.out; have := HJ11.out; omega
                                            case rel => exact ⟨(((x3_11 ++ (((((⟨#[98, 117, 105, 108, 100]⟩ : ByteArray) ++ t234) ++ (⟨#[58, 32, 114]⟩ : ByteArray)) ++ t235) ++ t236)) ++ ((⟨#[32, 124]⟩ : ByteArray) ++ t237)) ++ (⟨#[10]⟩ : ByteArray)), (wrap64 (x4_1 + 1)), (by first | rfl | (simp; done) | (simp [*]; done)), (by first | rfl | (simp; done) | (simp [*]; done)), H', ⟨by have := HK1.out; have := HJ11.out; omega⟩, ⟨by (with_reducible repeat (first | refine blk_drewN ?_ _ | refine blk_drew ?_ | refine blk_alloc ?_ _)); exact BK227.out⟩, ⟨by repeat (first | (with_reducible first | exact HB.out | apply below_alloc | apply pw_below_drewN | apply below_drew1 | refine below_set ?_ GE227.out | refine below_set ?_ GE230.out) | exact HB.out)⟩⟩
                                          · rw [if_neg c49] at H
                                            exact absurd H (by simp)
                                      · rw [if_neg c39] at H
                                        exact absurd H (by simp)
                                    · rw [if_neg c38] at H
                                      exact absurd H (by simp)
                                  · rw [if_neg c36] at H
                                    have c36b0 : decide (0 < (((rd_T38 l0_0 x4_1).f2).length : Int)) = false := decide_eq_false c36
                                    have c36b1 : decide (0 < ((rd_T38 l0_0 x4_1).f2).length) = false := decide_eq_false (by omega)
                                    clear c36
                                    by_cases c54 : (((rd_T38 l0_0 x4_1).f3).length : Int) > 0
                                    · rw [if_pos c54] at H
                                      have c54b0 : decide (0 < (((rd_T38 l0_0 x4_1).f3).length : Int)) = true := decide_eq_true c54
                                      have c54b1 : decide (0 < ((rd_T38 l0_0 x4_1).f3).length) = true := decide_eq_true (by omega)
                                      clear c54
                                      replace H := Option.bind_eq_some_iff.mp H
                                      obtain ⟨t239, A550, H⟩ := H
                                      replace H : (if 3 + t239.size ≤ 9223372036854775807 then (if (x3_11 ++ (((((⟨#[98, 117, 105, 108, 100]⟩ : ByteArray) ++ t234) ++ (⟨#[58, 32, 114]⟩ : ByteArray)) ++ t235) ++ t236)).size + ((⟨#[32, 124, 124]⟩ : ByteArray) ++ t239).size ≤ 9223372036854775807 then (if ((x3_11 ++ (((((⟨#[98, 117, 105, 108, 100]⟩ : ByteArray) ++ t234) ++ (⟨#[58, 32, 114]⟩ : ByteArray)) ++ t235) ++ t236)) ++ ((⟨#[32, 124, 124]⟩ : ByteArray) ++ t239)).size + 1 ≤ 9223372036854775807 then (bellowsref12_Print.l0 kj11 (((x3_11 ++ (((((⟨#[98, 117, 105, 108, 100]⟩ : ByteArray) ++ t234) ++ (⟨#[58, 32, 114]⟩ : ByteArray)) ++ t235) ++ t236)) ++ ((⟨#[32, 124, 124]⟩ : ByteArray) ++ t239)) ++ (⟨#[10]⟩ : ByteArray)) (wrap64 (x4_1 + 1)) l0_0 l0_1) else (none)) else (none)) else (none)) = some r := H
                                      have A55 := Aside0.mk A550
                                      clear A550
                                      by_cases c56 : 3 + t239.size ≤ 9223372036854775807
                                      · rw [if_pos c56] at H
                                        have c56b0 := eq_true c56
                                        have c56b1 : decide (3 + t239.size ≤ 9223372036854775807) = true := decide_eq_true c56
                                        try have c56b2 : (9223372036854775807 < 3 + t239.size) = False := eq_false (Nat.not_lt.2 c56)
                                        have c56x : 3 + t239.size ≤ 9223372036854775807 := by have hh_ := c56; (try simp only [ByteArray.size_append] at hh_); exact hh_
                                        try have c56x0 : (9223372036854775807 < 3 + t239.size) = False := eq_false (by omega)
                                        by_cases c57 : (x3_11 ++ (((((⟨#[98, 117, 105, 108, 100]⟩ : ByteArray) ++ t234) ++ (⟨#[58, 32, 114]⟩ : ByteArray)) ++ t235) ++ t236)).size + ((⟨#[32, 124, 124]⟩ : ByteArray) ++ t239).size ≤ 9223372036854775807
                                        · rw [if_pos c57] at H
                                          have c57b0 := eq_true c57
                                          have c57b1 : decide ((x3_11 ++ (((((⟨#[98, 117, 105, 108, 100]⟩ : ByteArray) ++ t234) ++ (⟨#[58, 32, 114]⟩ : ByteArray)) ++ t235) ++ t236)).size + ((⟨#[32, 124, 124]⟩ : ByteArray) ++ t239).size ≤ 9223372036854775807) = true := decide_eq_true c57
                                          try have c57b2 : (9223372036854775807 < (x3_11 ++ (((((⟨#[98, 117, 105, 108, 100]⟩ : ByteArray) ++ t234) ++ (⟨#[58, 32, 114]⟩ : ByteArray)) ++ t235) ++ t236)).size + ((⟨#[32, 124, 124]⟩ : ByteArray) ++ t239).size) = False := eq_false (Nat.not_lt.2 c57)
                                          have c57x : x3_11.size + (5 + t234.size + 3 + t235.size + t236.size) + (3 + t239.size) ≤ 9223372036854775807 := by have hh_ := c57; (try simp only [ByteArray.size_append] at hh_); exact hh_
                                          try have c57x0 : (9223372036854775807 < x3_11.size + (5 + t234.size + 3 + t235.size + t236.size) + (3 + t239.size)) = False := eq_false (by omega)
                                          by_cases c58 : ((x3_11 ++ (((((⟨#[98, 117, 105, 108, 100]⟩ : ByteArray) ++ t234) ++ (⟨#[58, 32, 114]⟩ : ByteArray)) ++ t235) ++ t236)) ++ ((⟨#[32, 124, 124]⟩ : ByteArray) ++ t239)).size + 1 ≤ 9223372036854775807
                                          · rw [if_pos c58] at H
                                            have c58b0 := eq_true c58
                                            have c58b1 : decide (((x3_11 ++ (((((⟨#[98, 117, 105, 108, 100]⟩ : ByteArray) ++ t234) ++ (⟨#[58, 32, 114]⟩ : ByteArray)) ++ t235) ++ t236)) ++ ((⟨#[32, 124, 124]⟩ : ByteArray) ++ t239)).size + 1 ≤ 9223372036854775807) = true := decide_eq_true c58
                                            try have c58b2 : (9223372036854775807 < ((x3_11 ++ (((((⟨#[98, 117, 105, 108, 100]⟩ : ByteArray) ++ t234) ++ (⟨#[58, 32, 114]⟩ : ByteArray)) ++ t235) ++ t236)) ++ ((⟨#[32, 124, 124]⟩ : ByteArray) ++ t239)).size + 1) = False := eq_false (Nat.not_lt.2 c58)
                                            try have c58b7 : (9223372036854775806 < ((x3_11 ++ (((((⟨#[98, 117, 105, 108, 100]⟩ : ByteArray) ++ t234) ++ (⟨#[58, 32, 114]⟩ : ByteArray)) ++ t235) ++ t236)) ++ ((⟨#[32, 124, 124]⟩ : ByteArray) ++ t239)).size) = False := eq_false (by omega)
                                            have c58x : x3_11.size + (5 + t234.size + 3 + t235.size + t236.size) + (3 + t239.size) + 1 ≤ 9223372036854775807 := by have hh_ := c58; (try simp only [ByteArray.size_append] at hh_); exact hh_
                                            try have c58x0 : (9223372036854775807 < x3_11.size + (5 + t234.size + 3 + t235.size + t236.size) + (3 + t239.size) + 1) = False := eq_false (by omega)
                                            try have c58x1 : (9223372036854775806 < x3_11.size + (5 + t234.size + 3 + t235.size + t236.size) + (3 + t239.size)) = False := eq_false (by omega)
                                            have H' := Aside0.mk H
                                            clear H
                                            try go_wp2
                                            have n0_ := Aside0.mk (blk_drew BK227.out)
                                            have n1_ := Aside0.mk (blk_drew BK230.out)
                                            have n2_ := Aside0.mk (below_drew1 HB.out)
                                            clear BK227
                                            clear BK230
                                            clear HB
                                            have BK227 := n0_
                                            have BK230 := n1_
                                            have HB := n2_
                                            clear n0_ n1_ n2_
                                            refine start_ (n := 15) (S := fun w' => w'.cell? ⟨gb230, 0, none⟩ = some (.slice A229_0 ((rd_T38 l0_0 x4_1).f0).length c229_0) ∧ w'.cell? ⟨gb230, 1, none⟩ = some (.slice A229_1 ((rd_T38 l0_0 x4_1).f1).length c229_1) ∧ w'.cell? ⟨gb230, 2, none⟩ = some (.slice A229_2 ((rd_T38 l0_0 x4_1).f2).length c229_2) ∧ w'.cell? ⟨gb230, 3, none⟩ = some (.slice A229_3 ((rd_T38 l0_0 x4_1).f3).length c229_3) ∧ w'.cell? ⟨gb230, 4, none⟩ = some (.string ((rd_T38 l0_0 x4_1).f4)) ∧ w'.cell? ⟨gb230, 5, none⟩ = some (.string ((rd_T38 l0_0 x4_1).f5))) (ds := []) #[false, false, false, false, false, false, false, false, false, false, false, false, false, false, false] (by kernel_rfl) rfl rfl ⟨(blk_cell BK230.out 0).trans rfl, (blk_cell BK230.out 1).trans rfl, (blk_cell BK230.out 2).trans rfl, (blk_cell BK230.out 3).trans rfl, (blk_cell BK230.out 4).trans rfl, (blk_cell BK230.out 5).trans rfl⟩ (fun hHeld => ?_); refine with_tabW bellowsref12_Print.tab9 bellowsref12_Print.bits9 (fun HT_ HW_ => ?_)
                                            generalize wc.drew = w59 at BK227 BK230 HB hHeld ⊢
                                            refine pure_ (i := 0) (N := some 39) (v := ?_) (a' := ?_) #[true, false, false, false, false, false, false, false, false, false, false, false, false, false, false] rfl rfl (any_of HT_.out (by kernel_rfl)) (fun _ _ _ h => h) (Or.inl ⟨by rfl, ?_⟩) ?_ ?_
                                            rotate_left
                                            · intro w'
                                              go_simp
                                              with_reducible rfl
                                            rotate_left
                                            · simp only [Act.put, List.setIfInBounds_toArray, List.set_cons_zero, List.set_cons_succ, i64_w, i32_w]
                                              rfl
                                            refine pure_ (i := 1) (N := some 40) (v := ?_) (a' := ?_) #[true, true, false, false, false, false, false, false, false, false, false, false, false, false, false] rfl rfl (any_of HT_.out (by kernel_rfl)) (fun _ _ _ h => h) (Or.inl ⟨by rfl, ?_⟩) ?_ ?_
                                            rotate_left
                                            · intro w'
                                              go_simp
                                              with_reducible rfl
                                            rotate_left
                                            · simp only [Act.put, List.setIfInBounds_toArray, List.set_cons_zero, List.set_cons_succ, i64_w, i32_w]
                                              rfl
                                            refine pure_ (i := 6) (N := some 45) (v := ?_) (a' := ?_) #[true, true, false, false, false, false, true, false, false, false, false, false, false, false, false] rfl rfl (any_of HT_.out (by kernel_rfl)) (fun _ _ _ h => h) (Or.inl ⟨by rfl, ?_⟩) ?_ ?_
                                            rotate_left
                                            · intro w'
                                              go_simp
                                              with_reducible rfl
                                            rotate_left
                                            · simp only [Act.put, List.setIfInBounds_toArray, List.set_cons_zero, List.set_cons_succ, i64_w, i32_w]
                                              rfl
                                            refine pure_ (i := 9) (N := some 48) (v := ?_) (a' := ?_) #[true, true, false, false, false, false, true, false, false, true, false, false, false, false, false] rfl rfl (any_of HT_.out (by kernel_rfl)) (fun _ _ _ h => h) (Or.inl ⟨by rfl, ?_⟩) ?_ ?_
                                            rotate_left
                                            · intro w'
                                              go_simp
                                              with_reducible rfl
                                            rotate_left
                                            · simp only [Act.put, List.setIfInBounds_toArray, List.set_cons_zero, List.set_cons_succ, i64_w, i32_w]
                                              rfl
                                            refine take_ (i := 2) (N := some 41) (v := ?_) (a' := ?_) #[true, true, true, false, false, false, true, false, false, true, false, false, false, false, false] rfl rfl (take_ofW HT_.out HW_.out (by kernel_rfl)) (fun _ _ _ h => h) (Or.inl ⟨by rfl, ?_⟩) hHeld ?_ ?_
                                            rotate_left
                                            · rintro w' ⟨s0, s1, s2, s3, s4, s5⟩
                                              go_simp
                                              with_reducible rfl
                                            rotate_left
                                            · simp only [Act.put, List.setIfInBounds_toArray, List.set_cons_zero, List.set_cons_succ, i64_w, i32_w]
                                              rfl
                                            refine take_ (i := 10) (N := some 49) (v := ?_) (a' := ?_) #[true, true, true, false, false, false, true, false, false, true, true, false, false, false, false] rfl rfl (take_ofW HT_.out HW_.out (by kernel_rfl)) (fun _ _ _ h => h) (Or.inl ⟨by rfl, ?_⟩) hHeld ?_ ?_
                                            rotate_left
                                            · rintro w' ⟨s0, s1, s2, s3, s4, s5⟩
                                              go_simp
                                              with_reducible rfl
                                            rotate_left
                                            · simp only [Act.put, List.setIfInBounds_toArray, List.set_cons_zero, List.set_cons_succ, i64_w, i32_w]
                                              rfl
                                            refine one_ (i := 3) (N := some 42) #[true, true, true, true, false, false, true, false, false, true, true, false, false, false, false] rfl rfl (one_of HT_.out (by kernel_rfl)) (by decide) (fun K hK => ?_)
                                            refine goes_ Tryz.func24 (by kernel_rfl) rfl #[.slice A229_0 ((rd_T38 l0_0 x4_1).f0).length c229_0] (by rfl) rfl rfl (by (try simp only [List.map_toArray, List.map_cons, List.map_nil]); first | done | rfl | (simp only [List.length_drop, List.length_take]; rfl)) ?_
                                            with_reducible refine (bellowsref12_row.calls kj11 _ _ ((rd_T38 l0_0 x4_1).f0) t234 _ ?side1 ?side2 A28.out).mono ?_
                                            (case side1 => repeat (first | exact (Kd.C_below HR229_0.out HB.out) | (with_reducible refine Kd.C_alloc ?_ _) | (with_reducible refine Kd.C_drewN ?_ _) | (with_reducible refine Kd.C_drew ?_)))
                                            (case side2 => exact HC229_0.out)
                                            rintro e w' ⟨rfl, ⟨nd, rfl⟩⟩
                                            refine ⟨_, rfl, ?_⟩
                                            refine hK.out _ _ ⟨(blk_cell BK230.out 0).trans rfl, (blk_cell BK230.out 1).trans rfl, (blk_cell BK230.out 2).trans rfl, (blk_cell BK230.out 3).trans rfl, (blk_cell BK230.out 4).trans rfl, (blk_cell BK230.out 5).trans rfl⟩ (fun hHeld => ?_)
                                            clear hK K
                                            refine norm_ (a' := ?_) ?_ ?_
                                            rotate_left
                                            · show Act.put _ (some 42) _ = _
                                              simp only [Act.put, List.setIfInBounds_toArray, List.set_cons_zero, List.set_cons_succ, i64_w, i32_w]
                                              rfl
                                            refine pure_ (i := 4) (N := some 43) (v := ?_) (a' := ?_) #[true, true, true, true, true, false, true, false, false, true, true, false, false, false, false] rfl rfl (any_of HT_.out (by kernel_rfl)) (fun _ _ _ h => h) (Or.inl ⟨by rfl, ?_⟩) ?_ ?_
                                            rotate_left
                                            · intro w'
                                              go_simp
                                              with_reducible rfl
                                            rotate_left
                                            · simp only [Act.put, List.setIfInBounds_toArray, List.set_cons_zero, List.set_cons_succ, i64_w, i32_w]
                                              rfl
                                            refine pure_ (i := 5) (N := some 44) (v := ?_) (a' := ?_) #[true, true, true, true, true, true, true, false, false, true, true, false, false, false, false] rfl rfl (any_of HT_.out (by kernel_rfl)) (fun _ _ _ h => h) (Or.inl ⟨by rfl, ?_⟩) ?_ ?_
                                            rotate_left
                                            · intro w'
                                              go_simp
                                              with_reducible rfl
                                            rotate_left
                                            · simp only [Act.put, List.setIfInBounds_toArray, List.set_cons_zero, List.set_cons_succ, i64_w, i32_w]
                                              rfl
                                            refine one_ (i := 7) (N := some 46) #[true, true, true, true, true, true, true, true, false, true, true, false, false, false, false] rfl rfl (one_of HT_.out (by kernel_rfl)) (by decide) (fun K hK => ?_)
                                            refine goes_ Tryz.func22 (by kernel_rfl) rfl #[.int .i64 x4_1] (by rfl) rfl rfl (by (try simp only [List.map_toArray, List.map_cons, List.map_nil]); first | done | rfl | (simp only [List.length_drop, List.length_take]; rfl)) ?_
                                            with_reducible refine (bellowsref12_Digits.calls kj11 x4_1 t235 _ A31.out).mono ?_
                                            rintro e w60 ⟨rfl, hb⟩
                                            refine ⟨_, rfl, ?_⟩
                                            have n0_ := Aside0.mk (blk_below (g := gb227) (o := .cells #[.slice (some ad229) l0_0.length c0_0, .slice A0_1 l0_1.length c0_1] 25 (0, 0)) (by (with_reducible repeat (first | refine blk_drewN ?_ _ | refine blk_drew ?_ | refine blk_alloc ?_ _)); exact BK227.out) hb)
                                            have n1_ := Aside0.mk (blk_below (g := gb230) (o := .cells #[.slice A229_0 ((rd_T38 l0_0 x4_1).f0).length c229_0, .slice A229_1 ((rd_T38 l0_0 x4_1).f1).length c229_1, .slice A229_2 ((rd_T38 l0_0 x4_1).f2).length c229_2, .slice A229_3 ((rd_T38 l0_0 x4_1).f3).length c229_3, .string ((rd_T38 l0_0 x4_1).f4), .string ((rd_T38 l0_0 x4_1).f5)] 38 (0, 0)) (by (with_reducible repeat (first | refine blk_drewN ?_ _ | refine blk_drew ?_ | refine blk_alloc ?_ _)); exact BK230.out) hb)
                                            have n2_ := Aside0.mk (below_step (by repeat (first | (with_reducible first | exact HB.out | apply below_alloc | apply pw_below_drewN | apply below_drew1 | refine below_set ?_ GE227.out | refine below_set ?_ GE230.out) | exact HB.out)) hb)
                                            clear BK227
                                            clear BK230
                                            clear HB
                                            have BK227 := n0_
                                            have BK230 := n1_
                                            have HB := n2_
                                            clear n0_ n1_ n2_
                                            (try clear hb)
                                            (try clear hb2)
                                            (try clear hk)
                                            (try clear hi)
                                            refine hK.out _ _ ⟨(blk_cell BK230.out 0).trans rfl, (blk_cell BK230.out 1).trans rfl, (blk_cell BK230.out 2).trans rfl, (blk_cell BK230.out 3).trans rfl, (blk_cell BK230.out 4).trans rfl, (blk_cell BK230.out 5).trans rfl⟩ (fun hHeld => ?_)
                                            clear hK K
                                            refine norm_ (a' := ?_) ?_ ?_
                                            rotate_left
                                            · show Act.put _ (some 46) _ = _
                                              simp only [Act.put, List.setIfInBounds_toArray, List.set_cons_zero, List.set_cons_succ, i64_w, i32_w]
                                              rfl
                                            refine pure_ (i := 8) (N := some 47) (v := ?_) (a' := ?_) #[true, true, true, true, true, true, true, true, true, true, true, false, false, false, false] rfl rfl (any_of HT_.out (by kernel_rfl)) (fun _ _ _ h => h) (Or.inl ⟨by rfl, ?_⟩) ?_ ?_
                                            rotate_left
                                            · intro w'
                                              go_simp
                                              with_reducible rfl
                                            rotate_left
                                            · simp only [Act.put, List.setIfInBounds_toArray, List.set_cons_zero, List.set_cons_succ, i64_w, i32_w]
                                              rfl
                                            refine one_ (i := 11) (N := some 50) #[true, true, true, true, true, true, true, true, true, true, true, true, false, false, false] rfl rfl (one_of HT_.out (by kernel_rfl)) (by decide) (fun K hK => ?_)
                                            refine goes_ Tryz.func24 (by kernel_rfl) rfl #[.slice A229_1 ((rd_T38 l0_0 x4_1).f1).length c229_1] (by rfl) rfl rfl (by (try simp only [List.map_toArray, List.map_cons, List.map_nil]); first | done | rfl | (simp only [List.length_drop, List.length_take]; rfl)) ?_
                                            with_reducible refine (bellowsref12_row.calls kj11 _ _ ((rd_T38 l0_0 x4_1).f1) t236 _ ?side1 ?side2 A33.out).mono ?_
                                            (case side1 => repeat (first | exact (Kd.C_below HR229_1.out HB.out) | (with_reducible refine Kd.C_alloc ?_ _) | (with_reducible refine Kd.C_drewN ?_ _) | (with_reducible refine Kd.C_drew ?_)))
                                            (case side2 => exact HC229_1.out)
                                            rintro e w' ⟨rfl, ⟨nd, rfl⟩⟩
                                            refine ⟨_, rfl, ?_⟩
                                            refine hK.out _ _ ⟨(blk_cell BK230.out 0).trans rfl, (blk_cell BK230.out 1).trans rfl, (blk_cell BK230.out 2).trans rfl, (blk_cell BK230.out 3).trans rfl, (blk_cell BK230.out 4).trans rfl, (blk_cell BK230.out 5).trans rfl⟩ (fun hHeld => ?_)
                                            clear hK K
                                            refine norm_ (a' := ?_) ?_ ?_
                                            rotate_left
                                            · show Act.put _ (some 50) _ = _
                                              simp only [Act.put, List.setIfInBounds_toArray, List.set_cons_zero, List.set_cons_succ, i64_w, i32_w]
                                              rfl
                                            refine pure_ (i := 12) (N := some 51) (v := ?_) (a' := ?_) #[true, true, true, true, true, true, true, true, true, true, true, true, true, false, false] rfl rfl (any_of HT_.out (by kernel_rfl)) (fun _ _ _ h => h) (Or.inl ⟨by rfl, ?_⟩) ?_ ?_
                                            rotate_left
                                            · intro w'
                                              go_simp
                                              with_reducible rfl
                                            rotate_left
                                            · simp only [Act.put, List.setIfInBounds_toArray, List.set_cons_zero, List.set_cons_succ, i64_w, i32_w]
                                              rfl
                                            refine pure_ (i := 13) (N := some 52) (v := ?_) (a' := ?_) #[true, true, true, true, true, true, true, true, true, true, true, true, true, true, false] rfl rfl (any_of HT_.out (by kernel_rfl)) (fun _ _ _ h => h) (Or.inl ⟨by rfl, ?_⟩) ?_ ?_
                                            rotate_left
                                            · intro w'
                                              go_simp
                                              with_reducible rfl
                                            rotate_left
                                            · simp only [Act.put, List.setIfInBounds_toArray, List.set_cons_zero, List.set_cons_succ, i64_w, i32_w]
                                              rfl
                                            refine pure_ (i := 14) (N := some 3) (v := ?_) (a' := ?_) #[true, true, true, true, true, true, true, true, true, true, true, true, true, true, true] rfl rfl (any_of HT_.out (by kernel_rfl)) (fun _ _ _ h => h) (Or.inl ⟨by rfl, ?_⟩) ?_ ?_
                                            rotate_left
                                            · intro w'
                                              go_simp
                                              with_reducible rfl
                                            rotate_left
                                            · simp only [Act.put, List.setIfInBounds_toArray, List.set_cons_zero, List.set_cons_succ, i64_w, i32_w]
                                              rfl
                                            refine done_ (done_of HT_.out (by kernel_rfl)) ?_
                                            have hnb61 := NB230_227.out
                                            have hnc61 := NB227_230.out
                                            have hcz62_0 : w60.cell? ⟨gb230, 0, none⟩ = some (.slice A229_0 ((rd_T38 l0_0 x4_1).f0).length c229_0) := (blk_cell BK230.out 0).trans rfl
                                            have hcz62_1 : w60.cell? ⟨gb230, 1, none⟩ = some (.slice A229_1 ((rd_T38 l0_0 x4_1).f1).length c229_1) := (blk_cell BK230.out 1).trans rfl
                                            have hcz62_2 : w60.cell? ⟨gb230, 2, none⟩ = some (.slice A229_2 ((rd_T38 l0_0 x4_1).f2).length c229_2) := (blk_cell BK230.out 2).trans rfl
                                            have hcz62_3 : w60.cell? ⟨gb230, 3, none⟩ = some (.slice A229_3 ((rd_T38 l0_0 x4_1).f3).length c229_3) := (blk_cell BK230.out 3).trans rfl
                                            have hcz62_4 : w60.cell? ⟨gb230, 4, none⟩ = some (.string ((rd_T38 l0_0 x4_1).f4)) := (blk_cell BK230.out 4).trans rfl
                                            have hcz62_5 : w60.cell? ⟨gb230, 5, none⟩ = some (.string ((rd_T38 l0_0 x4_1).f5)) := (blk_cell BK230.out 5).trans rfl
                                            have hfz62_0 := blk_frozen BK230.out 0
                                            have hfz62_1 := blk_frozen BK230.out 1
                                            have hfz62_2 := blk_frozen BK230.out 2
                                            have hfz62_3 := blk_frozen BK230.out 3
                                            have hfz62_4 := blk_frozen BK230.out 4
                                            have hfz62_5 := blk_frozen BK230.out 5
                                            try go_wp2_with (first | ((with_reducible refine gate_callee (f := 24) rfl ?_); refine goesL_ (some 70) rfl rfl Tryz.func24 (by kernel_rfl) rfl #[.slice A229_3 ((rd_T38 l0_0 x4_1).f3).length c229_3] rfl (by (try simp only [List.map_toArray, List.map_cons, List.map_nil]); first | done | rfl | (simp only [List.length_drop, List.length_take]; rfl)) ?_; (with_reducible refine (bellowsref12_row.calls kj11 _ _ ((rd_T38 l0_0 x4_1).f3) t239 _ ?side1 ?side2 A55.out).mono ?_); (case side1 => repeat (first | exact (Kd.C_below HR229_3.out (by repeat (first | (with_reducible first | exact HB.out | apply below_alloc | apply pw_below_drewN | apply below_drew1 | refine below_set ?_ GE227.out | refine below_set ?_ GE230.out) | exact HB.out))) | (with_reducible refine Kd.C_alloc ?_ _) | (with_reducible refine Kd.C_drewN ?_ _) | (with_reducible refine Kd.C_drew ?_))); (case side2 => exact HC229_3.out); rintro e w' ⟨rfl, ⟨nd, rfl⟩⟩; refine ⟨_, rfl, ?_⟩))
                                            go_roundg kj11
                                            case measure => have := HK1.out; have := HJ11.out; omega
                                            case rel => exact ⟨(((x3_11 ++ (((((⟨#[98, 117, 105, 108, 100]⟩ : ByteArray) ++ t234) ++ (⟨#[58, 32, 114]⟩ : ByteArray)) ++ t235) ++ t236)) ++ ((⟨#[32, 124, 124]⟩ : ByteArray) ++ t239)) ++ (⟨#[10]⟩ : ByteArray)), (wrap64 (x4_1 + 1)), (by first | rfl | (simp; done) | (simp [*]; done)), (by first | rfl | (simp; done) | (simp [*]; done)), H', ⟨by have := HK1.out; have := HJ11.out; omega⟩, ⟨by (with_reducible repeat (first | refine blk_drewN ?_ _ | refine blk_drew ?_ | refine blk_alloc ?_ _)); exact BK227.out⟩, ⟨by repeat (first | (with_reducible first | exact HB.out | apply below_alloc | apply pw_below_drewN | apply below_drew1 | refine below_set ?_ GE227.out | refine below_set ?_ GE230.out) | exact HB.out)⟩⟩
                                          · rw [if_neg c58] at H
                                            exact absurd H (by simp)
                                        · rw [if_neg c57] at H
                                          exact absurd H (by simp)
                                      · rw [if_neg c56] at H
                                        exact absurd H (by simp)
                                    · rw [if_neg c54] at H
                                      have c54b0 : decide (0 < (((rd_T38 l0_0 x4_1).f3).length : Int)) = false := decide_eq_false c54
                                      have c54b1 : decide (0 < ((rd_T38 l0_0 x4_1).f3).length) = false := decide_eq_false (by omega)
                                      clear c54
                                      by_cases c63 : (x3_11 ++ (((((⟨#[98, 117, 105, 108, 100]⟩ : ByteArray) ++ t234) ++ (⟨#[58, 32, 114]⟩ : ByteArray)) ++ t235) ++ t236)).size + 1 ≤ 9223372036854775807
                                      · rw [if_pos c63] at H
                                        have c63b0 := eq_true c63
                                        have c63b1 : decide ((x3_11 ++ (((((⟨#[98, 117, 105, 108, 100]⟩ : ByteArray) ++ t234) ++ (⟨#[58, 32, 114]⟩ : ByteArray)) ++ t235) ++ t236)).size + 1 ≤ 9223372036854775807) = true := decide_eq_true c63
                                        try have c63b2 : (9223372036854775807 < (x3_11 ++ (((((⟨#[98, 117, 105, 108, 100]⟩ : ByteArray) ++ t234) ++ (⟨#[58, 32, 114]⟩ : ByteArray)) ++ t235) ++ t236)).size + 1) = False := eq_false (Nat.not_lt.2 c63)
                                        try have c63b7 : (9223372036854775806 < (x3_11 ++ (((((⟨#[98, 117, 105, 108, 100]⟩ : ByteArray) ++ t234) ++ (⟨#[58, 32, 114]⟩ : ByteArray)) ++ t235) ++ t236)).size) = False := eq_false (by omega)
                                        try have c63b8 : (9223372036854775807 < x3_11.size + (((((⟨#[98, 117, 105, 108, 100]⟩ : ByteArray) ++ t234) ++ (⟨#[58, 32, 114]⟩ : ByteArray)) ++ t235) ++ t236).size + 1) = False := by simpa only [ByteArray.size_append] using c63b2
                                        try have c63b9 : (9223372036854775806 < x3_11.size + (((((⟨#[98, 117, 105, 108, 100]⟩ : ByteArray) ++ t234) ++ (⟨#[58, 32, 114]⟩ : ByteArray)) ++ t235) ++ t236).size) = False := eq_false (by have hh_ := c63; rw [ByteArray.size_append] at hh_; omega)
                                        have c63x : x3_11.size + (5 + t234.size + 3 + t235.size + t236.size) + 1 ≤ 9223372036854775807 := by have hh_ := c63; (try simp only [ByteArray.size_append] at hh_); exact hh_
                                        try have c63x0 : (9223372036854775807 < x3_11.size + (5 + t234.size + 3 + t235.size + t236.size) + 1) = False := eq_false (by omega)
                                        try have c63x1 : (9223372036854775806 < x3_11.size + (5 + t234.size + 3 + t235.size + t236.size)) = False := eq_false (by omega)
                                        have H' := Aside0.mk H
                                        clear H
                                        try go_wp2
                                        have n0_ := Aside0.mk (blk_drew BK227.out)
                                        have n1_ := Aside0.mk (blk_drew BK230.out)
                                        have n2_ := Aside0.mk (below_drew1 HB.out)
                                        clear BK227
                                        clear BK230
                                        clear HB
                                        have BK227 := n0_
                                        have BK230 := n1_
                                        have HB := n2_
                                        clear n0_ n1_ n2_
                                        refine start_ (n := 15) (S := fun w' => w'.cell? ⟨gb230, 0, none⟩ = some (.slice A229_0 ((rd_T38 l0_0 x4_1).f0).length c229_0) ∧ w'.cell? ⟨gb230, 1, none⟩ = some (.slice A229_1 ((rd_T38 l0_0 x4_1).f1).length c229_1) ∧ w'.cell? ⟨gb230, 2, none⟩ = some (.slice A229_2 ((rd_T38 l0_0 x4_1).f2).length c229_2) ∧ w'.cell? ⟨gb230, 3, none⟩ = some (.slice A229_3 ((rd_T38 l0_0 x4_1).f3).length c229_3) ∧ w'.cell? ⟨gb230, 4, none⟩ = some (.string ((rd_T38 l0_0 x4_1).f4)) ∧ w'.cell? ⟨gb230, 5, none⟩ = some (.string ((rd_T38 l0_0 x4_1).f5))) (ds := []) #[false, false, false, false, false, false, false, false, false, false, false, false, false, false, false] (by kernel_rfl) rfl rfl ⟨(blk_cell BK230.out 0).trans rfl, (blk_cell BK230.out 1).trans rfl, (blk_cell BK230.out 2).trans rfl, (blk_cell BK230.out 3).trans rfl, (blk_cell BK230.out 4).trans rfl, (blk_cell BK230.out 5).trans rfl⟩ (fun hHeld => ?_); refine with_tabW bellowsref12_Print.tab9 bellowsref12_Print.bits9 (fun HT_ HW_ => ?_)
                                        generalize wc.drew = w64 at BK227 BK230 HB hHeld ⊢
                                        refine pure_ (i := 0) (N := some 39) (v := ?_) (a' := ?_) #[true, false, false, false, false, false, false, false, false, false, false, false, false, false, false] rfl rfl (any_of HT_.out (by kernel_rfl)) (fun _ _ _ h => h) (Or.inl ⟨by rfl, ?_⟩) ?_ ?_
                                        rotate_left
                                        · intro w'
                                          go_simp
                                          with_reducible rfl
                                        rotate_left
                                        · simp only [Act.put, List.setIfInBounds_toArray, List.set_cons_zero, List.set_cons_succ, i64_w, i32_w]
                                          rfl
                                        refine pure_ (i := 1) (N := some 40) (v := ?_) (a' := ?_) #[true, true, false, false, false, false, false, false, false, false, false, false, false, false, false] rfl rfl (any_of HT_.out (by kernel_rfl)) (fun _ _ _ h => h) (Or.inl ⟨by rfl, ?_⟩) ?_ ?_
                                        rotate_left
                                        · intro w'
                                          go_simp
                                          with_reducible rfl
                                        rotate_left
                                        · simp only [Act.put, List.setIfInBounds_toArray, List.set_cons_zero, List.set_cons_succ, i64_w, i32_w]
                                          rfl
                                        refine pure_ (i := 6) (N := some 45) (v := ?_) (a' := ?_) #[true, true, false, false, false, false, true, false, false, false, false, false, false, false, false] rfl rfl (any_of HT_.out (by kernel_rfl)) (fun _ _ _ h => h) (Or.inl ⟨by rfl, ?_⟩) ?_ ?_
                                        rotate_left
                                        · intro w'
                                          go_simp
                                          with_reducible rfl
                                        rotate_left
                                        · simp only [Act.put, List.setIfInBounds_toArray, List.set_cons_zero, List.set_cons_succ, i64_w, i32_w]
                                          rfl
                                        refine pure_ (i := 9) (N := some 48) (v := ?_) (a' := ?_) #[true, true, false, false, false, false, true, false, false, true, false, false, false, false, false] rfl rfl (any_of HT_.out (by kernel_rfl)) (fun _ _ _ h => h) (Or.inl ⟨by rfl, ?_⟩) ?_ ?_
                                        rotate_left
                                        · intro w'
                                          go_simp
                                          with_reducible rfl
                                        rotate_left
                                        · simp only [Act.put, List.setIfInBounds_toArray, List.set_cons_zero, List.set_cons_succ, i64_w, i32_w]
                                          rfl
                                        refine take_ (i := 2) (N := some 41) (v := ?_) (a' := ?_) #[true, true, true, false, false, false, true, false, false, true, false, false, false, false, false] rfl rfl (take_ofW HT_.out HW_.out (by kernel_rfl)) (fun _ _ _ h => h) (Or.inl ⟨by rfl, ?_⟩) hHeld ?_ ?_
                                        rotate_left
                                        · rintro w' ⟨s0, s1, s2, s3, s4, s5⟩
                                          go_simp
                                          with_reducible rfl
                                        rotate_left
                                        · simp only [Act.put, List.setIfInBounds_toArray, List.set_cons_zero, List.set_cons_succ, i64_w, i32_w]
                                          rfl
                                        refine take_ (i := 10) (N := some 49) (v := ?_) (a' := ?_) #[true, true, true, false, false, false, true, false, false, true, true, false, false, false, false] rfl rfl (take_ofW HT_.out HW_.out (by kernel_rfl)) (fun _ _ _ h => h) (Or.inl ⟨by rfl, ?_⟩) hHeld ?_ ?_
                                        rotate_left
                                        · rintro w' ⟨s0, s1, s2, s3, s4, s5⟩
                                          go_simp
                                          with_reducible rfl
                                        rotate_left
                                        · simp only [Act.put, List.setIfInBounds_toArray, List.set_cons_zero, List.set_cons_succ, i64_w, i32_w]
                                          rfl
                                        refine one_ (i := 3) (N := some 42) #[true, true, true, true, false, false, true, false, false, true, true, false, false, false, false] rfl rfl (one_of HT_.out (by kernel_rfl)) (by decide) (fun K hK => ?_)
                                        refine goes_ Tryz.func24 (by kernel_rfl) rfl #[.slice A229_0 ((rd_T38 l0_0 x4_1).f0).length c229_0] (by rfl) rfl rfl (by (try simp only [List.map_toArray, List.map_cons, List.map_nil]); first | done | rfl | (simp only [List.length_drop, List.length_take]; rfl)) ?_
                                        with_reducible refine (bellowsref12_row.calls kj11 _ _ ((rd_T38 l0_0 x4_1).f0) t234 _ ?side1 ?side2 A28.out).mono ?_
                                        (case side1 => repeat (first | exact (Kd.C_below HR229_0.out HB.out) | (with_reducible refine Kd.C_alloc ?_ _) | (with_reducible refine Kd.C_drewN ?_ _) | (with_reducible refine Kd.C_drew ?_)))
                                        (case side2 => exact HC229_0.out)
                                        rintro e w' ⟨rfl, ⟨nd, rfl⟩⟩
                                        refine ⟨_, rfl, ?_⟩
                                        refine hK.out _ _ ⟨(blk_cell BK230.out 0).trans rfl, (blk_cell BK230.out 1).trans rfl, (blk_cell BK230.out 2).trans rfl, (blk_cell BK230.out 3).trans rfl, (blk_cell BK230.out 4).trans rfl, (blk_cell BK230.out 5).trans rfl⟩ (fun hHeld => ?_)
                                        clear hK K
                                        refine norm_ (a' := ?_) ?_ ?_
                                        rotate_left
                                        · show Act.put _ (some 42) _ = _
                                          simp only [Act.put, List.setIfInBounds_toArray, List.set_cons_zero, List.set_cons_succ, i64_w, i32_w]
                                          rfl
                                        refine pure_ (i := 4) (N := some 43) (v := ?_) (a' := ?_) #[true, true, true, true, true, false, true, false, false, true, true, false, false, false, false] rfl rfl (any_of HT_.out (by kernel_rfl)) (fun _ _ _ h => h) (Or.inl ⟨by rfl, ?_⟩) ?_ ?_
                                        rotate_left
                                        · intro w'
                                          go_simp
                                          with_reducible rfl
                                        rotate_left
                                        · simp only [Act.put, List.setIfInBounds_toArray, List.set_cons_zero, List.set_cons_succ, i64_w, i32_w]
                                          rfl
                                        refine pure_ (i := 5) (N := some 44) (v := ?_) (a' := ?_) #[true, true, true, true, true, true, true, false, false, true, true, false, false, false, false] rfl rfl (any_of HT_.out (by kernel_rfl)) (fun _ _ _ h => h) (Or.inl ⟨by rfl, ?_⟩) ?_ ?_
                                        rotate_left
                                        · intro w'
                                          go_simp
                                          with_reducible rfl
                                        rotate_left
                                        · simp only [Act.put, List.setIfInBounds_toArray, List.set_cons_zero, List.set_cons_succ, i64_w, i32_w]
                                          rfl
                                        refine one_ (i := 7) (N := some 46) #[true, true, true, true, true, true, true, true, false, true, true, false, false, false, false] rfl rfl (one_of HT_.out (by kernel_rfl)) (by decide) (fun K hK => ?_)
                                        refine goes_ Tryz.func22 (by kernel_rfl) rfl #[.int .i64 x4_1] (by rfl) rfl rfl (by (try simp only [List.map_toArray, List.map_cons, List.map_nil]); first | done | rfl | (simp only [List.length_drop, List.length_take]; rfl)) ?_
                                        with_reducible refine (bellowsref12_Digits.calls kj11 x4_1 t235 _ A31.out).mono ?_
                                        rintro e w65 ⟨rfl, hb⟩
                                        refine ⟨_, rfl, ?_⟩
                                        have n0_ := Aside0.mk (blk_below (g := gb227) (o := .cells #[.slice (some ad229) l0_0.length c0_0, .slice A0_1 l0_1.length c0_1] 25 (0, 0)) (by (with_reducible repeat (first | refine blk_drewN ?_ _ | refine blk_drew ?_ | refine blk_alloc ?_ _)); exact BK227.out) hb)
                                        have n1_ := Aside0.mk (blk_below (g := gb230) (o := .cells #[.slice A229_0 ((rd_T38 l0_0 x4_1).f0).length c229_0, .slice A229_1 ((rd_T38 l0_0 x4_1).f1).length c229_1, .slice A229_2 ((rd_T38 l0_0 x4_1).f2).length c229_2, .slice A229_3 ((rd_T38 l0_0 x4_1).f3).length c229_3, .string ((rd_T38 l0_0 x4_1).f4), .string ((rd_T38 l0_0 x4_1).f5)] 38 (0, 0)) (by (with_reducible repeat (first | refine blk_drewN ?_ _ | refine blk_drew ?_ | refine blk_alloc ?_ _)); exact BK230.out) hb)
                                        have n2_ := Aside0.mk (below_step (by repeat (first | (with_reducible first | exact HB.out | apply below_alloc | apply pw_below_drewN | apply below_drew1 | refine below_set ?_ GE227.out | refine below_set ?_ GE230.out) | exact HB.out)) hb)
                                        clear BK227
                                        clear BK230
                                        clear HB
                                        have BK227 := n0_
                                        have BK230 := n1_
                                        have HB := n2_
                                        clear n0_ n1_ n2_
                                        (try clear hb)
                                        (try clear hb2)
                                        (try clear hk)
                                        (try clear hi)
                                        refine hK.out _ _ ⟨(blk_cell BK230.out 0).trans rfl, (blk_cell BK230.out 1).trans rfl, (blk_cell BK230.out 2).trans rfl, (blk_cell BK230.out 3).trans rfl, (blk_cell BK230.out 4).trans rfl, (blk_cell BK230.out 5).trans rfl⟩ (fun hHeld => ?_)
                                        clear hK K
                                        refine norm_ (a' := ?_) ?_ ?_
                                        rotate_left
                                        · show Act.put _ (some 46) _ = _
                                          simp only [Act.put, List.setIfInBounds_toArray, List.set_cons_zero, List.set_cons_succ, i64_w, i32_w]
                                          rfl
                                        refine pure_ (i := 8) (N := some 47) (v := ?_) (a' := ?_) #[true, true, true, true, true, true, true, true, true, true, true, false, false, false, false] rfl rfl (any_of HT_.out (by kernel_rfl)) (fun _ _ _ h => h) (Or.inl ⟨by rfl, ?_⟩) ?_ ?_
                                        rotate_left
                                        · intro w'
                                          go_simp
                                          with_reducible rfl
                                        rotate_left
                                        · simp only [Act.put, List.setIfInBounds_toArray, List.set_cons_zero, List.set_cons_succ, i64_w, i32_w]
                                          rfl
                                        refine one_ (i := 11) (N := some 50) #[true, true, true, true, true, true, true, true, true, true, true, true, false, false, false] rfl rfl (one_of HT_.out (by kernel_rfl)) (by decide) (fun K hK => ?_)
                                        refine goes_ Tryz.func24 (by kernel_rfl) rfl #[.slice A229_1 ((rd_T38 l0_0 x4_1).f1).length c229_1] (by rfl) rfl rfl (by (try simp only [List.map_toArray, List.map_cons, List.map_nil]); first | done | rfl | (simp only [List.length_drop, List.length_take]; rfl)) ?_
                                        with_reducible refine (bellowsref12_row.calls kj11 _ _ ((rd_T38 l0_0 x4_1).f1) t236 _ ?side1 ?side2 A33.out).mono ?_
                                        (case side1 => repeat (first | exact (Kd.C_below HR229_1.out HB.out) | (with_reducible refine Kd.C_alloc ?_ _) | (with_reducible refine Kd.C_drewN ?_ _) | (with_reducible refine Kd.C_drew ?_)))
                                        (case side2 => exact HC229_1.out)
                                        rintro e w' ⟨rfl, ⟨nd, rfl⟩⟩
                                        refine ⟨_, rfl, ?_⟩
                                        refine hK.out _ _ ⟨(blk_cell BK230.out 0).trans rfl, (blk_cell BK230.out 1).trans rfl, (blk_cell BK230.out 2).trans rfl, (blk_cell BK230.out 3).trans rfl, (blk_cell BK230.out 4).trans rfl, (blk_cell BK230.out 5).trans rfl⟩ (fun hHeld => ?_)
                                        clear hK K
                                        refine norm_ (a' := ?_) ?_ ?_
                                        rotate_left
                                        · show Act.put _ (some 50) _ = _
                                          simp only [Act.put, List.setIfInBounds_toArray, List.set_cons_zero, List.set_cons_succ, i64_w, i32_w]
                                          rfl
                                        refine pure_ (i := 12) (N := some 51) (v := ?_) (a' := ?_) #[true, true, true, true, true, true, true, true, true, true, true, true, true, false, false] rfl rfl (any_of HT_.out (by kernel_rfl)) (fun _ _ _ h => h) (Or.inl ⟨by rfl, ?_⟩) ?_ ?_
                                        rotate_left
                                        · intro w'
                                          go_simp
                                          with_reducible rfl
                                        rotate_left
                                        · simp only [Act.put, List.setIfInBounds_toArray, List.set_cons_zero, List.set_cons_succ, i64_w, i32_w]
                                          rfl
                                        refine pure_ (i := 13) (N := some 52) (v := ?_) (a' := ?_) #[true, true, true, true, true, true, true, true, true, true, true, true, true, true, false] rfl rfl (any_of HT_.out (by kernel_rfl)) (fun _ _ _ h => h) (Or.inl ⟨by rfl, ?_⟩) ?_ ?_
                                        rotate_left
                                        · intro w'
                                          go_simp
                                          with_reducible rfl
                                        rotate_left
                                        · simp only [Act.put, List.setIfInBounds_toArray, List.set_cons_zero, List.set_cons_succ, i64_w, i32_w]
                                          rfl
                                        refine pure_ (i := 14) (N := some 3) (v := ?_) (a' := ?_) #[true, true, true, true, true, true, true, true, true, true, true, true, true, true, true] rfl rfl (any_of HT_.out (by kernel_rfl)) (fun _ _ _ h => h) (Or.inl ⟨by rfl, ?_⟩) ?_ ?_
                                        rotate_left
                                        · intro w'
                                          go_simp
                                          with_reducible rfl
                                        rotate_left
                                        · simp only [Act.put, List.setIfInBounds_toArray, List.set_cons_zero, List.set_cons_succ, i64_w, i32_w]
                                          rfl
                                        refine done_ (done_of HT_.out (by kernel_rfl)) ?_
                                        have hnb66 := NB230_227.out
                                        have hnc66 := NB227_230.out
                                        have hcz67_0 : w65.cell? ⟨gb230, 0, none⟩ = some (.slice A229_0 ((rd_T38 l0_0 x4_1).f0).length c229_0) := (blk_cell BK230.out 0).trans rfl
                                        have hcz67_1 : w65.cell? ⟨gb230, 1, none⟩ = some (.slice A229_1 ((rd_T38 l0_0 x4_1).f1).length c229_1) := (blk_cell BK230.out 1).trans rfl
                                        have hcz67_2 : w65.cell? ⟨gb230, 2, none⟩ = some (.slice A229_2 ((rd_T38 l0_0 x4_1).f2).length c229_2) := (blk_cell BK230.out 2).trans rfl
                                        have hcz67_3 : w65.cell? ⟨gb230, 3, none⟩ = some (.slice A229_3 ((rd_T38 l0_0 x4_1).f3).length c229_3) := (blk_cell BK230.out 3).trans rfl
                                        have hcz67_4 : w65.cell? ⟨gb230, 4, none⟩ = some (.string ((rd_T38 l0_0 x4_1).f4)) := (blk_cell BK230.out 4).trans rfl
                                        have hcz67_5 : w65.cell? ⟨gb230, 5, none⟩ = some (.string ((rd_T38 l0_0 x4_1).f5)) := (blk_cell BK230.out 5).trans rfl
                                        have hfz67_0 := blk_frozen BK230.out 0
                                        have hfz67_1 := blk_frozen BK230.out 1
                                        have hfz67_2 := blk_frozen BK230.out 2
                                        have hfz67_3 := blk_frozen BK230.out 3
                                        have hfz67_4 := blk_frozen BK230.out 4
                                        have hfz67_5 := blk_frozen BK230.out 5
                                        try go_wp2
                                        go_roundg kj11
                                        case measure => have := HK1.out; have := HJ11.out; omega
                                        case rel => exact ⟨((x3_11 ++ (((((⟨#[98, 117, 105, 108, 100]⟩ : ByteArray) ++ t234) ++ (⟨#[58, 32, 114]⟩ : ByteArray)) ++ t235) ++ t236)) ++ (⟨#[10]⟩ : ByteArray)), (wrap64 (x4_1 + 1)), (by first | rfl | (simp; done) | (simp [*]; done)), (by first | rfl | (simp; done) | (simp [*]; done)), H', ⟨by have := HK1.out; have := HJ11.out; omega⟩, ⟨by (with_reducible repeat (first | refine blk_drewN ?_ _ | refine blk_drew ?_ | refine blk_alloc ?_ _)); exact BK227.out⟩, ⟨by repeat (first | (with_reducible first | exact HB.out | apply below_alloc | apply pw_below_drewN | apply below_drew1 | refine below_set ?_ GE227.out | refine below_set ?_ GE230.out) | exact HB.out)⟩⟩
                                      · rw [if_neg c63] at H
                                        exact absurd H (by simp)
                                · rw [if_neg c35] at H
                                  exact absurd H (by simp)
                              · rw [if_neg c34] at H
                                exact absurd H (by simp)
                            · rw [if_neg c32] at H
                              exact absurd H (by simp)
                          · rw [if_neg c30] at H
                            exact absurd H (by simp)
                        · rw [if_neg c29] at H
                          exact absurd H (by simp)
                  · rw [if_neg c11] at H
                    exact absurd H (by simp)
                · rw [if_neg c10] at H
                  exact absurd H (by simp)
              · rw [if_neg c9] at H
                exact absurd H (by simp)
            · rw [if_neg c7] at H
              exact absurd H (by simp)
          · rw [if_neg c6] at H
            exact absurd H (by simp)
        · rw [if_neg c4] at H
          exact absurd H (by simp)
      · rw [if_neg c3] at H
        have c3b0 : decide (x4_1 < (l0_0.length : Int)) = false := decide_eq_false c3
        clear c3
        by_cases c68 : (l0_1.length : Int) > 0
        · rw [if_pos c68] at H
          have c68b0 : decide (0 < (l0_1.length : Int)) = true := decide_eq_true c68
          have c68b1 : decide (0 < l0_1.length) = true := decide_eq_true (by omega)
          clear c68
          replace H := Option.bind_eq_some_iff.mp H
          obtain ⟨t228, A690, H⟩ := H
          replace H : (if 7 + t228.size ≤ 9223372036854775807 then (if ((⟨#[100, 101, 102, 97, 117, 108, 116]⟩ : ByteArray) ++ t228).size + 1 ≤ 9223372036854775807 then (if x3_1.size + (((⟨#[100, 101, 102, 97, 117, 108, 116]⟩ : ByteArray) ++ t228) ++ (⟨#[10]⟩ : ByteArray)).size ≤ 9223372036854775807 then (some (x3_1 ++ (((⟨#[100, 101, 102, 97, 117, 108, 116]⟩ : ByteArray) ++ t228) ++ (⟨#[10]⟩ : ByteArray)))) else (none)) else (none)) else (none)) = some r := H
          have A69 := Aside0.mk A690
          clear A690
          by_cases c70 : 7 + t228.size ≤ 9223372036854775807
          · rw [if_pos c70] at H
            have c70b0 := eq_true c70
            have c70b1 : decide (7 + t228.size ≤ 9223372036854775807) = true := decide_eq_true c70
            try have c70b2 : (9223372036854775807 < 7 + t228.size) = False := eq_false (Nat.not_lt.2 c70)
            have c70x : 7 + t228.size ≤ 9223372036854775807 := by have hh_ := c70; (try simp only [ByteArray.size_append] at hh_); exact hh_
            try have c70x0 : (9223372036854775807 < 7 + t228.size) = False := eq_false (by omega)
            by_cases c71 : ((⟨#[100, 101, 102, 97, 117, 108, 116]⟩ : ByteArray) ++ t228).size + 1 ≤ 9223372036854775807
            · rw [if_pos c71] at H
              have c71b0 := eq_true c71
              have c71b1 : decide (((⟨#[100, 101, 102, 97, 117, 108, 116]⟩ : ByteArray) ++ t228).size + 1 ≤ 9223372036854775807) = true := decide_eq_true c71
              try have c71b2 : (9223372036854775807 < ((⟨#[100, 101, 102, 97, 117, 108, 116]⟩ : ByteArray) ++ t228).size + 1) = False := eq_false (Nat.not_lt.2 c71)
              try have c71b7 : (9223372036854775806 < ((⟨#[100, 101, 102, 97, 117, 108, 116]⟩ : ByteArray) ++ t228).size) = False := eq_false (by omega)
              have c71e : 7 + t228.size + 1 ≤ 9223372036854775807 := by have hh_ := c71; rw [ByteArray.size_append] at hh_; exact hh_
              try have c71e0 : (9223372036854775806 < 7 + t228.size) = False := eq_false (by omega)
              try have c71e1 : (9223372036854775799 < t228.size) = False := eq_false (by omega)
              try have c71e2 : (9223372036854775807 < 7 + t228.size + 1) = False := eq_false (by omega)
              try have c71e3 : (9223372036854775806 < t228.size + 7) = False := eq_false (by omega)
              try have c71e4 : (9223372036854775807 < t228.size + 7 + 1) = False := eq_false (by omega)
              have c71x : 7 + t228.size + 1 ≤ 9223372036854775807 := by have hh_ := c71; (try simp only [ByteArray.size_append] at hh_); exact hh_
              try have c71x0 : (9223372036854775807 < 7 + t228.size + 1) = False := eq_false (by omega)
              try have c71x1 : (9223372036854775806 < 7 + t228.size) = False := eq_false (by omega)
              by_cases c72 : x3_1.size + (((⟨#[100, 101, 102, 97, 117, 108, 116]⟩ : ByteArray) ++ t228) ++ (⟨#[10]⟩ : ByteArray)).size ≤ 9223372036854775807
              · rw [if_pos c72] at H
                have c72b0 := eq_true c72
                have c72b1 : decide (x3_1.size + (((⟨#[100, 101, 102, 97, 117, 108, 116]⟩ : ByteArray) ++ t228) ++ (⟨#[10]⟩ : ByteArray)).size ≤ 9223372036854775807) = true := decide_eq_true c72
                try have c72b2 : (9223372036854775807 < x3_1.size + (((⟨#[100, 101, 102, 97, 117, 108, 116]⟩ : ByteArray) ++ t228) ++ (⟨#[10]⟩ : ByteArray)).size) = False := eq_false (Nat.not_lt.2 c72)
                have c72x : x3_1.size + (7 + t228.size + 1) ≤ 9223372036854775807 := by have hh_ := c72; (try simp only [ByteArray.size_append] at hh_); exact hh_
                try have c72x0 : (9223372036854775807 < x3_1.size + (7 + t228.size + 1)) = False := eq_false (by omega)
                try have c72x1 : (9223372036854775806 < x3_1.size + (7 + t228.size)) = False := eq_false (by omega)
                obtain rfl := Option.some.inj H
                have hcz73_0 : wr.cell? ⟨gb227, 0, none⟩ = some (.slice A0_0 l0_0.length c0_0) := (blk_cell BK227.out 0).trans rfl
                have hcz73_1 : wr.cell? ⟨gb227, 1, none⟩ = some (.slice A0_1 l0_1.length c0_1) := (blk_cell BK227.out 1).trans rfl
                have hfz73_0 := blk_frozen BK227.out 0
                have hfz73_1 := blk_frozen BK227.out 1
                go_wp2_with (first | ((with_reducible refine gate_callee (f := 24) rfl ?_); refine goesL_ (some 82) rfl rfl Tryz.func24 (by kernel_rfl) rfl #[.slice A0_1 l0_1.length c0_1] rfl (by (try simp only [List.map_toArray, List.map_cons, List.map_nil]); first | done | rfl | (simp only [List.length_drop, List.length_take]; rfl)) ?_; (with_reducible refine (bellowsref12_row.calls k1 _ _ l0_1 t228 _ ?side1 ?side2 A69.out).mono ?_); (case side1 => repeat (first | exact (Kd.C_below HR0_1.out HB.out) | (with_reducible refine Kd.C_alloc ?_ _) | (with_reducible refine Kd.C_drewN ?_ _) | (with_reducible refine Kd.C_drew ?_))); (case side2 => exact HC0_1.out); rintro e w' ⟨rfl, ⟨nd, rfl⟩⟩; refine ⟨_, rfl, ?_⟩))
                go_ret
                exact ⟨by first | rfl | (simp [errW_none, errW_some] <;> rfl) | (simp [*, errW_none, errW_some] <;> rfl), by repeat (first | (with_reducible first | exact HB.out | apply below_alloc | apply pw_below_drewN | apply below_drew1 | refine below_set ?_ GE227.out) | exact HB.out)⟩
              · rw [if_neg c72] at H
                exact absurd H (by simp)
            · rw [if_neg c71] at H
              exact absurd H (by simp)
          · rw [if_neg c70] at H
            exact absurd H (by simp)
        · rw [if_neg c68] at H
          have c68b0 : decide (0 < (l0_1.length : Int)) = false := decide_eq_false c68
          have c68b1 : decide (0 < l0_1.length) = false := decide_eq_false (by omega)
          clear c68
          obtain rfl := Option.some.inj H
          have hcz74_0 : wr.cell? ⟨gb227, 0, none⟩ = some (.slice A0_0 l0_0.length c0_0) := (blk_cell BK227.out 0).trans rfl
          have hcz74_1 : wr.cell? ⟨gb227, 1, none⟩ = some (.slice A0_1 l0_1.length c0_1) := (blk_cell BK227.out 1).trans rfl
          have hfz74_0 := blk_frozen BK227.out 0
          have hfz74_1 := blk_frozen BK227.out 1
          go_wp2
          go_ret
          exact ⟨by first | rfl | (simp [errW_none, errW_some] <;> rfl) | (simp [*, errW_none, errW_some] <;> rfl), by repeat (first | (with_reducible first | exact HB.out | apply below_alloc | apply pw_below_drewN | apply below_drew1 | refine below_set ?_ GE227.out) | exact HB.out)⟩
end Go.Proofs.YtapdchapjpnceaaGreatDoor.P
end
section
set_option linter.unusedSimpArgs false
set_option linter.unusedVariables false
namespace Go.Proofs.YtapdchapjpnceaaGreatDoor.PrR
open Go.RowKit Go.Lib Go.Proofs.YtapdchapjpnceaaGreatDoorW.PrintWords Go.Proofs.YtapdchapjpnceaaGreatDoor.U Go.Proofs.YtapdchapjpnceaaGreatDoor.P Go.Proofs.YtapdchapjpnceaaGreatDoor.PTh Go.Proofs.YtapdchapjpnceaaGreatDoor.Sc
theorem evPos {α : Type} {c : Prop} [Decidable c] {f g : Nat → Option α} {r : α} (h : c) (k : Ev f r) : Ev (fun n => if c then f n else g n) r := Ev.congr (fun _ => if_pos h) k
theorem evNeg {α : Type} {c : Prop} [Decidable c] {f g : Nat → Option α} {r : α} (h : ¬ c) (k : Ev g r) : Ev (fun n => if c then f n else g n) r := Ev.congr (fun _ => if_neg h) k
theorem lb1 : (⟨#[98, 117, 105, 108, 100]⟩ : ByteArray) = B [98, 117, 105, 108, 100] := rfl
theorem lb2 : (⟨#[58, 32, 114]⟩ : ByteArray) = B [58, 32, 114] := rfl
theorem lb3 : (⟨#[32, 124]⟩ : ByteArray) = B [32, 124] := rfl
theorem lb4 : (⟨#[32, 124, 124]⟩ : ByteArray) = B [32, 124, 124] := rfl
theorem lb5 : (⟨#[10]⟩ : ByteArray) = B [10] := rfl
theorem lb6 : (⟨#[114, 117, 108, 101, 32, 114]⟩ : ByteArray) = B [114, 117, 108, 101, 32, 114] := rfl
theorem lb7 : (⟨#[10, 32, 32, 99, 111, 109, 109, 97, 110, 100, 32, 61, 32]⟩ : ByteArray) = B [10, 32, 32, 99, 111, 109, 109, 97, 110, 100, 32, 61, 32] := rfl
theorem lb8 : (⟨#[32, 32, 100, 101, 112, 102, 105, 108, 101, 32, 61, 32]⟩ : ByteArray) = B [32, 32, 100, 101, 112, 102, 105, 108, 101, 32, 61, 32] := rfl
theorem lb9 : (⟨#[100, 101, 102, 97, 117, 108, 116]⟩ : ByteArray) = B [100, 101, 102, 97, 117, 108, 116] := rfl
theorem tail_bound (xs : List ByteArray) (h : boundN xs = true) : (tailL xs).length ≤ 2001000 := by
  simp only [boundN, Bool.and_eq_true, decide_eq_true_iff] at h
  have := tailL_len xs h.2
  omega
structure Ok (x : S38) : Prop where
  b : boundS (conv x) = true
  p0 : allP x.f0 = true
  p1 : allP x.f1 = true
  p2 : allP x.f2 = true
  p3 : allP x.f3 = true
  ne : x.f0 ≠ []
theorem j1_go (e : List S38) (d : List ByteArray) (i : Nat) (hi : i < 100) (x : S38) (hx : Ok x) (s : List UInt8) (hs : s.length ≤ 1000000000000) (r : ByteArray)
    (hr : Ev (fun k => bellowsref12_Print.l0 k (B (s ++ rowL [98, 117, 105, 108, 100] (x.f0.map toL) ++ [58, 32] ++ ([114] ++ Lib.decDigits i) ++ rowL [] (x.f1.map toL) ++ rowL [32, 124] (x.f2.map toL) ++ rowL [32, 124, 124] (x.f3.map toL) ++ [10])) ((i + 1 : Nat) : Int) e d) r) :
    Ev (fun k => bellowsref12_Print.j1 k (B s) (i : Int) e d x.f0 x.f1 x.f2 x.f3 x.f4 x.f5) r := by
  have hb := hx.b
  simp only [boundS, conv, Bool.and_eq_true, decide_eq_true_iff] at hb
  obtain ⟨⟨⟨⟨⟨h0, h1⟩, h2⟩, h3⟩, h4⟩, h5⟩ := hb
  have t0 := tail_bound x.f0 h0
  have t1 := tail_bound x.f1 h1
  have t2 := tail_bound x.f2 h2
  have t3 := tail_bound x.f3 h3
  have hd := digits_len i hi
  have hD := ref_Digits i hi
  have q0 := ref_row x.f0 h0
  have q1 := ref_row x.f1 h1
  have q2 := ref_row x.f2 h2
  have q3 := ref_row x.f3 h3
  have hw := wrapH i (by omega)
  rw [row_tail _ x.f0 hx.p0, row_tail _ x.f1 hx.p1, row_tail _ x.f2 hx.p2, row_tail _ x.f3 hx.p3, if_neg hx.ne] at hr
  have e1 : (if x.f1 = [] then [] else ([] : List UInt8) ++ tailL x.f1) = tailL x.f1 := by
    by_cases h : x.f1 = []
    · rw [if_pos h, h]; rfl
    · rw [if_neg h, List.nil_append]
  rw [e1] at hr
  refine Ev.unroll ?_
  simp only [bellowsref12_Print.j1, lb1, lb2, lb3, lb4, lb5, hw.out]
  refine Ev.bind q0 ?_
  refine evPos (by simp only [B_append, size_B, List.length_append, List.length_cons, List.length_nil]; omega) (evPos (by simp only [B_append, size_B, List.length_append, List.length_cons, List.length_nil]; omega) (Ev.bind hD (evPos (by simp only [B_append, size_B, List.length_append, List.length_cons, List.length_nil]; omega) (Ev.bind q1 (evPos (by simp only [B_append, size_B, List.length_append, List.length_cons, List.length_nil]; omega) (evPos (by simp only [B_append, size_B, List.length_append, List.length_cons, List.length_nil]; omega) ?_))))))
  by_cases z2 : x.f2 = []
  · have n2 : ¬ ((x.f2.length : Nat) : Int) > 0 := by rw [z2]; simp
    rw [if_pos z2] at hr
    refine evNeg n2 ?_
    by_cases z3 : x.f3 = []
    · have n3 : ¬ ((x.f3.length : Nat) : Int) > 0 := by rw [z3]; simp
      rw [if_pos z3] at hr
      refine evNeg n3 (evPos (by simp only [B_append, size_B, List.length_append, List.length_cons, List.length_nil]; omega) ?_)
      refine Ev.congr (fun k => congrArg (fun a => bellowsref12_Print.l0 k a ((i + 1 : Nat) : Int) e d) ?_) hr
      simp only [B_append]
      congr 2
      simp
    · have n3 : ((x.f3.length : Nat) : Int) > 0 := by have := List.length_pos_iff.2 z3; omega
      rw [if_neg z3] at hr
      refine evPos n3 (Ev.bind q3 (evPos (by simp only [B_append, size_B, List.length_append, List.length_cons, List.length_nil]; omega) (evPos (by simp only [B_append, size_B, List.length_append, List.length_cons, List.length_nil]; omega) (evPos (by simp only [B_append, size_B, List.length_append, List.length_cons, List.length_nil]; omega) ?_))))
      refine Ev.congr (fun k => congrArg (fun a => bellowsref12_Print.l0 k a ((i + 1 : Nat) : Int) e d) ?_) hr
      simp only [B_append]
      congr 2
      simp
  · have n2 : ((x.f2.length : Nat) : Int) > 0 := by have := List.length_pos_iff.2 z2; omega
    rw [if_neg z2] at hr
    refine evPos n2 (Ev.bind q2 (evPos (by simp only [B_append, size_B, List.length_append, List.length_cons, List.length_nil]; omega) (evPos (by simp only [B_append, size_B, List.length_append, List.length_cons, List.length_nil]; omega) ?_)))
    by_cases z3 : x.f3 = []
    · have n3 : ¬ ((x.f3.length : Nat) : Int) > 0 := by rw [z3]; simp
      rw [if_pos z3] at hr
      refine evNeg n3 (evPos (by simp only [B_append, size_B, List.length_append, List.length_cons, List.length_nil]; omega) ?_)
      refine Ev.congr (fun k => congrArg (fun a => bellowsref12_Print.l0 k a ((i + 1 : Nat) : Int) e d) ?_) hr
      simp only [B_append]
      congr 2
      simp
    · have n3 : ((x.f3.length : Nat) : Int) > 0 := by have := List.length_pos_iff.2 z3; omega
      rw [if_neg z3] at hr
      refine evPos n3 (Ev.bind q3 (evPos (by simp only [B_append, size_B, List.length_append, List.length_cons, List.length_nil]; omega) (evPos (by simp only [B_append, size_B, List.length_append, List.length_cons, List.length_nil]; omega) (evPos (by simp only [B_append, size_B, List.length_append, List.length_cons, List.length_nil]; omega) ?_))))
      refine Ev.congr (fun k => congrArg (fun a => bellowsref12_Print.l0 k a ((i + 1 : Nat) : Int) e d) ?_) hr
      simp only [B_append]
      congr 2
      simp
theorem print_go (e : List S38) (d : List ByteArray) (hn : e.length ≤ 99) (hx : ∀ x ∈ e, Ok x) (hd : boundN d = true) (hdp : allP d = true) (m : Nat) : ∀ (i : Nat) (s : List UInt8), i + m = e.length → s.length ≤ i * 10000000 →
    Ev (fun k => bellowsref12_Print.l0 k (B s) (i : Int) e d) (B (s ++ edgesL i ((e.drop i).map conv) ++ defL d)) := by
  induction m with
  | zero =>
    intro i s hi hs
    have n1 : ¬ (i : Int) < (e.length : Int) := by omega
    rw [List.drop_of_length_le (by omega)]
    refine Ev.unroll ?_
    simp only [bellowsref12_Print.l0, lb5, lb9]
    refine evNeg n1 ?_
    show Ev _ (B (s ++ [] ++ defL d))
    rw [List.append_nil]
    by_cases hz : d = []
    · have n2 : ¬ ((d.length : Nat) : Int) > 0 := by rw [hz]; simp
      refine evNeg n2 ?_
      rw [defL, if_pos hz, List.append_nil]
      exact Ev.now _
    · have n2 : ((d.length : Nat) : Int) > 0 := by have := List.length_pos_iff.2 hz; omega
      have ht := tail_bound d hd
      refine evPos n2 (Ev.bind (ref_row d hd) (evPos (by simp only [B_append, size_B, List.length_append, List.length_cons, List.length_nil]; omega) (evPos (by simp only [B_append, size_B, List.length_append, List.length_cons, List.length_nil]; omega) (evPos (by simp only [B_append, size_B, List.length_append, List.length_cons, List.length_nil]; omega) ?_))))
      rw [defL, if_neg hz, row_tail _ d hdp, if_neg hz]
      refine Ev.eqn (Ev.now _) ?_
      simp only [B_append, List.append_assoc]
  | succ m ih =>
    intro i s hi hs
    have hlt : i < e.length := by omega
    have i1 : (i : Int) < (e.length : Int) := by omega
    have i2 : (0 : Int) ≤ (i : Int) := by omega
    have hox := hx e[i] (List.getElem_mem hlt)
    have hel := edge_len i (conv e[i]) (by omega) hox.b
    have hr := ih (i + 1) (s ++ edgeL i (conv e[i])) (by omega) (by rw [List.length_append]; omega)
    have hdr : s ++ edgesL i ((e.drop i).map conv) = s ++ edgeL i (conv e[i]) ++ edgesL (i + 1) ((e.drop (i + 1)).map conv) := by
      rw [List.drop_eq_getElem_cons hlt, List.map_cons, edgesL, List.append_assoc]
    rw [hdr]
    refine Ev.unroll ?_
    simp only [bellowsref12_Print.l0, lb5, lb6, lb7, lb8, rd38 e i hlt]
    generalize e[i] = x at *
    generalize B (s ++ edgeL i (conv x) ++ edgesL (i + 1) ((e.drop (i + 1)).map conv) ++ defL d) = r at *
    have hb := hox.b
    simp only [boundS, conv, Bool.and_eq_true, decide_eq_true_iff] at hb
    obtain ⟨⟨⟨⟨⟨h0, h1⟩, h2⟩, h3⟩, h4⟩, h5⟩ := hb
    replace h4 : x.f4.size ≤ 100000 := of_decide_eq_true h4
    replace h5 : x.f5.size ≤ 100000 := of_decide_eq_true h5
    have hD5 : depL (conv x) = if toL x.f5 = [] then [] else [32, 32, 100, 101, 112, 102, 105, 108, 101, 32, 61, 32] ++ escL (toL x.f5) ++ [10] := rfl
    have hH4 : headL i (conv x) = [114, 117, 108, 101, 32] ++ ([114] ++ Lib.decDigits i) ++ [10, 32, 32, 99, 111, 109, 109, 97, 110, 100, 32, 61, 32] ++ escL (toL x.f4) ++ [10] := rfl
    have g4 := escL_le (toL x.f4)
    have g5 := escL_le (toL x.f5)
    rw [toL_length] at g4 g5
    have hd := digits_len i (by omega)
    have hdep : (depL (conv x)).length ≤ 200013 := by
      rw [hD5]
      split
      · simp
      · simp only [List.length_append, List.length_cons, List.length_nil]; omega
    have hhd : (headL i (conv x)).length ≤ 200100 := by
      rw [hH4]; simp only [List.length_append, List.length_cons, List.length_nil]; omega
    refine evPos i1 (evPos i2 (Ev.bind (ref_Digits i (by omega)) (evPos (by simp only [B_append, size_B, List.length_append, List.length_cons, List.length_nil]; omega) (evPos (by simp only [B_append, size_B, List.length_append, List.length_cons, List.length_nil]; omega) (Ev.bind (ref_Escape x.f4 (by omega)) (evPos (by simp only [B_append, size_B, List.length_append, List.length_cons, List.length_nil]; omega) (evPos (by simp only [B_append, size_B, List.length_append, List.length_cons, List.length_nil]; omega) (evPos (by simp only [B_append, size_B, List.length_append, List.length_cons, List.length_nil]; omega) ?_))))))))
    have J := j1_go e d i (by omega) x hox (s ++ headL i (conv x) ++ depL (conv x)) (by rw [List.length_append, List.length_append]; omega) r (by
      refine Ev.congr (fun k => congrArg (fun a => bellowsref12_Print.l0 k (B a) ((i + 1 : Nat) : Int) e d) ?_) hr
      simp only [edgeL, conv, List.append_assoc])
    simp only [toL_eq]
    by_cases hz : toL x.f5 = []
    · refine evPos hz ?_
      refine Ev.congr (fun k => congrArg (fun a => bellowsref12_Print.j1 k a (i : Int) e d x.f0 x.f1 x.f2 x.f3 x.f4 x.f5) ?_) J
      simp only [B_append]
      rw [hD5, hH4, if_pos hz]
      simp
    · refine evNeg hz (Ev.bind (ref_Escape x.f5 (by omega)) (evPos (by simp only [B_append, size_B, List.length_append, List.length_cons, List.length_nil]; omega) (evPos (by simp only [B_append, size_B, List.length_append, List.length_cons, List.length_nil]; omega) (evPos (by simp only [B_append, size_B, List.length_append, List.length_cons, List.length_nil]; omega) ?_))))
      refine Ev.congr (fun k => congrArg (fun a => bellowsref12_Print.j1 k a (i : Int) e d x.f0 x.f1 x.f2 x.f3 x.f4 x.f5) ?_) J
      simp only [B_append]
      rw [hD5, hH4, if_neg hz]
      simp
theorem ref_PrintM (e : List S38) (d : List ByteArray) (hn : e.length ≤ 99) (hx : ∀ x ∈ e, Ok x) (hd : boundN d = true) (hdp : allP d = true) :
    Ev (fun k => bellowsref12_Print.f k e d) (B (edgesL 0 (e.map conv) ++ defL d)) := by
  have := print_go e d hn hx hd hdp e.length 0 [] (by omega) (by simp)
  rw [List.drop_zero, List.nil_append] at this
  exact this
end Go.Proofs.YtapdchapjpnceaaGreatDoor.PrR
end
