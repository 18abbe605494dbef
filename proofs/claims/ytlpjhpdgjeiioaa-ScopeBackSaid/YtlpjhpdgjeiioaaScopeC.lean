/- What stands behind a dollar. -/
import Derived.Test.YtlpjhpdgjeiioaaScopeB
import Derived.Test.YtlpjhpdgjeiioaaScopeRune
set_option linter.unusedSimpArgs false
set_option linter.unusedVariables false
namespace Go.Proofs.Ytlpjhpdgjeiioaa.Sc
open Go.RowKit Go.Lib Go.Shelf Go.Proofs.YtlpjhpdgjeiioaaW.PrintWords Go.Proofs.Ytlpjhpdgjeiioaa.U Go.Proofs.Ytlpjhpdgjeiioaa.Idx

def dollarL (L : List Lev) : Txt → Txt × Txt × Bool
  | [] => ([], [], false)
  | c :: r => if escR c.toNat = true then ([c], r, true) else if c = 123 then (getL L (cutL 125 r).1, (cutL 125 r).2.1, (cutL 125 r).2.2 && nameL (cutL 125 r).1) else
      (getL L ((c :: r).takeWhile shortB), (c :: r).dropWhile shortB, decide ((c :: r).takeWhile shortB ≠ []))
theorem cutL_len (c : UInt8) (l : Txt) : (cutL c l).1.length ≤ l.length ∧ (cutL c l).2.1.length ≤ l.length := by
  induction l with
  | nil => simp [cutL]
  | cons b l ih =>
    rw [cutL]
    split
    · simp
    · simp; omega
theorem take_drop_while (f : UInt8 → Bool) (l : Txt) : l.take (l.takeWhile f).length = l.takeWhile f ∧ l.drop (l.takeWhile f).length = l.dropWhile f := by
  induction l with
  | nil => simp
  | cons b l ih =>
    by_cases h : f b = true
    · simp [List.takeWhile_cons, List.dropWhile_cons, h, ih]
    · simp [List.takeWhile_cons, List.dropWhile_cons, h]

theorem takeWhile_all (f : UInt8 → Bool) (l : Txt) (h : l.all f = true) : l.takeWhile f = l := by
  induction l with
  | nil => rfl
  | cons b l ih =>
    rw [List.all_cons, Bool.and_eq_true] at h
    rw [List.takeWhile_cons, if_pos h.1, ih h.2]

set_option maxRecDepth 100000 in
set_option maxHeartbeats 1000000 in
theorem dollar_any (L : List Lev) (v : Value) (rest : Txt) (hl : rest.length < 4611686018427387904) (w : World) (hC : Chain w L v) :
    Calls Try.prog 24 #[v, .string (B rest)] w fun e w' => e = .returned (.tuple #[.string (B (dollarL L rest).1), .string (B (dollarL L rest).2.1), .bool (dollarL L rest).2.2]) ∧ Below w.heap.size w w' := by
  cases rest with
  | nil =>
    go_enter Try.func24, Try.ntmps24
    go_wp2_with fail
    exact bodyPost_ret (v := .tuple #[.string (B []), .string (B []), .bool false]) (by simp [results, Try.results24, go_sem]) rfl ⟨rfl, Below.refl _ _⟩
  | cons c r =>
    simp only [List.length_cons] at hl
    have h0 : ∀ h : 0 < (B (c :: r)).size, (((B (c :: r))[0]'h).toNat : Int) = (c.toNat : Int) := fun h => rfl
    have hsB : (B (c :: r)).size = r.length + 1 := by rw [size_B]; rfl
    have hne2 : (B (c :: r)).toList.isEmpty = false := by rw [toList_B]; rfl
    have hcr := c.toNat_lt
    have hE := Lib.hid (contains_esc c.toNat c.toNat_lt)
    cases he : escR c.toNat with
    | true =>
      rw [he] at hE
      have hd : dollarL L (c :: r) = ([c], r, true) := by rw [dollarL, if_pos he]
      rw [hd]
      have e1 : (B (c :: r)).extract 0 1 = B [c] := by rw [extract_B]; rfl
      have e2 : (B (c :: r)).extract 1 (r.length + 1) = B r := by rw [extract_B]; simp
      have E1 := Lib.hid e1
      have E2 := Lib.hid e2
      clear e1 e2 he hd
      go_enter Try.func24, Try.ntmps24
      go_wp2_with fail
      refine (hE.out _).mono ?_
      rintro e w' ⟨rfl, hb⟩
      go_wp2_with fail
      go_region
      go_wp2_with fail
      rw [E1.out, E2.out]
      exact bodyPost_ret (v := .tuple #[.string (B [c]), .string (B r), .bool true]) (by simp [results, Try.results24, go_sem]) rfl ⟨rfl, hb.drew⟩
    | false =>
      rw [he] at hE
      by_cases h123 : c = 123
      · subst h123
        have hlen := cutL_len 125 r
        have hCut := Lib.hid (fun W => cut_any 125 r (by omega) W)
        have hGet := Lib.hid (fun (W : World) (hW : Chain W L v) => Get_any L v (cutL 125 r).1 (by unfold maxLen; omega) W hW)
        have hName := Lib.hid (fun W => Name_any (cutL 125 r).1 W)
        have hd : dollarL L (123 :: r) = (getL L (cutL 125 r).1, (cutL 125 r).2.1, (cutL 125 r).2.2 && nameL (cutL 125 r).1) := by rw [dollarL, he]; simp
        rw [hd]
        have e2 : (B (123 :: r)).extract 1 (r.length + 1) = B r := by rw [extract_B]; simp
        have hCC := Lib.hid hC
        clear he hd hC hlen
        generalize (cutL 125 r).1 = nm at *
        generalize (cutL 125 r).2.1 = lf at *
        generalize (cutL 125 r).2.2 = cl at *
        cases cl with
        | false =>
          go_enter Try.func24, Try.ntmps24
          go_wp2_with fail
          refine (hE.out _).mono ?_
          rintro e w1 ⟨rfl, hb1⟩
          go_wp2_with fail
          refine (hCut.out _).mono ?_
          rintro e w2 ⟨rfl, hb2⟩
          go_wp2_with fail
          refine (hGet.out _ ((hCC.out.below hb1).below hb2)).mono ?_
          rintro e w3 ⟨rfl, rfl⟩
          go_wp2_with fail
          exact bodyPost_ret (v := .tuple #[.string (B (getL L nm)), .string (B lf), .bool false]) (by simp [results, Try.results24, go_sem]) rfl ⟨rfl, hb1.next hb2⟩
        | true =>
          go_enter Try.func24, Try.ntmps24
          go_wp2_with fail
          refine (hE.out _).mono ?_
          rintro e w1 ⟨rfl, hb1⟩
          go_wp2_with fail
          refine (hCut.out _).mono ?_
          rintro e w2 ⟨rfl, hb2⟩
          go_wp2_with fail
          refine (hGet.out _ ((hCC.out.below hb1).below hb2)).mono ?_
          rintro e w3 ⟨rfl, rfl⟩
          go_wp2_with fail
          refine (hName.out _).mono ?_
          rintro e w4 ⟨rfl, hb4⟩
          go_wp2_with fail
          exact bodyPost_ret (v := .tuple #[.string (B (getL L nm)), .string (B lf), .bool (nameL nm)]) (by simp [results, Try.results24, go_sem]) rfl ⟨by simp, (hb1.next hb2).next hb4⟩
      · have n123 : ((c.toNat : Int) == 123) = false := by rw [beq_eq_false_iff_ne]; exact byte_ne (d := 123) h123
        have hd : dollarL L (c :: r) = (getL L ((c :: r).takeWhile shortB), (c :: r).dropWhile shortB, decide ((c :: r).takeWhile shortB ≠ [])) := by rw [dollarL, he]; simp [h123]
        rw [hd]
        have hI := Lib.hid (fun W => Try.strings_IndexFunc_grows 37 #[] (fun args w => by kernel_rfl) (fun c => !shortR c) (B (c :: r)) W (notshort_grows W))
        have hi := idx_func shortR shortR_beyond' (c :: r)
        have hti : (fun b : UInt8 => shortR b.toNat) = shortB := rfl
        rw [hti] at hi
        rw [hi] at hI
        obtain ⟨ht1, ht2⟩ := take_drop_while shortB (c :: r)
        have htl : ((c :: r).takeWhile shortB).length ≤ r.length + 1 := by
          have := congrArg List.length ht1
          rw [List.length_take, List.length_cons] at this
          omega
        have hGet := Lib.hid (fun (W : World) (hW : Chain W L v) => Get_any L v ((c :: r).takeWhile shortB) (by unfold maxLen; omega) W hW)
        have hCC := Lib.hid hC
        clear hi hti hd he hC
        obtain ⟨n, hn⟩ : ∃ n, ((c :: r).takeWhile shortB).length = n := ⟨_, rfl⟩
        have hpos : decide ((c :: r).takeWhile shortB ≠ []) = decide (0 < n) := by
          rw [← hn]
          congr 1
          exact propext (List.length_pos_iff.symm)
        rw [hpos]
        have e1 : (B (c :: r)).extract 0 n = B ((c :: r).takeWhile shortB) := by rw [extract_B, ← hn, ht1]; simp
        have e2 : (B (c :: r)).extract n (r.length + 1) = B ((c :: r).dropWhile shortB) := by rw [extract_B, ← hn, ← ht2, List.take_of_length_le (by simp)]
        have E2 := Lib.hid e2
        rw [hn] at htl
        rw [← e1] at hGet
        have fin : ∀ i : Int, (i = -1 ∧ n = r.length + 1) ∨ i = (n : Int) → Hid (∀ W, Calls Try.prog 36 #[.string (B (c :: r)), .func (.func 37) #[] #[]] W fun e w' => e = .returned (.int .i64 i) ∧ Below W.heap.size W w') →
            Calls Try.prog 24 #[v, .string (B (c :: r))] w fun e w' => e = .returned (.tuple #[.string (B (getL L ((c :: r).takeWhile shortB))), .string (B ((c :: r).dropWhile shortB)), .bool (decide (0 < n))]) ∧ Below w.heap.size w w' := by
          intro i hi hI
          generalize (c :: r).takeWhile shortB = nm at *
          generalize (c :: r).dropWhile shortB = lf at *
          clear e1 e2 ht1 ht2 hn hpos
          have hnn : ((n : Int) ≤ ((r.length + 1 : Nat) : Int)) = True := eq_true (by omega)
          rcases hi with ⟨rfl, rfl⟩ | rfl
          · have hlf : ByteArray.empty = B lf := by
              have := E2.out
              simpa using this
            have hd : decide (0 < r.length + 1) = true := by simp
            rw [hd]
            go_enter Try.func24, Try.ntmps24
            go_wp2_with fail
            refine (hE.out _).mono ?_
            rintro e w1 ⟨rfl, hb1⟩
            go_wp2_with fail
            refine (hI.out _).mono ?_
            rintro e w2 ⟨rfl, hb2⟩
            go_wp2_with fail
            have hCh := Lib.hid ((hCC.out.below hb1).below hb2)
            go_region_with (go_at_call 13; refine (hGet.out _ (hCh.out.same (by intro s hs; exact ⟨rfl, rfl⟩))).mono ?_; rintro e w3 ⟨rfl, rfl⟩)
            all_goals go_wp2_with fail
            all_goals go_simp
            all_goals exact bodyPost_ret (v := .tuple #[.string (B (getL L nm)), .string (B lf), .bool true]) (by simp [results, Try.results24, go_sem]) rfl ⟨rfl, (hb1.next hb2).drew⟩
          · have hneg : decide ((n : Int) < 0) = false := by rw [decide_eq_false_iff_not]; omega
            go_enter Try.func24, Try.ntmps24
            go_wp2_with fail
            refine (hE.out _).mono ?_
            rintro e w1 ⟨rfl, hb1⟩
            go_wp2_with fail
            refine (hI.out _).mono ?_
            rintro e w2 ⟨rfl, hb2⟩
            go_wp2_with fail
            have hCh := Lib.hid ((hCC.out.below hb1).below hb2)
            go_region_with (go_at_call 13; refine (hGet.out _ (hCh.out.same (by intro s hs; exact ⟨rfl, rfl⟩))).mono ?_; rintro e w3 ⟨rfl, rfl⟩)
            all_goals go_wp2_with fail
            all_goals go_simp
            all_goals (rw [E2.out]; exact bodyPost_ret (v := .tuple #[.string (B (getL L nm)), .string (B lf), .bool (decide (0 < n))]) (by simp [results, Try.results24, go_sem]) rfl ⟨rfl, (hb1.next hb2).drew⟩)
        refine fin _ ?_ hI
        split
        · rename_i h
          refine .inl ⟨rfl, ?_⟩
          rw [← hn, takeWhile_all _ _ h]; rfl
        · exact .inr (by rw [hn])
end Go.Proofs.Ytlpjhpdgjeiioaa.Sc
