/- scope.Expand. -/
import Derived.Test.YtlpjhpdgjeiioaaScopeC
import Derived.Test.YtlpjhpdgjeiioaaBuild
set_option linter.unusedSimpArgs false
set_option linter.unusedVariables false
namespace Go.Proofs.Ytlpjhpdgjeiioaa.Sc
open Go.RowKit Go.Lib Go.Shelf Go.Proofs.YtlpjhpdgjeiioaaW.PrintWords Go.Proofs.Ytlpjhpdgjeiioaa.U Go.Proofs.Ytlpjhpdgjeiioaa.Idx Go.Proofs.Ytlpjhpdgjeiioaa.Bld

def expGo (L : List Lev) : Nat → Txt → Txt → Bool → Option (Txt × Bool)
  | 0, _, _, _ => none
  | f + 1, text, out, long =>
    if (cutL 36 text).2.2 = false then some (out ++ (cutL 36 text).1, long) else
    if (dollarL L (cutL 36 text).2.1).2.2 = false then none else
    if long = true ∨ 16384 < (out ++ (cutL 36 text).1).length + (dollarL L (cutL 36 text).2.1).1.length then expGo L f (dollarL L (cutL 36 text).2.1).2.1 (out ++ (cutL 36 text).1) true
    else expGo L f (dollarL L (cutL 36 text).2.1).2.1 (out ++ (cutL 36 text).1 ++ (dollarL L (cutL 36 text).2.1).1) false
def finL : Option (Txt × Bool) → Txt × Int
  | none => ([], 10)
  | some (out, long) => if long = true ∨ 16384 < out.length then ([], 3) else (out, 0)
def expandL (L : List Lev) (text : Txt) : Txt × Int := finL (expGo L (text.length + 1) text [] false)

theorem dollarL_len (L : List Lev) (rest : Txt) : (dollarL L rest).2.1.length ≤ rest.length := by
  cases rest with
  | nil => simp [dollarL]
  | cons c r =>
    rw [dollarL]
    split
    · simp
    · split
      · have := cutL_len 125 r
        simp; omega
      · show ((c :: r).dropWhile shortB).length ≤ _
        exact (List.dropWhile_sublist _).length_le
theorem dollarL_own (L : List Lev) (hT : ∀ k, (getL L k).length < 1000000000) (rest : Txt) : (dollarL L rest).1.length < 1000000000 := by
  cases rest with
  | nil => simp [dollarL]
  | cons c r =>
    rw [dollarL]
    split
    · simp
    · split
      · exact hT _
      · exact hT _
theorem cutL_some_len (c : UInt8) (l : Txt) (h : (cutL c l).2.2 = true) : (cutL c l).1.length + 1 + (cutL c l).2.1.length = l.length := by
  induction l with
  | nil => simp [cutL] at h
  | cons b l ih =>
    rw [cutL] at h ⊢
    split at h
    · rename_i hb; rw [if_pos hb]; simp; omega
    · rename_i hb; rw [if_neg hb]; have := ih h; simp; omega
theorem expGo_succ (L : List Lev) (f : Nat) (text out : Txt) (long : Bool) {pl rs ow lf : Txt} {is ok : Bool} (h1 : cutL 36 text = (pl, rs, is)) (h2 : dollarL L rs = (ow, lf, ok)) :
    expGo L (f + 1) text out long = if is = false then some (out ++ pl, long) else if ok = false then none else
      if long = true ∨ 16384 < (out ++ pl).length + ow.length then expGo L f lf (out ++ pl) true else expGo L f lf (out ++ pl ++ ow) false := by
  rw [expGo, h1]
  simp only
  rw [h2]
theorem Len_any (B0 b : Nat) (l : Txt) (w : World) (h : IsB B0 b l w) : Calls Try.prog 25 #[.pointer (some ⟨b, 0, none⟩)] w fun e w' => e = .returned (.int .i64 (l.length : Int)) ∧ w = w' := by
  refine (Try.Builder_Len B0 b (Lib.byteCells l) w h).mono ?_
  rintro e w' ⟨rfl, rfl⟩
  exact ⟨by simp [Lib.byteCells], rfl⟩
theorem isB_below {B0 b : Nat} {l : Txt} {w w' : World} (h : IsB B0 b l w) (hb : Below w.heap.size w w') : IsB B0 b l w' := by
  have key : ∀ p, Lib.BuilderAt 53 5 B0 b p (Lib.byteCells l) w → Lib.BuilderAt 53 5 B0 b p (Lib.byteCells l) w' := by
    intro p h
    have hlt := h.lt
    obtain ⟨h1, v, h2, h3, h4⟩ := h
    refine ⟨h1, v, (hb.block _ hlt).trans h2, ?_, h4⟩
    exact h3.kept (row := none) ⟨hb.os, hb.tape, hb.output, hb.size, fun k hk _ => hb.block k hk⟩ (Classical.em _)
  rcases h with h | h
  · exact .inl (key _ h)
  · exact .inr (key _ h)

set_option maxRecDepth 100000 in
set_option maxHeartbeats 4000000 in
theorem Expand_any (L : List Lev) (v : Value) (text : Txt) (hl : text.length < 1000000000) (hT : ∀ k, (getL L k).length < 1000000000) (w : World) (hC : Chain w L v) :
    Calls Try.prog 11 #[v, .string (B text)] w fun e w' => e = .returned (.tuple #[.string (B (expandL L text).1), .int .i64 (expandL L text).2]) ∧ Below w.heap.size w w' := by
  obtain ⟨R, hR⟩ : ∃ R, expandL L text = R := ⟨_, rfl⟩
  rw [hR]
  have HR := Lib.hid hR
  have hCC := Lib.hid hC
  clear hR hC
  go_enter Try.func11, Try.ntmps11
  go_wp2
  go_loopg [1, 7] text.length (fun gk s1 s7 wr => ∃ (tx out : Txt) (lg : Bool), s1 = .string (B tx) ∧ s7 = .bool lg ∧ tx.length ≤ gk ∧ tx.length < 1000000000 ∧ out.length + tx.length < 1000020000 ∧
      Hid (finL (expGo L (gk + 1) tx out lg) = R) ∧ Hid (IsB w.heap.size w.heap.size out wr) ∧ Hid (Below w.heap.size w wr))
  case atStart =>
    refine ⟨text, [], false, rfl, rfl, Nat.le_refl _, hl, by simp; omega, HR.out, ?_, (Below.refl _ w).alloc (Nat.le_refl _) _⟩
    refine .inl ⟨Nat.le_refl _, .slice none 0 0, heap_alloc_new _ _, own_nil _ _ _ _, by simp [Value.ownBlock]⟩
  case round =>
    obtain ⟨tx, out, lg, rfl, rfl, hgk, htl, hol, hG, hI, hB⟩ := hrel
    have hCut := Lib.hid (fun W => cut_any 36 tx (by omega) W)
    obtain ⟨pl, rs, is, hcut⟩ : ∃ pl rs is, cutL 36 tx = (pl, rs, is) := ⟨_, _, _, rfl⟩
    obtain ⟨ow, lf, ok, hdol⟩ : ∃ ow lf ok, dollarL L rs = (ow, lf, ok) := ⟨_, _, _, rfl⟩
    have hexp := expGo_succ L gk tx out lg hcut hdol
    have hE := Lib.hid hexp
    clear hexp
    have hpl : pl.length ≤ tx.length ∧ rs.length ≤ tx.length := by
      have := cutL_len 36 tx
      rw [hcut] at this
      exact this
    have hsum : is = true → pl.length + 1 + rs.length = tx.length := by
      have := cutL_some_len 36 tx
      rw [hcut] at this
      exact this
    have hlf : lf.length ≤ rs.length := by
      have := dollarL_len L rs
      rw [hdol] at this
      exact this
    have how : ow.length < 1000000000 := by
      have := dollarL_own L hT rs
      rw [hdol] at this
      exact this
    rw [hcut] at hCut
    have hDol := Lib.hid (fun (W : World) (hW : Chain W L v) => dollar_any L v rs (by omega) W hW)
    rw [hdol] at hDol
    have hWr := Lib.hid (fun (W : World) (h : IsB w.heap.size w.heap.size out W) (hb : Below w.heap.size w W) => write w.heap.size w.heap.size out pl W h (by omega) hb.size)
    have hWo := Lib.hid (fun (W : World) (h : IsB w.heap.size w.heap.size (out ++ pl) W) (hb : Below w.heap.size w W) => write w.heap.size w.heap.size (out ++ pl) ow W h (by rw [List.length_append]; omega) hb.size)
    have hLn := Lib.hid (fun (W : World) (h : IsB w.heap.size w.heap.size (out ++ pl) W) => Len_any w.heap.size w.heap.size (out ++ pl) W h)
    have hSt := Lib.hid (fun (W : World) (h : IsB w.heap.size w.heap.size (out ++ pl) W) (hb : Below w.heap.size w W) => Try.Builder_String_any w.heap.size w.heap.size (out ++ pl) W h hb.size)
    have hopl : (out ++ pl).length ≤ 1000020000 := by rw [List.length_append]; omega
    obtain ⟨N, hN⟩ : ∃ N, (out ++ pl).length = N := ⟨_, rfl⟩
    have hows : (B ow).size = ow.length := size_B ow
    rw [hN] at hopl
    simp only [hN] at hLn
    clear hcut hdol
    cases is with
    | false =>
      cases lg with
      | true =>
        have hfin : Hid (R = ([], 3)) := by
          rw [← hG.out, hE.out]; rfl
        go_wp2_with fail
        refine (hCut.out _).mono ?_
        rintro e w1 ⟨rfl, hb1⟩
        have hI1 := Lib.hid (isB_below hI.out hb1)
        have hB1 := Lib.hid (hB.out.trans (hb1.mono hB.out.size))
        go_wp2_with fail
        refine (hWr.out _ hI1.out hB1.out).mono ?_
        rintro e w2 ⟨rfl, hi2, hb2⟩
        have hI2 := Lib.hid hi2
        have hB2 := Lib.hid (hB1.out.trans hb2)
        clear hi2 hb1 hb2
        go_wp2_with fail
        go_ret2
        rw [hfin.out]
        exact ⟨rfl, hB2.out⟩
      | false =>
        by_cases hbig : 16384 < N
        · have hfin : Hid (R = ([], 3)) := by
            show R = _
            rw [← hG.out, hE.out]; simp [finL, hN, hbig]
          have hd : decide ((16384 : Int) < (N : Int)) = true := by rw [decide_eq_true_iff]; omega
          go_wp2_with fail
          refine (hCut.out _).mono ?_
          rintro e w1 ⟨rfl, hb1⟩
          have hI1 := Lib.hid (isB_below hI.out hb1)
          have hB1 := Lib.hid (hB.out.trans (hb1.mono hB.out.size))
          go_wp2_with fail
          refine (hWr.out _ hI1.out hB1.out).mono ?_
          rintro e w2 ⟨rfl, hi2, hb2⟩
          have hI2 := Lib.hid hi2
          have hB2 := Lib.hid (hB1.out.trans hb2)
          clear hi2 hb1 hb2
          go_wp2_with fail
          refine (hLn.out _ hI2.out).mono ?_
          rintro e w3 ⟨rfl, rfl⟩
          go_wp2_with fail
          go_ret2
          rw [hfin.out]
          exact ⟨rfl, hB2.out⟩
        · have hfin : Hid (R = (out ++ pl, 0)) := by
            show R = _
            rw [← hG.out, hE.out]; simp [finL, hN, hbig]
          have hd : decide ((16384 : Int) < (N : Int)) = false := by rw [decide_eq_false_iff_not]; omega
          go_wp2_with fail
          refine (hCut.out _).mono ?_
          rintro e w1 ⟨rfl, hb1⟩
          have hI1 := Lib.hid (isB_below hI.out hb1)
          have hB1 := Lib.hid (hB.out.trans (hb1.mono hB.out.size))
          go_wp2_with fail
          refine (hWr.out _ hI1.out hB1.out).mono ?_
          rintro e w2 ⟨rfl, hi2, hb2⟩
          have hI2 := Lib.hid hi2
          have hB2 := Lib.hid (hB1.out.trans hb2)
          clear hi2 hb1 hb2
          go_wp2_with fail
          refine (hLn.out _ hI2.out).mono ?_
          rintro e w3 ⟨rfl, rfl⟩
          go_wp2_with fail
          refine (hSt.out _ hI2.out hB2.out).mono ?_
          rintro e w3 ⟨rfl, hb3⟩
          have hB3 := Lib.hid (hB2.out.trans hb3)
          clear hb3
          go_wp2_with fail
          go_ret2
          rw [hfin.out]
          exact ⟨rfl, hB3.out⟩
    | true =>
      cases ok with
      | false =>
        have hfin : Hid (R = ([], 10)) := by
          rw [← hG.out, hE.out]; rfl
        go_wp2_with fail
        refine (hCut.out _).mono ?_
        rintro e w1 ⟨rfl, hb1⟩
        have hI1 := Lib.hid (isB_below hI.out hb1)
        have hB1 := Lib.hid (hB.out.trans (hb1.mono hB.out.size))
        go_wp2_with fail
        refine (hWr.out _ hI1.out hB1.out).mono ?_
        rintro e w2 ⟨rfl, hi2, hb2⟩
        have hI2 := Lib.hid hi2
        have hB2 := Lib.hid (hB1.out.trans hb2)
        clear hi2 hb1 hb2
        go_wp2_with fail
        refine (hDol.out _ (hCC.out.below hB2.out)).mono ?_
        rintro e w3 ⟨rfl, hb3⟩
        have hB3 := Lib.hid (hB2.out.trans (hb3.mono hB2.out.size))
        clear hb3
        go_wp2_with fail

        go_ret2
        rw [hfin.out]
        exact ⟨rfl, hB3.out⟩
      | true =>
        have hs := hsum rfl
        cases gk with
        | zero => omega
        | succ gk =>
        cases lg with
        | true =>
          have hG' : Hid (finL (expGo L (gk + 1) lf (out ++ pl) true) = R) := by
            have := hG.out
            rw [hE.out] at this
            show finL _ = R
            simpa using this
          go_wp2_with fail
          refine (hCut.out _).mono ?_
          rintro e w1 ⟨rfl, hb1⟩
          have hI1 := Lib.hid (isB_below hI.out hb1)
          have hB1 := Lib.hid (hB.out.trans (hb1.mono hB.out.size))
          go_wp2_with fail
          refine (hWr.out _ hI1.out hB1.out).mono ?_
          rintro e w2 ⟨rfl, hi2, hb2⟩
          have hI2 := Lib.hid hi2
          have hB2 := Lib.hid (hB1.out.trans hb2)
          clear hi2 hb1 hb2
          go_wp2_with fail
          refine (hDol.out _ (hCC.out.below hB2.out)).mono ?_
          rintro e w3 ⟨rfl, hb3⟩
          have hB3 := Lib.hid (hB2.out.trans (hb3.mono hB2.out.size))
          have hI3 := Lib.hid (isB_below hI2.out hb3)
          clear hb3
          go_wp2_with fail
          go_roundg gk
          case measure => omega
          case rel => exact ⟨lf, out ++ pl, true, rfl, rfl, by omega, by omega, by rw [hN]; rw [List.length_append] at hN; omega, hG', hI3, hB3⟩
        | false =>
          by_cases hbig : 16384 < N + ow.length
          · have hG' : Hid (finL (expGo L (gk + 1) lf (out ++ pl) true) = R) := by
              have := hG.out
              rw [hE.out] at this
              show finL _ = R
              simpa [hN, hbig] using this
            have hd : decide ((16384 : Int) < (N : Int) + (ow.length : Int)) = true := by rw [decide_eq_true_iff]; omega
            go_wp2_with fail
            refine (hCut.out _).mono ?_
            rintro e w1 ⟨rfl, hb1⟩
            have hI1 := Lib.hid (isB_below hI.out hb1)
            have hB1 := Lib.hid (hB.out.trans (hb1.mono hB.out.size))
            go_wp2_with fail
            refine (hWr.out _ hI1.out hB1.out).mono ?_
            rintro e w2 ⟨rfl, hi2, hb2⟩
            have hI2 := Lib.hid hi2
            have hB2 := Lib.hid (hB1.out.trans hb2)
            clear hi2 hb1 hb2
            go_wp2_with fail
            refine (hDol.out _ (hCC.out.below hB2.out)).mono ?_
            rintro e w3 ⟨rfl, hb3⟩
            have hB3 := Lib.hid (hB2.out.trans (hb3.mono hB2.out.size))
            have hI3 := Lib.hid (isB_below hI2.out hb3)
            clear hb3
            go_wp2_with fail
            refine (hLn.out _ hI3.out).mono ?_
            rintro e w4 ⟨rfl, rfl⟩
            go_wp2_with fail
            go_roundg gk
            case measure => omega
            case rel => exact ⟨lf, out ++ pl, true, rfl, rfl, by omega, by omega, by rw [hN]; rw [List.length_append] at hN; omega, hG', hI3, hB3⟩
          · have hG' : Hid (finL (expGo L (gk + 1) lf (out ++ pl ++ ow) false) = R) := by
              have := hG.out
              rw [hE.out] at this
              show finL _ = R
              simpa [hN, hbig] using this
            have hd : decide ((16384 : Int) < (N : Int) + (ow.length : Int)) = false := by rw [decide_eq_false_iff_not]; omega
            go_wp2_with fail
            refine (hCut.out _).mono ?_
            rintro e w1 ⟨rfl, hb1⟩
            have hI1 := Lib.hid (isB_below hI.out hb1)
            have hB1 := Lib.hid (hB.out.trans (hb1.mono hB.out.size))
            go_wp2_with fail
            refine (hWr.out _ hI1.out hB1.out).mono ?_
            rintro e w2 ⟨rfl, hi2, hb2⟩
            have hI2 := Lib.hid hi2
            have hB2 := Lib.hid (hB1.out.trans hb2)
            clear hi2 hb1 hb2
            go_wp2_with fail
            refine (hDol.out _ (hCC.out.below hB2.out)).mono ?_
            rintro e w3 ⟨rfl, hb3⟩
            have hB3 := Lib.hid (hB2.out.trans (hb3.mono hB2.out.size))
            have hI3 := Lib.hid (isB_below hI2.out hb3)
            clear hb3
            go_wp2_with fail
            refine (hLn.out _ hI3.out).mono ?_
            rintro e w4 ⟨rfl, rfl⟩
            go_wp2_with fail
            refine (hWo.out _ hI3.out hB3.out).mono ?_
            rintro e w5 ⟨rfl, hi5, hb5⟩
            have hI5 := Lib.hid hi5
            have hB5 := Lib.hid (hB3.out.trans hb5)
            clear hi5 hb5
            go_wp2_with fail
            go_roundg gk
            case measure => omega
            case rel => exact ⟨lf, out ++ pl ++ ow, false, rfl, rfl, by omega, by omega, by rw [List.length_append, hN]; omega, hG', hI5, hB5⟩
end Go.Proofs.Ytlpjhpdgjeiioaa.Sc
