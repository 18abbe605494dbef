/- Laid together by wip/tools/shake.py from texts of this claim: MfSame, MfAwake, PathTh, PBellowsref03Plain0, PBellowsref03Clean0, PBellowsref03Right0, PathRefD, MfAll, MfLClean, MfLNotes, MfScoL, MfLSco, MfLMany, MfLDef, MfLaws. -/
import Derived.Test.YteniakfclkdlfaaDoorSb4
import Derived.ChangeSlices
section
set_option linter.unusedSimpArgs false
set_option linter.unusedVariables false
namespace Go.Proofs.YteniakfclkdlfaaDoor.Mf
open Go.RowKit Go.Lib Go.Shelf Go.Maps Go.Proofs.YteniakfclkdlfaaDoorW.PrintWords Go.Proofs.YteniakfclkdlfaaDoor.U Go.Proofs.YteniakfclkdlfaaDoor.Sc Go.Proofs.YteniakfclkdlfaaDoor.P Go.Proofs.YteniakfclkdlfaaDoor.MapV
abbrev at0' (b : Nat) : Value := .pointer (some ⟨b, 0, none⟩)
theorem two_fst (w : World) (X Y : Obj) : ((w.alloc X).alloc Y).drew.heap[w.heap.size]? = some X := by
  show ((w.alloc X).alloc Y).heap[w.heap.size]? = some X
  exact (heapAt_lt (by simp only [World.size_alloc]; omega)).trans (heapAt_eq rfl)
theorem two_snd (w : World) (X Y : Obj) : ((w.alloc X).alloc Y).drew.heap[w.heap.size + 1]? = some Y := by
  show ((w.alloc X).alloc Y).heap[w.heap.size + 1]? = some Y
  exact heapAt_eq (by simp only [World.size_alloc])
theorem strC_at {w : World} {A : Option Addr} {n : Nat} {xs : List ByteArray} (h : Kd.C Kd.string w A n xs) (i : Nat) (hi : i < xs.length) : ∃ ad, A = some ad ∧ w.cell? (ad.add i) = some (.string xs[i]) := by
  obtain ⟨ad, e, hc⟩ := h.2.2 (by have := h.1; omega)
  obtain ⟨c, hs, hr, hcell⟩ := hc i _ (List.getElem?_eq_getElem hi)
  replace hr : c = [.string xs[i]] := hr
  subst hr
  refine ⟨ad, e, ?_⟩
  have := hcell 0 _ rfl
  rw [show i * Kd.string.sz + 0 = i from Nat.mul_one i] at this
  exact this
set_option maxRecDepth 100000 in
set_option maxHeartbeats 8000000 in
theorem names_C (l : List ByteArray) (A0 A1 : Option Addr) (c0 c1 : Nat) (w : World) (h0 : l.length ≤ c0) (g0 : Kd.C Kd.string w A0 l.length l) (h1 : l.length ≤ c1) (g1 : Kd.C Kd.string w A1 l.length l) :
    Calls Tryd.prog 14 #[.slice A0 l.length c0, .slice A1 l.length c1] w fun e w' => e = .returned (.bool true) ∧ Below w.heap.size w w' := by
  have hG0 := Lib.hid g0
  have hG1 := Lib.hid g1
  have hl := g0.2.1
  clear g0 g1
  go_enter Tryd.func14, Tryd.ntmps14
  go_wp2_with fail
  go_loopg [5] l.length (fun gk s5 wr => ∃ i : Nat, s5 = .int .i64 (i : Int) ∧ i + gk = l.length ∧ Hid (Below w.heap.size w wr))
  case atStart => exact ⟨0, rfl, Nat.zero_add _, Below.refl _ _⟩
  case round =>
    obtain ⟨i, rfl, hik, hB⟩ := hrel
    cases gk with
    | zero =>
      have hlt : decide ((i : Int) < (l.length : Int)) = false := by rw [decide_eq_false_iff_not]; omega
      go_wp2_with fail
      go_ret
      exact ⟨rfl, hB.out⟩
    | succ gk =>
      have hi : i < l.length := by omega
      have hlt : decide ((i : Int) < (l.length : Int)) = true := by rw [decide_eq_true_iff]; omega
      have i1 : (0 : Int) ≤ (i : Int) := by omega
      obtain ⟨ad0, rfl, e0⟩ := strC_at (Kd.C_below hG0.out hB.out) i hi
      obtain ⟨ad1, rfl, e1⟩ := strC_at (Kd.C_below hG1.out hB.out) i hi
      generalize l[i] = x at *
      go_wp2_with fail
      go_quiet (fail)
      go_wp2_with fail
      go_roundg gk
      case measure => omega
      case rel => exact ⟨i + 1, by go_num, by omega, pw_below_drewN hB.out _⟩
set_option maxRecDepth 100000 in
set_option maxHeartbeats 8000000 in
theorem same_C (es : List SR) (ds : List ByteArray) (A0 A1 A2 A3 : Option Addr) (c0 c1 c2 c3 : Nat) (w : World) (h0 : es.length ≤ c0) (g0 : Kd.C KR w A0 es.length es) (h1 : ds.length ≤ c1) (g1 : Kd.C Kd.string w A1 ds.length ds) (h2 : es.length ≤ c2) (g2 : Kd.C KR w A2 es.length es) (h3 : ds.length ≤ c3) (g3 : Kd.C Kd.string w A3 ds.length ds) :
    Calls Tryd.prog 12 #[.agg #[.slice A0 es.length c0, .slice A1 ds.length c1], .agg #[.slice A2 es.length c2, .slice A3 ds.length c3]] w fun e w' => e = .returned (.bool true) ∧ Below w.heap.size w w' := by
  have hu37 := Tryd.underlying37
  have hu67 := Tryd.underlying67
  have hG0 := Lib.hid g0
  have hG2 := Lib.hid g2
  have hN := Lib.hid (fun W (hB : Below w.heap.size w W) => names_C ds A1 A3 c1 c3 W h1 (Kd.C_below g1 hB) h3 (Kd.C_below g3 hB))
  have hl := g0.2.1
  clear g0 g1 g2 g3
  go_enter Tryd.func12, Tryd.ntmps12
  go_wp2_with fail
  have hB0 : Hid (Below w.heap.size w ((w.alloc (.cells #[.slice A0 es.length c0, .slice A1 ds.length c1] 37)).alloc (.cells #[.slice A2 es.length c2, .slice A3 ds.length c3] 37))) := Lib.hid (by (repeat (first | exact Below.refl _ _ | refine Below.drew ?_ | refine Below.setCell ?_ (by simp <;> omega) _ | refine Below.alloc ?_ (by simp <;> omega) _)))
  have hP0 : Hid (((w.alloc (.cells #[.slice A0 es.length c0, .slice A1 ds.length c1] 37)).alloc (.cells #[.slice A2 es.length c2, .slice A3 ds.length c3] 37)).heap[w.heap.size]? = some (.cells #[.slice A0 es.length c0, .slice A1 ds.length c1] 37 (0, 0))) := Lib.hid (by
    refine (heapAt_lt ?_).trans (heapAt_eq rfl)
    simp only [World.size_alloc]; omega)
  have hP1 : Hid (((w.alloc (.cells #[.slice A0 es.length c0, .slice A1 ds.length c1] 37)).alloc (.cells #[.slice A2 es.length c2, .slice A3 ds.length c3] 37)).heap[w.heap.size + 1]? = some (.cells #[.slice A2 es.length c2, .slice A3 ds.length c3] 37 (0, 0))) := Lib.hid (by
    refine heapAt_eq ?_
    simp only [World.size_alloc])
  refine (hN.out _ hB0.out).mono ?_
  rintro x w1 ⟨rfl, hb⟩
  have z1 : w.heap.size + 1 + 1 ≤ w1.heap.size := Nat.le_trans (by simp) hb.size
  have hB1 := Lib.hid (hB0.out.trans (hb.mono hB0.out.size))
  have hQ0 := Lib.hid ((hb.block _ (lt_blk hP0.out)).trans hP0.out)
  have hQ1 := Lib.hid ((hb.block _ (lt_blk hP1.out)).trans hP1.out)
  clear hb hB0 hP0 hP1 hN
  go_wp2_with fail
  go_loopg [5] es.length (fun gk s5 wr => ∃ i : Nat, s5 = .int .i64 (i : Int) ∧ i + gk = es.length ∧ w.heap.size + 1 + 1 ≤ wr.heap.size ∧ Hid (Below w.heap.size w wr) ∧ Hid (wr.heap[w.heap.size]? = some (.cells #[.slice A0 es.length c0, .slice A1 ds.length c1] 37 (0, 0))) ∧ Hid (wr.heap[w.heap.size + 1]? = some (.cells #[.slice A2 es.length c2, .slice A3 ds.length c3] 37 (0, 0))))
  case atStart => exact ⟨0, rfl, Nat.zero_add _, z1, hB1, hQ0, hQ1⟩
  case round =>
    obtain ⟨i, rfl, hik, hz, hB, hm, hn⟩ := hrel
    have m0 := (cell_of_heap (j := 0) hm.out).trans rfl
    have n0 := (cell_of_heap (j := 0) hn.out).trans rfl
    cases gk with
    | zero =>
      have hlt : decide ((i : Int) < (es.length : Int)) = false := by rw [decide_eq_false_iff_not]; omega
      go_wp2_with fail
      go_ret
      exact ⟨rfl, hB.out⟩
    | succ gk =>
      have hi : i < es.length := by omega
      have hlt : decide ((i : Int) < (es.length : Int)) = true := by rw [decide_eq_true_iff]; omega
      have i1 : (0 : Int) ≤ (i : Int) := by omega
      have i2 : (i : Int) < (es.length : Int) := by omega
      obtain ⟨ad, a0, d0, a1, d1, a2, d2, a3, d3, rfl, k0, k1, k2, k3, k4, k5, l0, g0, l1, g1, l2, g2, l3, g3⟩ := at_T67 (Kd.C_below hG0.out hB.out) (i : Int) i1 (by omega)
      obtain ⟨bd, b0, e0, b1, e1, b2, e2, b3, e3, rfl, j0, j1, j2, j3, j4, j5, o0, p0, o1, p1, o2, p2, o3, p3⟩ := at_T67 (Kd.C_below hG2.out hB.out) (i : Int) i1 (by omega)
      rw [Int.toNat_natCast] at k0 k1 k2 k3 k4 k5 j0 j1 j2 j3 j4 j5
      generalize rd_T67 es (i : Int) = x at *
      have hS : Hid (∀ X, Below wr.heap.size wr X → (fun w' => w'.cell? ⟨w.heap.size, 0, none⟩ = some (.slice (some ad) es.length c0) ∧ w'.cell? ⟨w.heap.size + 1, 0, none⟩ = some (.slice (some bd) es.length c2) ∧ w'.cell? (ad.add (i * 6)) = some (.slice a0 x.f0.length d0) ∧ w'.cell? ⟨(ad.add (i * 6)).block, (ad.add (i * 6)).off + 1, none⟩ = some (.slice a1 x.f1.length d1) ∧ w'.cell? ⟨(ad.add (i * 6)).block, (ad.add (i * 6)).off + 2, none⟩ = some (.slice a2 x.f2.length d2) ∧ w'.cell? ⟨(ad.add (i * 6)).block, (ad.add (i * 6)).off + 3, none⟩ = some (.slice a3 x.f3.length d3) ∧ w'.cell? ⟨(ad.add (i * 6)).block, (ad.add (i * 6)).off + 4, none⟩ = some (.string x.f4) ∧ w'.cell? ⟨(ad.add (i * 6)).block, (ad.add (i * 6)).off + 5, none⟩ = some (.string x.f5) ∧ w'.cell? (bd.add (i * 6)) = some (.slice b0 x.f0.length e0) ∧ w'.cell? ⟨(bd.add (i * 6)).block, (bd.add (i * 6)).off + 1, none⟩ = some (.slice b1 x.f1.length e1) ∧ w'.cell? ⟨(bd.add (i * 6)).block, (bd.add (i * 6)).off + 2, none⟩ = some (.slice b2 x.f2.length e2) ∧ w'.cell? ⟨(bd.add (i * 6)).block, (bd.add (i * 6)).off + 3, none⟩ = some (.slice b3 x.f3.length e3) ∧ w'.cell? ⟨(bd.add (i * 6)).block, (bd.add (i * 6)).off + 4, none⟩ = some (.string x.f4) ∧ w'.cell? ⟨(bd.add (i * 6)).block, (bd.add (i * 6)).off + 5, none⟩ = some (.string x.f5)) X) := Lib.hid (fun X hX => ⟨below_cell hX m0, below_cell hX n0, below_cell hX k0, below_cell hX k1, below_cell hX k2, below_cell hX k3, below_cell hX k4, below_cell hX k5, below_cell hX j0, below_cell hX j1, below_cell hX j2, below_cell hX j3, below_cell hX j4, below_cell hX j5⟩)
      have hN0 := Lib.hid (fun W (hX : Below wr.heap.size wr W) => names_C x.f0 a0 b0 d0 e0 W l0 (Kd.C_below g0 hX) o0 (Kd.C_below p0 hX))
      have hN1 := Lib.hid (fun W (hX : Below wr.heap.size wr W) => names_C x.f1 a1 b1 d1 e1 W l1 (Kd.C_below g1 hX) o1 (Kd.C_below p1 hX))
      have hN2 := Lib.hid (fun W (hX : Below wr.heap.size wr W) => names_C x.f2 a2 b2 d2 e2 W l2 (Kd.C_below g2 hX) o2 (Kd.C_below p2 hX))
      have hN3 := Lib.hid (fun W (hX : Below wr.heap.size wr W) => names_C x.f3 a3 b3 d3 e3 W l3 (Kd.C_below g3 hX) o3 (Kd.C_below p3 hX))
      clear g0 g1 g2 g3 p0 p1 p2 p3
      go_upto_region 6 with (fail)
      go_cut [6, 7] (fun s6 s7 wx => ∃ p q, s6 = at0' p ∧ s7 = at0' q ∧ wr.heap.size ≤ p ∧ wr.heap.size ≤ q ∧ Hid (wx.heap[p]? = some (.cells #[.slice a0 x.f0.length d0, .slice a1 x.f1.length d1, .slice a2 x.f2.length d2, .slice a3 x.f3.length d3, .string x.f4, .string x.f5] 67 (0, 0))) ∧ Hid (wx.heap[q]? = some (.cells #[.slice b0 x.f0.length e0, .slice b1 x.f1.length e1, .slice b2 x.f2.length e2, .slice b3 x.f3.length e3, .string x.f4, .string x.f5] 67 (0, 0))) ∧ Hid (Below wr.heap.size wr wx))
      case first =>
        refine RegP.regionT (fun w' => w'.cell? ⟨w.heap.size, 0, none⟩ = some (.slice (some ad) es.length c0) ∧ w'.cell? ⟨w.heap.size + 1, 0, none⟩ = some (.slice (some bd) es.length c2) ∧ w'.cell? (ad.add (i * 6)) = some (.slice a0 x.f0.length d0) ∧ w'.cell? ⟨(ad.add (i * 6)).block, (ad.add (i * 6)).off + 1, none⟩ = some (.slice a1 x.f1.length d1) ∧ w'.cell? ⟨(ad.add (i * 6)).block, (ad.add (i * 6)).off + 2, none⟩ = some (.slice a2 x.f2.length d2) ∧ w'.cell? ⟨(ad.add (i * 6)).block, (ad.add (i * 6)).off + 3, none⟩ = some (.slice a3 x.f3.length d3) ∧ w'.cell? ⟨(ad.add (i * 6)).block, (ad.add (i * 6)).off + 4, none⟩ = some (.string x.f4) ∧ w'.cell? ⟨(ad.add (i * 6)).block, (ad.add (i * 6)).off + 5, none⟩ = some (.string x.f5) ∧ w'.cell? (bd.add (i * 6)) = some (.slice b0 x.f0.length e0) ∧ w'.cell? ⟨(bd.add (i * 6)).block, (bd.add (i * 6)).off + 1, none⟩ = some (.slice b1 x.f1.length e1) ∧ w'.cell? ⟨(bd.add (i * 6)).block, (bd.add (i * 6)).off + 2, none⟩ = some (.slice b2 x.f2.length e2) ∧ w'.cell? ⟨(bd.add (i * 6)).block, (bd.add (i * 6)).off + 3, none⟩ = some (.slice b3 x.f3.length e3) ∧ w'.cell? ⟨(bd.add (i * 6)).block, (bd.add (i * 6)).off + 4, none⟩ = some (.string x.f4) ∧ w'.cell? ⟨(bd.add (i * 6)).block, (bd.add (i * 6)).off + 5, none⟩ = some (.string x.f5)) (.cons 0 0 (.cons 1 1 (.cons 0 2 (.cons 0 3 (.cons 1 4 (.cons 0 5 (.cons 1 6 (.cons 0 7 (.cons 0 8 (.cons 1 9 (.fork 10 (.cons 2 11 (.cons 2 12 (.cons 2 13 .nil))) 11 (.cons 2 10 (.cons 2 12 (.cons 2 13 .nil)))))))))))))) (by kernel_rfl) (by kernel_rfl) (by kernel_rfl) (by exact hS.out _ (Below.refl _ _).drew) ?_
        refine RegP.pureT (by (simp only [List.getElem?_toArray, List.getElem?_cons_succ, List.getElem?_cons_zero]); rfl) (by exact fun _ _ _ h => h) (by rfl) (by intro w'; go_simp; try with_reducible rfl) ?_
        try simp only [Act.put, List.setIfInBounds_toArray, List.set_cons_zero, List.set_cons_succ]
        refine RegP.heldT (by (simp only [List.getElem?_toArray, List.getElem?_cons_succ, List.getElem?_cons_zero]); rfl) (by exact fun _ _ _ h => h) (by rfl) (by intro w' hS_; (try dsimp only at hS_); go_split_ands; go_simp; try with_reducible rfl) ?_
        try simp only [Act.put, List.setIfInBounds_toArray, List.set_cons_zero, List.set_cons_succ]
        refine RegP.pureT (by (simp only [List.getElem?_toArray, List.getElem?_cons_succ, List.getElem?_cons_zero]); rfl) (by exact fun _ _ _ h => h) (by rfl) (by intro w'; go_simp; try with_reducible rfl) ?_
        try simp only [Act.put, List.setIfInBounds_toArray, List.set_cons_zero, List.set_cons_succ]
        refine RegP.pureT (by (simp only [List.getElem?_toArray, List.getElem?_cons_succ, List.getElem?_cons_zero]); rfl) (by exact fun _ _ _ h => h) (by rfl) (by intro w'; go_simp; try with_reducible rfl) ?_
        try simp only [Act.put, List.setIfInBounds_toArray, List.set_cons_zero, List.set_cons_succ]
        refine RegP.heldT (by (simp only [List.getElem?_toArray, List.getElem?_cons_succ, List.getElem?_cons_zero]); rfl) (by exact fun _ _ _ h => h) (by rfl) (by intro w' hS_; (try dsimp only at hS_); go_split_ands; go_simp; try with_reducible rfl) ?_
        try simp only [Act.put, List.setIfInBounds_toArray, List.set_cons_zero, List.set_cons_succ]
        refine RegP.pureT (by (simp only [List.getElem?_toArray, List.getElem?_cons_succ, List.getElem?_cons_zero]); rfl) (by exact fun _ _ _ h => h) (by rfl) (by intro w'; go_simp; try with_reducible rfl) ?_
        try simp only [Act.put, List.setIfInBounds_toArray, List.set_cons_zero, List.set_cons_succ]
        refine RegP.heldT (by (simp only [List.getElem?_toArray, List.getElem?_cons_succ, List.getElem?_cons_zero]); rfl) (by exact fun _ _ _ h => h) (by rfl) (by intro w' hS_; (try dsimp only at hS_); go_split_ands; go_simp; try with_reducible rfl) ?_
        try simp only [Act.put, List.setIfInBounds_toArray, List.set_cons_zero, List.set_cons_succ]
        refine RegP.pureT (by (simp only [List.getElem?_toArray, List.getElem?_cons_succ, List.getElem?_cons_zero]); rfl) (by exact fun _ _ _ h => h) (by rfl) (by intro w'; go_simp; try with_reducible rfl) ?_
        try simp only [Act.put, List.setIfInBounds_toArray, List.set_cons_zero, List.set_cons_succ]
        refine RegP.pureT (by (simp only [List.getElem?_toArray, List.getElem?_cons_succ, List.getElem?_cons_zero]); rfl) (by exact fun _ _ _ h => h) (by rfl) (by intro w'; go_simp; try with_reducible rfl) ?_
        try simp only [Act.put, List.setIfInBounds_toArray, List.set_cons_zero, List.set_cons_succ]
        refine RegP.heldT (by (simp only [List.getElem?_toArray, List.getElem?_cons_succ, List.getElem?_cons_zero]); rfl) (by exact fun _ _ _ h => h) (by rfl) (by intro w' hS_; (try dsimp only at hS_); go_split_ands; go_simp; try with_reducible rfl) ?_
        try simp only [Act.put, List.setIfInBounds_toArray, List.set_cons_zero, List.set_cons_succ]
        refine RegP.forkT (by (simp only [List.getElem?_toArray, List.getElem?_cons_succ, List.getElem?_cons_zero]); rfl) (by (simp only [List.getElem?_toArray, List.getElem?_cons_succ, List.getElem?_cons_zero]); rfl) (fun K hK => ?_) (fun K hK => ?_)
        · go_simp
          refine hK.out _ _ ?_ (fun hHeld => ?_)
          · (try dsimp only); exact hS.out _ (by (repeat (first | exact Below.refl _ _ | refine Below.drew ?_ | refine Below.setCell ?_ (by simp <;> omega) _ | refine Below.alloc ?_ (by simp <;> omega) _)))
          clear hK K
          try simp only [Act.put, List.setIfInBounds_toArray, List.set_cons_zero, List.set_cons_succ]
          refine RegP.evT (by (simp only [List.getElem?_toArray, List.getElem?_cons_succ, List.getElem?_cons_zero]); rfl) (fun K hK => ?_)
          go_simp
          refine hK.out _ _ ?_ (fun hHeld => ?_)
          · (try dsimp only); exact hS.out _ (by (repeat (first | exact Below.refl _ _ | refine Below.drew ?_ | refine Below.setCell ?_ (by simp <;> omega) _ | refine Below.alloc ?_ (by simp <;> omega) _)))
          clear hK K
          try simp only [Act.put, List.setIfInBounds_toArray, List.set_cons_zero, List.set_cons_succ]
          refine RegP.evT (by (simp only [List.getElem?_toArray, List.getElem?_cons_succ, List.getElem?_cons_zero]); rfl) (fun K hK => ?_)
          go_simp
          refine hK.out _ _ ?_ (fun hHeld => ?_)
          · (try dsimp only); exact hS.out _ (by (repeat (first | exact Below.refl _ _ | refine Below.drew ?_ | refine Below.setCell ?_ (by simp <;> omega) _ | refine Below.alloc ?_ (by simp <;> omega) _)))
          clear hK K
          try simp only [Act.put, List.setIfInBounds_toArray, List.set_cons_zero, List.set_cons_succ]
          refine RegP.evT (by (simp only [List.getElem?_toArray, List.getElem?_cons_succ, List.getElem?_cons_zero]); rfl) (fun K hK => ?_)
          go_simp
          refine hK.out _ _ ?_ (fun hHeld => ?_)
          · (try dsimp only); exact hS.out _ (by (repeat (first | exact Below.refl _ _ | refine Below.drew ?_ | refine Below.setCell ?_ (by simp <;> omega) _ | refine Below.alloc ?_ (by simp <;> omega) _)))
          clear hK K
          try simp only [Act.put, List.setIfInBounds_toArray, List.set_cons_zero, List.set_cons_succ]
          refine RegP.doneT ?_
          clear hHeld
          try dsimp only
          go_wp2_with fail
          go_meet
          exact ⟨wr.heap.size, wr.heap.size + 1, rfl, rfl, Nat.le_refl _, Nat.le_succ _, Lib.hid (two_fst _ _ _), Lib.hid (two_snd _ _ _), Lib.hid (by (repeat (first | exact Below.refl _ _ | refine Below.drew ?_ | refine Below.setCell ?_ (by simp <;> omega) _ | refine Below.alloc ?_ (by simp <;> omega) _)))⟩
        · go_simp
          refine hK.out _ _ ?_ (fun hHeld => ?_)
          · (try dsimp only); exact hS.out _ (by (repeat (first | exact Below.refl _ _ | refine Below.drew ?_ | refine Below.setCell ?_ (by simp <;> omega) _ | refine Below.alloc ?_ (by simp <;> omega) _)))
          clear hK K
          try simp only [Act.put, List.setIfInBounds_toArray, List.set_cons_zero, List.set_cons_succ]
          refine RegP.evT (by (simp only [List.getElem?_toArray, List.getElem?_cons_succ, List.getElem?_cons_zero]); rfl) (fun K hK => ?_)
          go_simp
          refine hK.out _ _ ?_ (fun hHeld => ?_)
          · (try dsimp only); exact hS.out _ (by (repeat (first | exact Below.refl _ _ | refine Below.drew ?_ | refine Below.setCell ?_ (by simp <;> omega) _ | refine Below.alloc ?_ (by simp <;> omega) _)))
          clear hK K
          try simp only [Act.put, List.setIfInBounds_toArray, List.set_cons_zero, List.set_cons_succ]
          refine RegP.evT (by (simp only [List.getElem?_toArray, List.getElem?_cons_succ, List.getElem?_cons_zero]); rfl) (fun K hK => ?_)
          go_simp
          refine hK.out _ _ ?_ (fun hHeld => ?_)
          · (try dsimp only); exact hS.out _ (by (repeat (first | exact Below.refl _ _ | refine Below.drew ?_ | refine Below.setCell ?_ (by simp <;> omega) _ | refine Below.alloc ?_ (by simp <;> omega) _)))
          clear hK K
          try simp only [Act.put, List.setIfInBounds_toArray, List.set_cons_zero, List.set_cons_succ]
          refine RegP.evT (by (simp only [List.getElem?_toArray, List.getElem?_cons_succ, List.getElem?_cons_zero]); rfl) (fun K hK => ?_)
          go_simp
          refine hK.out _ _ ?_ (fun hHeld => ?_)
          · (try dsimp only); exact hS.out _ (by (repeat (first | exact Below.refl _ _ | refine Below.drew ?_ | refine Below.setCell ?_ (by simp <;> omega) _ | refine Below.alloc ?_ (by simp <;> omega) _)))
          clear hK K
          try simp only [Act.put, List.setIfInBounds_toArray, List.set_cons_zero, List.set_cons_succ]
          refine RegP.doneT ?_
          clear hHeld
          try dsimp only
          go_wp2_with fail
          go_meet
          exact ⟨wr.heap.size + 1, wr.heap.size, rfl, rfl, Nat.le_succ _, Nat.le_refl _, Lib.hid (two_snd _ _ _), Lib.hid (two_fst _ _ _), Lib.hid (by (repeat (first | exact Below.refl _ _ | refine Below.drew ?_ | refine Below.setCell ?_ (by simp <;> omega) _ | refine Below.alloc ?_ (by simp <;> omega) _)))⟩
      case rest =>
        obtain ⟨p, q, rfl, rfl, hzp, hzq, hp3, hq3, hB3⟩ := hcut
        have p0_ := (cell_of_heap (j := 0) hp3.out).trans rfl
        have p1_ := (cell_of_heap (j := 1) hp3.out).trans rfl
        have p2_ := (cell_of_heap (j := 2) hp3.out).trans rfl
        have p3_ := (cell_of_heap (j := 3) hp3.out).trans rfl
        have p4_ := (cell_of_heap (j := 4) hp3.out).trans rfl
        have p5_ := (cell_of_heap (j := 5) hp3.out).trans rfl
        have q0_ := (cell_of_heap (j := 0) hq3.out).trans rfl
        have q1_ := (cell_of_heap (j := 1) hq3.out).trans rfl
        have q2_ := (cell_of_heap (j := 2) hq3.out).trans rfl
        have q3_ := (cell_of_heap (j := 3) hq3.out).trans rfl
        have q4_ := (cell_of_heap (j := 4) hq3.out).trans rfl
        have q5_ := (cell_of_heap (j := 5) hq3.out).trans rfl
        go_wp2_with fail
        refine (hN0.out _ hB3.out).mono ?_
        rintro e w4 ⟨rfl, hb⟩
        have hB4 := Lib.hid (hB3.out.trans (hb.mono hB3.out.size))
        have hp4 := Lib.hid ((hb.block _ (lt_blk hp3.out)).trans hp3.out)
        have hq4 := Lib.hid ((hb.block _ (lt_blk hq3.out)).trans hq3.out)
        clear hb
        clear p0_ q0_ p1_ q1_ p2_ q2_ p3_ q3_ p4_ q4_ p5_ q5_
        have p0_ := (cell_of_heap (j := 0) hp4.out).trans rfl
        have p1_ := (cell_of_heap (j := 1) hp4.out).trans rfl
        have p2_ := (cell_of_heap (j := 2) hp4.out).trans rfl
        have p3_ := (cell_of_heap (j := 3) hp4.out).trans rfl
        have p4_ := (cell_of_heap (j := 4) hp4.out).trans rfl
        have p5_ := (cell_of_heap (j := 5) hp4.out).trans rfl
        have q0_ := (cell_of_heap (j := 0) hq4.out).trans rfl
        have q1_ := (cell_of_heap (j := 1) hq4.out).trans rfl
        have q2_ := (cell_of_heap (j := 2) hq4.out).trans rfl
        have q3_ := (cell_of_heap (j := 3) hq4.out).trans rfl
        have q4_ := (cell_of_heap (j := 4) hq4.out).trans rfl
        have q5_ := (cell_of_heap (j := 5) hq4.out).trans rfl
        go_wp2_with fail
        refine (hN1.out _ hB4.out).mono ?_
        rintro e w5 ⟨rfl, hb⟩
        have hB5 := Lib.hid (hB4.out.trans (hb.mono hB4.out.size))
        have hp5 := Lib.hid ((hb.block _ (lt_blk hp4.out)).trans hp4.out)
        have hq5 := Lib.hid ((hb.block _ (lt_blk hq4.out)).trans hq4.out)
        clear hb
        clear p0_ q0_ p1_ q1_ p2_ q2_ p3_ q3_ p4_ q4_ p5_ q5_
        have p0_ := (cell_of_heap (j := 0) hp5.out).trans rfl
        have p1_ := (cell_of_heap (j := 1) hp5.out).trans rfl
        have p2_ := (cell_of_heap (j := 2) hp5.out).trans rfl
        have p3_ := (cell_of_heap (j := 3) hp5.out).trans rfl
        have p4_ := (cell_of_heap (j := 4) hp5.out).trans rfl
        have p5_ := (cell_of_heap (j := 5) hp5.out).trans rfl
        have q0_ := (cell_of_heap (j := 0) hq5.out).trans rfl
        have q1_ := (cell_of_heap (j := 1) hq5.out).trans rfl
        have q2_ := (cell_of_heap (j := 2) hq5.out).trans rfl
        have q3_ := (cell_of_heap (j := 3) hq5.out).trans rfl
        have q4_ := (cell_of_heap (j := 4) hq5.out).trans rfl
        have q5_ := (cell_of_heap (j := 5) hq5.out).trans rfl
        go_wp2_with fail
        refine (hN2.out _ hB5.out).mono ?_
        rintro e w6 ⟨rfl, hb⟩
        have hB6 := Lib.hid (hB5.out.trans (hb.mono hB5.out.size))
        have hp6 := Lib.hid ((hb.block _ (lt_blk hp5.out)).trans hp5.out)
        have hq6 := Lib.hid ((hb.block _ (lt_blk hq5.out)).trans hq5.out)
        clear hb
        clear p0_ q0_ p1_ q1_ p2_ q2_ p3_ q3_ p4_ q4_ p5_ q5_
        have p0_ := (cell_of_heap (j := 0) hp6.out).trans rfl
        have p1_ := (cell_of_heap (j := 1) hp6.out).trans rfl
        have p2_ := (cell_of_heap (j := 2) hp6.out).trans rfl
        have p3_ := (cell_of_heap (j := 3) hp6.out).trans rfl
        have p4_ := (cell_of_heap (j := 4) hp6.out).trans rfl
        have p5_ := (cell_of_heap (j := 5) hp6.out).trans rfl
        have q0_ := (cell_of_heap (j := 0) hq6.out).trans rfl
        have q1_ := (cell_of_heap (j := 1) hq6.out).trans rfl
        have q2_ := (cell_of_heap (j := 2) hq6.out).trans rfl
        have q3_ := (cell_of_heap (j := 3) hq6.out).trans rfl
        have q4_ := (cell_of_heap (j := 4) hq6.out).trans rfl
        have q5_ := (cell_of_heap (j := 5) hq6.out).trans rfl
        go_wp2_with fail
        refine (hN3.out _ hB6.out).mono ?_
        rintro e w7 ⟨rfl, hb⟩
        have hB7 := Lib.hid (hB6.out.trans (hb.mono hB6.out.size))
        have hp7 := Lib.hid ((hb.block _ (lt_blk hp6.out)).trans hp6.out)
        have hq7 := Lib.hid ((hb.block _ (lt_blk hq6.out)).trans hq6.out)
        clear hb
        clear p0_ q0_ p1_ q1_ p2_ q2_ p3_ q3_ p4_ q4_ p5_ q5_
        have p0_ := (cell_of_heap (j := 0) hp7.out).trans rfl
        have p1_ := (cell_of_heap (j := 1) hp7.out).trans rfl
        have p2_ := (cell_of_heap (j := 2) hp7.out).trans rfl
        have p3_ := (cell_of_heap (j := 3) hp7.out).trans rfl
        have p4_ := (cell_of_heap (j := 4) hp7.out).trans rfl
        have p5_ := (cell_of_heap (j := 5) hp7.out).trans rfl
        have q0_ := (cell_of_heap (j := 0) hq7.out).trans rfl
        have q1_ := (cell_of_heap (j := 1) hq7.out).trans rfl
        have q2_ := (cell_of_heap (j := 2) hq7.out).trans rfl
        have q3_ := (cell_of_heap (j := 3) hq7.out).trans rfl
        have q4_ := (cell_of_heap (j := 4) hq7.out).trans rfl
        have q5_ := (cell_of_heap (j := 5) hq7.out).trans rfl
        go_wp2_with fail
        go_roundg gk
        case measure => omega
        case rel => exact ⟨i + 1, by go_num, by omega, Nat.le_trans hz hB7.out.size, Lib.hid (hB.out.trans (hB7.out.mono hB.out.size)), Lib.hid ((hB7.out.block _ (by omega)).trans hm.out), Lib.hid ((hB7.out.block _ (by omega)).trans hn.out)⟩
end Go.Proofs.YteniakfclkdlfaaDoor.Mf
end
section
set_option linter.unusedSimpArgs false
set_option linter.unusedVariables false
namespace Go.Proofs.YteniakfclkdlfaaDoor.Mf
open Go.RowKit Go.Lib Go.Shelf Go.Maps Go.Proofs.YteniakfclkdlfaaDoorW.PrintWords Go.Proofs.YteniakfclkdlfaaDoor.U Go.Proofs.YteniakfclkdlfaaDoor.Sc Go.Proofs.YteniakfclkdlfaaDoor.P Go.Proofs.YteniakfclkdlfaaDoor.MapV
theorem edge_at {w : World} {A : Option Addr} {es : List EdgeO} (h : Kd.C KE w A (es.map toS).length (es.map toS)) (i : Nat) (hi : i < es.length) : ∃ ad A0 c0 A1 c1 A2 c2 A3 c3, A = some ad ∧
    w.cell? (ad.add (i * 6)) = some (.slice A0 es[i].outs.length c0) ∧ w.cell? ⟨(ad.add (i * 6)).block, (ad.add (i * 6)).off + 1, none⟩ = some (.slice A1 es[i].ins.length c1) ∧ w.cell? ⟨(ad.add (i * 6)).block, (ad.add (i * 6)).off + 2, none⟩ = some (.slice A2 es[i].imp.length c2) ∧ w.cell? ⟨(ad.add (i * 6)).block, (ad.add (i * 6)).off + 3, none⟩ = some (.slice A3 es[i].ord.length c3) ∧
    w.cell? ⟨(ad.add (i * 6)).block, (ad.add (i * 6)).off + 4, none⟩ = some (.string (B es[i].command)) ∧ w.cell? ⟨(ad.add (i * 6)).block, (ad.add (i * 6)).off + 5, none⟩ = some (.string (B es[i].depfile)) ∧
    es[i].outs.length ≤ c0 ∧ Kd.C Kd.string w A0 es[i].outs.length (es[i].outs.map B) ∧ es[i].ins.length ≤ c1 ∧ Kd.C Kd.string w A1 es[i].ins.length (es[i].ins.map B) ∧ es[i].imp.length ≤ c2 ∧ Kd.C Kd.string w A2 es[i].imp.length (es[i].imp.map B) ∧ es[i].ord.length ≤ c3 ∧ Kd.C Kd.string w A3 es[i].ord.length (es[i].ord.map B) := by
  obtain ⟨ad, a0, d0, a1, d1, a2, d2, a3, d3, rfl, k0, k1, k2, k3, k4, k5, l0, g0, l1, g1, l2, g2, l3, g3⟩ := at_T31 h (i : Int) (by omega) (by rw [List.length_map]; omega)
  have hx : rd_T31 (es.map toS) (i : Int) = toS es[i] := by
    show (es.map toS).getD (i : Int).toNat _ = _
    rw [Int.toNat_natCast, List.getD_eq_getElem?_getD, List.getElem?_map, List.getElem?_eq_getElem hi]; rfl
  rw [Int.toNat_natCast] at k0 k1 k2 k3 k4 k5
  rw [hx] at k0 k1 k2 k3 k4 k5 l0 g0 l1 g1 l2 g2 l3 g3
  have e0 : (toS es[i]).f0.length = es[i].outs.length := List.length_map ..
  have e1 : (toS es[i]).f1.length = es[i].ins.length := List.length_map ..
  have e2 : (toS es[i]).f2.length = es[i].imp.length := List.length_map ..
  have e3 : (toS es[i]).f3.length = es[i].ord.length := List.length_map ..
  rw [e0] at k0 l0 g0
  rw [e1] at k1 l1 g1
  rw [e2] at k2 l2 g2
  rw [e3] at k3 l3 g3
  exact ⟨ad, a0, d0, a1, d1, a2, d2, a3, d3, rfl, k0, k1, k2, k3, k4, k5, l0, g0, l1, g1, l2, g2, l3, g3⟩
set_option maxRecDepth 100000 in
set_option maxHeartbeats 8000000 in
theorem awake_C (w : World) (hm : MaxCell w) : Calls Tryd.prog 9 #[] w fun e w' => e = .returned (.bool true) ∧ Below w.heap.size w w' := by
  have hu25 := Tryd.underlying25
  have hu31 := Tryd.underlying31
  have hMH := Lib.hid hm
  clear hm
  go_enter Tryd.func9, Tryd.ntmps9
  go_wp2_with fail
  refine (parse_C awakeT _ _ _ _ parse_awake _ rfl _ hMH.out).mono ?_
  rintro e w1 ⟨A0, c0, A1, c1, rfl, l0, g0, l1, g1, hb⟩
  obtain ⟨ad, a0, d0, a1, d1, a2, d2, a3, d3, rfl, k0, k1, k2, k3, k4, k5, _⟩ := edge_at g0 0 (by simp)
  simp only [List.length_map, List.length_cons, List.length_nil, Nat.zero_add, Nat.zero_mul, List.getElem_cons_zero] at *
  rw [show ad.add 0 = ad from if_pos rfl] at k0 k1 k2 k3 k4 k5
  have hlt := World.block_lt_of_cell? w1 _ k4
  have hlt2 : ad.block < w1.heap.size := hlt
  have hB1 := Lib.hid (((Below.refl w.heap.size w)).trans hb)
  clear g0 g1 l0 l1 hb
  go_wp2_with fail
  go_ret
  exact ⟨rfl, hB1.out.alloc hB1.out.size _⟩
end Go.Proofs.YteniakfclkdlfaaDoor.Mf
end
section
set_option linter.unusedSimpArgs false
set_option linter.unusedVariables false
namespace Go.Proofs.YteniakfclkdlfaaDoor.PTh
open Go.RowKit Go.Proofs.YteniakfclkdlfaaDoorW.PrintWords Go.Proofs.YteniakfclkdlfaaDoor.U Go.Proofs.YteniakfclkdlfaaDoor.P Go.Proofs.YteniakfclkdlfaaDoor.Rng
abbrev sp (l : List UInt8) : List (List UInt8) := splitK 47 0 l
def Good (p : List UInt8) : Prop := p ≠ [] ∧ p ≠ [46] ∧ p ≠ [46, 46] ∧ (47 : UInt8) ∉ p
theorem sp_none (l : List UInt8) (h : (47 : UInt8) ∉ l) : sp l = [l] := splitK_none 47 0 l h
theorem sp_at (a l : List UInt8) (h : (47 : UInt8) ∉ a) : sp (a ++ 47 :: l) = a :: sp l := by
  have := splitK_at 47 0 a l h
  simpa using this
theorem sp_ne (l : List UInt8) : sp l ≠ [] := splitK_ne 47 0 l
theorem sp_cons {b : UInt8} {l q : List UInt8} {qs : List (List UInt8)} (hb : b ≠ 47) (h : sp l = q :: qs) : sp (b :: l) = (b :: q) :: qs := by
  show splitK 47 0 (b :: l) = _
  rw [splitK, if_neg hb, show splitK 47 0 l = q :: qs from h]
theorem sp_parts (l : List UInt8) : ∀ p ∈ sp l, (47 : UInt8) ∉ p := by
  induction l with
  | nil => intro p hp; simp [splitK] at hp; subst hp; simp
  | cons b l ih =>
    by_cases hb : b = 47
    · subst hb
      have e2 : sp (47 :: l) = [] :: sp l := sp_at [] _ (by simp)
      rw [e2]; intro p hp
      rcases List.mem_cons.1 hp with rfl | hp
      · simp
      · exact ih p hp
    · cases h : sp l with
      | nil => exact absurd h (sp_ne l)
      | cons q qs =>
        rw [h] at ih
        rw [sp_cons hb h]
        intro p hp
        rcases List.mem_cons.1 hp with rfl | hp
        · have := ih q (by simp)
          simp [this, Ne.symm hb]
        · exact ih p (by simp [hp])
theorem sp_sub (f : UInt8 → Bool) (l : List UInt8) (hl : l.all f = true) : ∀ p ∈ sp l, p.all f = true := by
  induction l with
  | nil => intro p hp; simp [splitK] at hp; subst hp; rfl
  | cons b l ih =>
    simp only [List.all_cons, Bool.and_eq_true] at hl
    by_cases hb : b = 47
    · subst hb
      have e2 : sp (47 :: l) = [] :: sp l := sp_at [] _ (by simp)
      rw [e2]; intro p hp
      rcases List.mem_cons.1 hp with rfl | hp
      · rfl
      · exact ih hl.2 p hp
    · have ih := ih hl.2
      cases h : sp l with
      | nil => exact absurd h (sp_ne l)
      | cons q qs =>
        rw [h] at ih
        rw [sp_cons hb h]
        intro p hp
        rcases List.mem_cons.1 hp with rfl | hp
        · simp only [List.all_cons, Bool.and_eq_true]; exact ⟨hl.1, ih q (by simp)⟩
        · exact ih p (by simp [hp])
theorem joinP_nil : joinP [] = [] := rfl
theorem joinP_one (p : List UInt8) : joinP [p] = p := by simp [joinP, List.intercalate, List.intersperse]
theorem joinP_cons (p q : List UInt8) (ps : List (List UInt8)) : joinP (p :: q :: ps) = p ++ 47 :: joinP (q :: ps) := by
  simp [joinP, List.intercalate, List.intersperse]
theorem joinP_snoc (ps : List (List UInt8)) (h : ps ≠ []) (p : List UInt8) : joinP (ps ++ [p]) = joinP ps ++ 47 :: p := by
  induction ps with
  | nil => exact absurd rfl h
  | cons q ps ih =>
    cases ps with
    | nil => rw [joinP_one]; exact (joinP_cons q p []).trans (by rw [joinP_one])
    | cons r ps =>
      rw [List.cons_append, List.cons_append, joinP_cons, joinP_cons, ← List.cons_append, ih (by simp)]; simp
theorem joinP_append (ps qs : List (List UInt8)) (h : ps ≠ []) (h' : qs ≠ []) : joinP (ps ++ qs) = joinP ps ++ 47 :: joinP qs := by
  induction ps with
  | nil => exact absurd rfl h
  | cons q ps ih =>
    cases ps with
    | nil =>
      cases qs with
      | nil => exact absurd rfl h'
      | cons r qs => rw [joinP_one]; exact joinP_cons q r qs
    | cons r ps =>
      rw [List.cons_append, List.cons_append, joinP_cons, joinP_cons, ← List.cons_append, ih (by simp)]; simp
theorem sp_joinP (ps : List (List UInt8)) (h : ps ≠ []) (hp : ∀ p ∈ ps, (47 : UInt8) ∉ p) : sp (joinP ps) = ps := by
  induction ps with
  | nil => exact absurd rfl h
  | cons q ps ih =>
    cases ps with
    | nil => rw [joinP_one]; exact sp_none q (hp q (by simp))
    | cons r ps => rw [joinP_cons, sp_at _ _ (hp q (by simp)), ih (by simp) (fun p h => hp p (by simp [h]))]
theorem foldP_append (a b s : List (List UInt8)) : foldP (a ++ b) s = (foldP a s).bind (foldP b) := by
  induction a generalizing s with
  | nil => rfl
  | cons p a ih =>
    rw [List.cons_append]
    simp only [foldP]
    by_cases h1 : p = [] ∨ p = [46]
    · rw [if_pos h1, if_pos h1]; exact ih s
    · rw [if_neg h1, if_neg h1]
      by_cases h2 : p = [46, 46]
      · rw [if_pos h2, if_pos h2]
        by_cases h3 : s = []
        · rw [if_pos h3, if_pos h3]; rfl
        · rw [if_neg h3, if_neg h3]; exact ih _
      · rw [if_neg h2, if_neg h2]; exact ih _
theorem foldP_good (qs s : List (List UInt8)) (h : ∀ p ∈ qs, Good p) : foldP qs s = some (s ++ qs) := by
  induction qs generalizing s with
  | nil => simp [foldP]
  | cons p qs ih =>
    obtain ⟨g1, g2, g3, _⟩ := h p (by simp)
    rw [foldP, if_neg (by simp [g1, g2]), if_neg g3, ih _ (fun q hq => h q (by simp [hq]))]
    simp
theorem foldP_keeps (Q : List UInt8 → Prop) (qs s r : List (List UInt8)) (h : foldP qs s = some r) (hq : ∀ p ∈ qs, p ≠ [] → p ≠ [46] → p ≠ [46, 46] → Q p) (hs : ∀ p ∈ s, Q p) : ∀ p ∈ r, Q p := by
  induction qs generalizing s with
  | nil => simp [foldP] at h; subst h; exact hs
  | cons p qs ih =>
    have hq' : ∀ p ∈ qs, p ≠ [] → p ≠ [46] → p ≠ [46, 46] → Q p := fun q hm => hq q (by simp [hm])
    rw [foldP] at h
    by_cases h1 : p = [] ∨ p = [46]
    · rw [if_pos h1] at h; exact ih s h hq' hs
    · rw [if_neg h1] at h
      by_cases h2 : p = [46, 46]
      · rw [if_pos h2] at h
        by_cases h3 : s = []
        · rw [if_pos h3] at h; cases h
        · rw [if_neg h3] at h
          exact ih _ h hq' (fun q hm => hs q (List.dropLast_subset s hm))
      · rw [if_neg h2] at h
        refine ih _ h hq' (fun q hm => ?_)
        rcases List.mem_append.1 hm with hm | hm
        · exact hs q hm
        · obtain rfl := List.mem_singleton.1 hm
          exact hq q (by simp) (fun e => h1 (.inl e)) (fun e => h1 (.inr e)) h2
theorem plain47 : plainB 47 = true := by decide +kernel
theorem joinP_all (f : UInt8 → Bool) (h47 : f 47 = true) (ps : List (List UInt8)) (h : ∀ p ∈ ps, p.all f = true) : (joinP ps).all f = true := by
  induction ps with
  | nil => rfl
  | cons q ps ih =>
    cases ps with
    | nil => rw [joinP_one]; exact h q (by simp)
    | cons r ps =>
      rw [joinP_cons, List.all_append, List.all_cons, h q (by simp), h47, ih (fun p hp => h p (by simp [hp]))]; rfl
structure IsClean (c : List UInt8) (ps : List (List UInt8)) : Prop where
  ne : ps ≠ []
  good : ∀ p ∈ ps, Good p
  plain : ∀ p ∈ ps, p.all plainB = true
  eq : c = joinP ps
  len : c.length ≤ 100
theorem joinP_ne {ps : List (List UInt8)} (h : ps ≠ []) (hg : ∀ p ∈ ps, Good p) : joinP ps ≠ [] := by
  cases ps with
  | nil => exact absurd rfl h
  | cons q ps =>
    have := (hg q (by simp)).1
    cases ps with
    | nil => rw [joinP_one]; exact this
    | cons r ps => rw [joinP_cons]; simp
theorem joinP_head {ps : List (List UInt8)} (hg : ∀ p ∈ ps, Good p) : (joinP ps).head? ≠ some 47 := by
  cases ps with
  | nil => simp [joinP_nil]
  | cons q ps =>
    obtain ⟨h1, _, _, h4⟩ := hg q (by simp)
    have h5 : ∃ b t, q = b :: t := by cases q with | nil => exact absurd rfl h1 | cons b t => exact ⟨b, t, rfl⟩
    obtain ⟨b, t, rfl⟩ := h5
    have hb : b ≠ 47 := fun e => h4 (by simp [e])
    cases ps with
    | nil => rw [joinP_one]; simpa using hb
    | cons r ps => rw [joinP_cons]; simpa using hb
theorem cleanL_of {x : List UInt8} {ps : List (List UInt8)} (hx : x.length ≤ 1000) (hh : x.head? ≠ some 47) (hp : x.all plainB = true) (hf : foldP (sp x) [] = some ps) :
    cleanL x = if joinP ps = [] then ([], 5) else if 100 < (joinP ps).length then ([], 3) else (joinP ps, 0) := by
  rw [cleanL, if_neg (by omega), if_neg (by simp [hh, hp])]
  rw [show splitK 47 0 x = sp x from rfl, hf]
theorem clean_is {l c : List UInt8} (h : cleanL l = (c, 0)) : ∃ ps, IsClean c ps := by
  rw [cleanL] at h
  split at h
  · cases h
  · split at h
    · cases h
    · rename_i h1 h2
      have h2' : l.all plainB = true := by
        cases h3 : l.all plainB with
        | true => rfl
        | false => exact absurd (.inr h3) h2
      cases hf : foldP (splitK 47 0 l) [] with
      | none => rw [hf] at h; cases h
      | some ps =>
        rw [hf] at h
        simp only at h
        split at h
        · cases h
        · split at h
          · cases h
          · rename_i h3 h4
            have hc : joinP ps = c := congrArg Prod.fst h
            refine ⟨ps, ?_, ?_, ?_, hc.symm, by rw [← hc]; omega⟩
            · rintro rfl; exact h3 rfl
            · exact foldP_keeps Good _ _ _ hf (fun p hp a b d => ⟨a, b, d, sp_parts l p hp⟩) (by simp)
            · exact foldP_keeps (fun p => p.all plainB = true) _ _ _ hf (fun p hp _ _ _ => sp_sub plainB l h2' p hp) (by simp)
namespace IsClean
variable {c : List UInt8} {ps : List (List UInt8)} (h : IsClean c ps)
include h
theorem parts : sp c = ps := by rw [h.eq]; exact sp_joinP ps h.ne fun p hp => (h.good p hp).2.2.2
theorem cne : c ≠ [] := by rw [h.eq]; exact joinP_ne h.ne h.good
theorem head : c.head? ≠ some 47 := by rw [h.eq]; exact joinP_head h.good
theorem allp : c.all plainB = true := by rw [h.eq]; exact joinP_all plainB plain47 ps h.plain
theorem again : cleanL c = (c, 0) := by
  have hl := h.len
  rw [cleanL_of (by omega) h.head h.allp (by rw [h.parts]; exact foldP_good ps [] h.good)]
  rw [List.nil_append, ← h.eq, if_neg h.cne, if_neg (by omega)]
end IsClean
end Go.Proofs.YteniakfclkdlfaaDoor.PTh
end
section
namespace Go.Proofs.YteniakfclkdlfaaDoor.P
open Go.RowKit Go.Proofs.YteniakfclkdlfaaDoorW.PrintWords Go.Proofs.YteniakfclkdlfaaDoorW.PrintLast Go.Proofs.YteniakfclkdlfaaDoorW.PrintMore
attribute [local go_sem] max2_int min2_int max_two min_two max_three min_three max_four min_four
set_option linter.unusedVariables false
set_option linter.unusedSimpArgs false
def bellowsref03_plain.f (a0 : Int) : Option (Bool) := if a0 ≥ 97 then (if a0 ≤ 122 then (some true) else (if a0 ≥ 65 then (if a0 ≤ 90 then (some true) else (if a0 ≥ 48 then (if a0 ≤ 57 then (some true) else (if a0 = 46 then (some true) else (if a0 = 95 then (some true) else (if a0 = 45 then (some true) else (if a0 = 43 then (some true) else (some (a0 == 47))))))) else (if a0 = 46 then (some true) else (if a0 = 95 then (some true) else (if a0 = 45 then (some true) else (if a0 = 43 then (some true) else (some (a0 == 47)))))))) else (if a0 ≥ 48 then (if a0 ≤ 57 then (some true) else (if a0 = 46 then (some true) else (if a0 = 95 then (some true) else (if a0 = 45 then (some true) else (if a0 = 43 then (some true) else (some (a0 == 47))))))) else (if a0 = 46 then (some true) else (if a0 = 95 then (some true) else (if a0 = 45 then (some true) else (if a0 = 43 then (some true) else (some (a0 == 47))))))))) else (if a0 ≥ 65 then (if a0 ≤ 90 then (some true) else (if a0 ≥ 48 then (if a0 ≤ 57 then (some true) else (if a0 = 46 then (some true) else (if a0 = 95 then (some true) else (if a0 = 45 then (some true) else (if a0 = 43 then (some true) else (some (a0 == 47))))))) else (if a0 = 46 then (some true) else (if a0 = 95 then (some true) else (if a0 = 45 then (some true) else (if a0 = 43 then (some true) else (some (a0 == 47)))))))) else (if a0 ≥ 48 then (if a0 ≤ 57 then (some true) else (if a0 = 46 then (some true) else (if a0 = 95 then (some true) else (if a0 = 45 then (some true) else (if a0 = 43 then (some true) else (some (a0 == 47))))))) else (if a0 = 46 then (some true) else (if a0 = 95 then (some true) else (if a0 = 45 then (some true) else (if a0 = 43 then (some true) else (some (a0 == 47))))))))
set_option maxHeartbeats 8000000 in
set_option maxRecDepth 100000 in
theorem bellowsref03_plain.calls (a0 : Int) (r : Bool) (w : World) (h : bellowsref03_plain.f a0 = some r) :
    Calls Tryd.prog 39 #[.int .u8 a0] w fun e w' => e = .returned (.bool r) ∧ Drawn0 w w' := by
  have H : (if a0 ≥ 97 then (if a0 ≤ 122 then (some true) else (if a0 ≥ 65 then (if a0 ≤ 90 then (some true) else (if a0 ≥ 48 then (if a0 ≤ 57 then (some true) else (if a0 = 46 then (some true) else (if a0 = 95 then (some true) else (if a0 = 45 then (some true) else (if a0 = 43 then (some true) else (some (a0 == 47))))))) else (if a0 = 46 then (some true) else (if a0 = 95 then (some true) else (if a0 = 45 then (some true) else (if a0 = 43 then (some true) else (some (a0 == 47)))))))) else (if a0 ≥ 48 then (if a0 ≤ 57 then (some true) else (if a0 = 46 then (some true) else (if a0 = 95 then (some true) else (if a0 = 45 then (some true) else (if a0 = 43 then (some true) else (some (a0 == 47))))))) else (if a0 = 46 then (some true) else (if a0 = 95 then (some true) else (if a0 = 45 then (some true) else (if a0 = 43 then (some true) else (some (a0 == 47))))))))) else (if a0 ≥ 65 then (if a0 ≤ 90 then (some true) else (if a0 ≥ 48 then (if a0 ≤ 57 then (some true) else (if a0 = 46 then (some true) else (if a0 = 95 then (some true) else (if a0 = 45 then (some true) else (if a0 = 43 then (some true) else (some (a0 == 47))))))) else (if a0 = 46 then (some true) else (if a0 = 95 then (some true) else (if a0 = 45 then (some true) else (if a0 = 43 then (some true) else (some (a0 == 47)))))))) else (if a0 ≥ 48 then (if a0 ≤ 57 then (some true) else (if a0 = 46 then (some true) else (if a0 = 95 then (some true) else (if a0 = 45 then (some true) else (if a0 = 43 then (some true) else (some (a0 == 47))))))) else (if a0 = 46 then (some true) else (if a0 = 95 then (some true) else (if a0 = 45 then (some true) else (if a0 = 43 then (some true) else (some (a0 == 47))))))))) = some r := h
  clear h
  by_cases c2 : a0 ≥ 97
  · rw [if_pos c2] at H
    have c2b0 : decide (97 ≤ a0) = true := decide_eq_true c2
    clear c2
    by_cases c3 : a0 ≤ 122
    · rw [if_pos c3] at H
      have c3b0 : decide (a0 ≤ 122) = true := decide_eq_true c3
      clear c3
      obtain rfl := Option.some.inj H
      go_enter Tryd.func39, Tryd.ntmps39
      go_wp2
      go_ret
      exact ⟨by first | rfl | (simp; done) | (simp [*]; done), by repeat (first | exact Drawn0.refl _ | apply Drawn0.step)⟩
    · rw [if_neg c3] at H
      have c3b0 : decide (a0 ≤ 122) = false := decide_eq_false c3
      clear c3
      by_cases c4 : a0 ≥ 65
      · rw [if_pos c4] at H
        have c4b0 : decide (65 ≤ a0) = true := decide_eq_true c4
        clear c4
        by_cases c5 : a0 ≤ 90
        · rw [if_pos c5] at H
          have c5b0 : decide (a0 ≤ 90) = true := decide_eq_true c5
          clear c5
          obtain rfl := Option.some.inj H
          go_enter Tryd.func39, Tryd.ntmps39
          go_wp2
          go_ret
          exact ⟨by first | rfl | (simp; done) | (simp [*]; done), by repeat (first | exact Drawn0.refl _ | apply Drawn0.step)⟩
        · rw [if_neg c5] at H
          have c5b0 : decide (a0 ≤ 90) = false := decide_eq_false c5
          clear c5
          by_cases c6 : a0 ≥ 48
          · rw [if_pos c6] at H
            have c6b0 : decide (48 ≤ a0) = true := decide_eq_true c6
            clear c6
            by_cases c7 : a0 ≤ 57
            · rw [if_pos c7] at H
              have c7b0 : decide (a0 ≤ 57) = true := decide_eq_true c7
              clear c7
              obtain rfl := Option.some.inj H
              go_enter Tryd.func39, Tryd.ntmps39
              go_wp2
              go_ret
              exact ⟨by first | rfl | (simp; done) | (simp [*]; done), by repeat (first | exact Drawn0.refl _ | apply Drawn0.step)⟩
            · rw [if_neg c7] at H
              have c7b0 : decide (a0 ≤ 57) = false := decide_eq_false c7
              clear c7
              by_cases c8 : a0 = 46
              · rw [if_pos c8] at H
                have c8b0 : (a0 == 46) = true := beq_iff_eq.mpr c8
                have c8b1 : (a0 != 46) = false := bne_eq_false_iff_eq.mpr c8
                clear c8
                obtain rfl := Option.some.inj H
                go_enter Tryd.func39, Tryd.ntmps39
                go_wp2
                go_ret
                exact ⟨by first | rfl | (simp; done) | (simp [*]; done), by repeat (first | exact Drawn0.refl _ | apply Drawn0.step)⟩
              · rw [if_neg c8] at H
                have c8b0 : (a0 == 46) = false := beq_eq_false_iff_ne.mpr c8
                have c8b1 : (a0 != 46) = true := bne_iff_ne.mpr c8
                by_cases c9 : a0 = 95
                · rw [if_pos c9] at H
                  have c9b0 : (a0 == 95) = true := beq_iff_eq.mpr c9
                  have c9b1 : (a0 != 95) = false := bne_eq_false_iff_eq.mpr c9
                  clear c9
                  obtain rfl := Option.some.inj H
                  go_enter Tryd.func39, Tryd.ntmps39
                  go_wp2
                  go_ret
                  exact ⟨by first | rfl | (simp; done) | (simp [*]; done), by repeat (first | exact Drawn0.refl _ | apply Drawn0.step)⟩
                · rw [if_neg c9] at H
                  have c9b0 : (a0 == 95) = false := beq_eq_false_iff_ne.mpr c9
                  have c9b1 : (a0 != 95) = true := bne_iff_ne.mpr c9
                  by_cases c10 : a0 = 45
                  · rw [if_pos c10] at H
                    have c10b0 : (a0 == 45) = true := beq_iff_eq.mpr c10
                    have c10b1 : (a0 != 45) = false := bne_eq_false_iff_eq.mpr c10
                    clear c10
                    obtain rfl := Option.some.inj H
                    go_enter Tryd.func39, Tryd.ntmps39
                    go_wp2
                    go_ret
                    exact ⟨by first | rfl | (simp; done) | (simp [*]; done), by repeat (first | exact Drawn0.refl _ | apply Drawn0.step)⟩
                  · rw [if_neg c10] at H
                    have c10b0 : (a0 == 45) = false := beq_eq_false_iff_ne.mpr c10
                    have c10b1 : (a0 != 45) = true := bne_iff_ne.mpr c10
                    by_cases c11 : a0 = 43
                    · rw [if_pos c11] at H
                      have c11b0 : (a0 == 43) = true := beq_iff_eq.mpr c11
                      have c11b1 : (a0 != 43) = false := bne_eq_false_iff_eq.mpr c11
                      clear c11
                      obtain rfl := Option.some.inj H
                      go_enter Tryd.func39, Tryd.ntmps39
                      go_wp2
                      go_ret
                      exact ⟨by first | rfl | (simp; done) | (simp [*]; done), by repeat (first | exact Drawn0.refl _ | apply Drawn0.step)⟩
                    · rw [if_neg c11] at H
                      have c11b0 : (a0 == 43) = false := beq_eq_false_iff_ne.mpr c11
                      have c11b1 : (a0 != 43) = true := bne_iff_ne.mpr c11
                      obtain rfl := Option.some.inj H
                      go_enter Tryd.func39, Tryd.ntmps39
                      go_wp2
                      go_ret
                      exact ⟨by first | rfl | (simp; done) | (simp [*]; done), by repeat (first | exact Drawn0.refl _ | apply Drawn0.step)⟩
          · rw [if_neg c6] at H
            have c6b0 : decide (48 ≤ a0) = false := decide_eq_false c6
            clear c6
            by_cases c12 : a0 = 46
            · rw [if_pos c12] at H
              have c12b0 : (a0 == 46) = true := beq_iff_eq.mpr c12
              have c12b1 : (a0 != 46) = false := bne_eq_false_iff_eq.mpr c12
              clear c12
              obtain rfl := Option.some.inj H
              go_enter Tryd.func39, Tryd.ntmps39
              go_wp2
              go_ret
              exact ⟨by first | rfl | (simp; done) | (simp [*]; done), by repeat (first | exact Drawn0.refl _ | apply Drawn0.step)⟩
            · rw [if_neg c12] at H
              have c12b0 : (a0 == 46) = false := beq_eq_false_iff_ne.mpr c12
              have c12b1 : (a0 != 46) = true := bne_iff_ne.mpr c12
              by_cases c13 : a0 = 95
              · rw [if_pos c13] at H
                have c13b0 : (a0 == 95) = true := beq_iff_eq.mpr c13
                have c13b1 : (a0 != 95) = false := bne_eq_false_iff_eq.mpr c13
                clear c13
                obtain rfl := Option.some.inj H
                go_enter Tryd.func39, Tryd.ntmps39
                go_wp2
                go_ret
                exact ⟨by first | rfl | (simp; done) | (simp [*]; done), by repeat (first | exact Drawn0.refl _ | apply Drawn0.step)⟩
              · rw [if_neg c13] at H
                have c13b0 : (a0 == 95) = false := beq_eq_false_iff_ne.mpr c13
                have c13b1 : (a0 != 95) = true := bne_iff_ne.mpr c13
                by_cases c14 : a0 = 45
                · rw [if_pos c14] at H
                  have c14b0 : (a0 == 45) = true := beq_iff_eq.mpr c14
                  have c14b1 : (a0 != 45) = false := bne_eq_false_iff_eq.mpr c14
                  clear c14
                  obtain rfl := Option.some.inj H
                  go_enter Tryd.func39, Tryd.ntmps39
                  go_wp2
                  go_ret
                  exact ⟨by first | rfl | (simp; done) | (simp [*]; done), by repeat (first | exact Drawn0.refl _ | apply Drawn0.step)⟩
                · rw [if_neg c14] at H
                  have c14b0 : (a0 == 45) = false := beq_eq_false_iff_ne.mpr c14
                  have c14b1 : (a0 != 45) = true := bne_iff_ne.mpr c14
                  by_cases c15 : a0 = 43
                  · rw [if_pos c15] at H
                    have c15b0 : (a0 == 43) = true := beq_iff_eq.mpr c15
                    have c15b1 : (a0 != 43) = false := bne_eq_false_iff_eq.mpr c15
                    clear c15
                    obtain rfl := Option.some.inj H
                    go_enter Tryd.func39, Tryd.ntmps39
                    go_wp2
                    go_ret
                    exact ⟨by first | rfl | (simp; done) | (simp [*]; done), by repeat (first | exact Drawn0.refl _ | apply Drawn0.step)⟩
                  · rw [if_neg c15] at H
                    have c15b0 : (a0 == 43) = false := beq_eq_false_iff_ne.mpr c15
                    have c15b1 : (a0 != 43) = true := bne_iff_ne.mpr c15
                    obtain rfl := Option.some.inj H
                    go_enter Tryd.func39, Tryd.ntmps39
                    go_wp2
                    go_ret
                    exact ⟨by first | rfl | (simp; done) | (simp [*]; done), by repeat (first | exact Drawn0.refl _ | apply Drawn0.step)⟩
      · rw [if_neg c4] at H
        have c4b0 : decide (65 ≤ a0) = false := decide_eq_false c4
        clear c4
        by_cases c16 : a0 ≥ 48
        · rw [if_pos c16] at H
          have c16b0 : decide (48 ≤ a0) = true := decide_eq_true c16
          clear c16
          by_cases c17 : a0 ≤ 57
          · rw [if_pos c17] at H
            have c17b0 : decide (a0 ≤ 57) = true := decide_eq_true c17
            clear c17
            obtain rfl := Option.some.inj H
            go_enter Tryd.func39, Tryd.ntmps39
            go_wp2
            go_ret
            exact ⟨by first | rfl | (simp; done) | (simp [*]; done), by repeat (first | exact Drawn0.refl _ | apply Drawn0.step)⟩
          · rw [if_neg c17] at H
            have c17b0 : decide (a0 ≤ 57) = false := decide_eq_false c17
            clear c17
            by_cases c18 : a0 = 46
            · rw [if_pos c18] at H
              have c18b0 : (a0 == 46) = true := beq_iff_eq.mpr c18
              have c18b1 : (a0 != 46) = false := bne_eq_false_iff_eq.mpr c18
              clear c18
              obtain rfl := Option.some.inj H
              go_enter Tryd.func39, Tryd.ntmps39
              go_wp2
              go_ret
              exact ⟨by first | rfl | (simp; done) | (simp [*]; done), by repeat (first | exact Drawn0.refl _ | apply Drawn0.step)⟩
            · rw [if_neg c18] at H
              have c18b0 : (a0 == 46) = false := beq_eq_false_iff_ne.mpr c18
              have c18b1 : (a0 != 46) = true := bne_iff_ne.mpr c18
              by_cases c19 : a0 = 95
              · rw [if_pos c19] at H
                have c19b0 : (a0 == 95) = true := beq_iff_eq.mpr c19
                have c19b1 : (a0 != 95) = false := bne_eq_false_iff_eq.mpr c19
                clear c19
                obtain rfl := Option.some.inj H
                go_enter Tryd.func39, Tryd.ntmps39
                go_wp2
                go_ret
                exact ⟨by first | rfl | (simp; done) | (simp [*]; done), by repeat (first | exact Drawn0.refl _ | apply Drawn0.step)⟩
              · rw [if_neg c19] at H
                have c19b0 : (a0 == 95) = false := beq_eq_false_iff_ne.mpr c19
                have c19b1 : (a0 != 95) = true := bne_iff_ne.mpr c19
                by_cases c20 : a0 = 45
                · rw [if_pos c20] at H
                  have c20b0 : (a0 == 45) = true := beq_iff_eq.mpr c20
                  have c20b1 : (a0 != 45) = false := bne_eq_false_iff_eq.mpr c20
                  clear c20
                  obtain rfl := Option.some.inj H
                  go_enter Tryd.func39, Tryd.ntmps39
                  go_wp2
                  go_ret
                  exact ⟨by first | rfl | (simp; done) | (simp [*]; done), by repeat (first | exact Drawn0.refl _ | apply Drawn0.step)⟩
                · rw [if_neg c20] at H
                  have c20b0 : (a0 == 45) = false := beq_eq_false_iff_ne.mpr c20
                  have c20b1 : (a0 != 45) = true := bne_iff_ne.mpr c20
                  by_cases c21 : a0 = 43
                  · rw [if_pos c21] at H
                    have c21b0 : (a0 == 43) = true := beq_iff_eq.mpr c21
                    have c21b1 : (a0 != 43) = false := bne_eq_false_iff_eq.mpr c21
                    clear c21
                    obtain rfl := Option.some.inj H
                    go_enter Tryd.func39, Tryd.ntmps39
                    go_wp2
                    go_ret
                    exact ⟨by first | rfl | (simp; done) | (simp [*]; done), by repeat (first | exact Drawn0.refl _ | apply Drawn0.step)⟩
                  · rw [if_neg c21] at H
                    have c21b0 : (a0 == 43) = false := beq_eq_false_iff_ne.mpr c21
                    have c21b1 : (a0 != 43) = true := bne_iff_ne.mpr c21
                    obtain rfl := Option.some.inj H
                    go_enter Tryd.func39, Tryd.ntmps39
                    go_wp2
                    go_ret
                    exact ⟨by first | rfl | (simp; done) | (simp [*]; done), by repeat (first | exact Drawn0.refl _ | apply Drawn0.step)⟩
        · rw [if_neg c16] at H
          have c16b0 : decide (48 ≤ a0) = false := decide_eq_false c16
          clear c16
          by_cases c22 : a0 = 46
          · rw [if_pos c22] at H
            have c22b0 : (a0 == 46) = true := beq_iff_eq.mpr c22
            have c22b1 : (a0 != 46) = false := bne_eq_false_iff_eq.mpr c22
            clear c22
            obtain rfl := Option.some.inj H
            go_enter Tryd.func39, Tryd.ntmps39
            go_wp2
            go_ret
            exact ⟨by first | rfl | (simp; done) | (simp [*]; done), by repeat (first | exact Drawn0.refl _ | apply Drawn0.step)⟩
          · rw [if_neg c22] at H
            have c22b0 : (a0 == 46) = false := beq_eq_false_iff_ne.mpr c22
            have c22b1 : (a0 != 46) = true := bne_iff_ne.mpr c22
            by_cases c23 : a0 = 95
            · rw [if_pos c23] at H
              have c23b0 : (a0 == 95) = true := beq_iff_eq.mpr c23
              have c23b1 : (a0 != 95) = false := bne_eq_false_iff_eq.mpr c23
              clear c23
              obtain rfl := Option.some.inj H
              go_enter Tryd.func39, Tryd.ntmps39
              go_wp2
              go_ret
              exact ⟨by first | rfl | (simp; done) | (simp [*]; done), by repeat (first | exact Drawn0.refl _ | apply Drawn0.step)⟩
            · rw [if_neg c23] at H
              have c23b0 : (a0 == 95) = false := beq_eq_false_iff_ne.mpr c23
              have c23b1 : (a0 != 95) = true := bne_iff_ne.mpr c23
              by_cases c24 : a0 = 45
              · rw [if_pos c24] at H
                have c24b0 : (a0 == 45) = true := beq_iff_eq.mpr c24
                have c24b1 : (a0 != 45) = false := bne_eq_false_iff_eq.mpr c24
                clear c24
                obtain rfl := Option.some.inj H
                go_enter Tryd.func39, Tryd.ntmps39
                go_wp2
                go_ret
                exact ⟨by first | rfl | (simp; done) | (simp [*]; done), by repeat (first | exact Drawn0.refl _ | apply Drawn0.step)⟩
              · rw [if_neg c24] at H
                have c24b0 : (a0 == 45) = false := beq_eq_false_iff_ne.mpr c24
                have c24b1 : (a0 != 45) = true := bne_iff_ne.mpr c24
                by_cases c25 : a0 = 43
                · rw [if_pos c25] at H
                  have c25b0 : (a0 == 43) = true := beq_iff_eq.mpr c25
                  have c25b1 : (a0 != 43) = false := bne_eq_false_iff_eq.mpr c25
                  clear c25
                  obtain rfl := Option.some.inj H
                  go_enter Tryd.func39, Tryd.ntmps39
                  go_wp2
                  go_ret
                  exact ⟨by first | rfl | (simp; done) | (simp [*]; done), by repeat (first | exact Drawn0.refl _ | apply Drawn0.step)⟩
                · rw [if_neg c25] at H
                  have c25b0 : (a0 == 43) = false := beq_eq_false_iff_ne.mpr c25
                  have c25b1 : (a0 != 43) = true := bne_iff_ne.mpr c25
                  obtain rfl := Option.some.inj H
                  go_enter Tryd.func39, Tryd.ntmps39
                  go_wp2
                  go_ret
                  exact ⟨by first | rfl | (simp; done) | (simp [*]; done), by repeat (first | exact Drawn0.refl _ | apply Drawn0.step)⟩
  · rw [if_neg c2] at H
    have c2b0 : decide (97 ≤ a0) = false := decide_eq_false c2
    clear c2
    by_cases c26 : a0 ≥ 65
    · rw [if_pos c26] at H
      have c26b0 : decide (65 ≤ a0) = true := decide_eq_true c26
      clear c26
      by_cases c27 : a0 ≤ 90
      · rw [if_pos c27] at H
        have c27b0 : decide (a0 ≤ 90) = true := decide_eq_true c27
        clear c27
        obtain rfl := Option.some.inj H
        go_enter Tryd.func39, Tryd.ntmps39
        go_wp2
        go_ret
        exact ⟨by first | rfl | (simp; done) | (simp [*]; done), by repeat (first | exact Drawn0.refl _ | apply Drawn0.step)⟩
      · rw [if_neg c27] at H
        have c27b0 : decide (a0 ≤ 90) = false := decide_eq_false c27
        clear c27
        by_cases c28 : a0 ≥ 48
        · rw [if_pos c28] at H
          have c28b0 : decide (48 ≤ a0) = true := decide_eq_true c28
          clear c28
          by_cases c29 : a0 ≤ 57
          · rw [if_pos c29] at H
            have c29b0 : decide (a0 ≤ 57) = true := decide_eq_true c29
            clear c29
            obtain rfl := Option.some.inj H
            go_enter Tryd.func39, Tryd.ntmps39
            go_wp2
            go_ret
            exact ⟨by first | rfl | (simp; done) | (simp [*]; done), by repeat (first | exact Drawn0.refl _ | apply Drawn0.step)⟩
          · rw [if_neg c29] at H
            have c29b0 : decide (a0 ≤ 57) = false := decide_eq_false c29
            clear c29
            by_cases c30 : a0 = 46
            · rw [if_pos c30] at H
              have c30b0 : (a0 == 46) = true := beq_iff_eq.mpr c30
              have c30b1 : (a0 != 46) = false := bne_eq_false_iff_eq.mpr c30
              clear c30
              obtain rfl := Option.some.inj H
              go_enter Tryd.func39, Tryd.ntmps39
              go_wp2
              go_ret
              exact ⟨by first | rfl | (simp; done) | (simp [*]; done), by repeat (first | exact Drawn0.refl _ | apply Drawn0.step)⟩
            · rw [if_neg c30] at H
              have c30b0 : (a0 == 46) = false := beq_eq_false_iff_ne.mpr c30
              have c30b1 : (a0 != 46) = true := bne_iff_ne.mpr c30
              by_cases c31 : a0 = 95
              · rw [if_pos c31] at H
                have c31b0 : (a0 == 95) = true := beq_iff_eq.mpr c31
                have c31b1 : (a0 != 95) = false := bne_eq_false_iff_eq.mpr c31
                clear c31
                obtain rfl := Option.some.inj H
                go_enter Tryd.func39, Tryd.ntmps39
                go_wp2
                go_ret
                exact ⟨by first | rfl | (simp; done) | (simp [*]; done), by repeat (first | exact Drawn0.refl _ | apply Drawn0.step)⟩
              · rw [if_neg c31] at H
                have c31b0 : (a0 == 95) = false := beq_eq_false_iff_ne.mpr c31
                have c31b1 : (a0 != 95) = true := bne_iff_ne.mpr c31
                by_cases c32 : a0 = 45
                · rw [if_pos c32] at H
                  have c32b0 : (a0 == 45) = true := beq_iff_eq.mpr c32
                  have c32b1 : (a0 != 45) = false := bne_eq_false_iff_eq.mpr c32
                  clear c32
                  obtain rfl := Option.some.inj H
                  go_enter Tryd.func39, Tryd.ntmps39
                  go_wp2
                  go_ret
                  exact ⟨by first | rfl | (simp; done) | (simp [*]; done), by repeat (first | exact Drawn0.refl _ | apply Drawn0.step)⟩
                · rw [if_neg c32] at H
                  have c32b0 : (a0 == 45) = false := beq_eq_false_iff_ne.mpr c32
                  have c32b1 : (a0 != 45) = true := bne_iff_ne.mpr c32
                  by_cases c33 : a0 = 43
                  · rw [if_pos c33] at H
                    have c33b0 : (a0 == 43) = true := beq_iff_eq.mpr c33
                    have c33b1 : (a0 != 43) = false := bne_eq_false_iff_eq.mpr c33
                    clear c33
                    obtain rfl := Option.some.inj H
                    go_enter Tryd.func39, Tryd.ntmps39
                    go_wp2
                    go_ret
                    exact ⟨by first | rfl | (simp; done) | (simp [*]; done), by repeat (first | exact Drawn0.refl _ | apply Drawn0.step)⟩
                  · rw [if_neg c33] at H
                    have c33b0 : (a0 == 43) = false := beq_eq_false_iff_ne.mpr c33
                    have c33b1 : (a0 != 43) = true := bne_iff_ne.mpr c33
                    obtain rfl := Option.some.inj H
                    go_enter Tryd.func39, Tryd.ntmps39
                    go_wp2
                    go_ret
                    exact ⟨by first | rfl | (simp; done) | (simp [*]; done), by repeat (first | exact Drawn0.refl _ | apply Drawn0.step)⟩
        · rw [if_neg c28] at H
          have c28b0 : decide (48 ≤ a0) = false := decide_eq_false c28
          clear c28
          by_cases c34 : a0 = 46
          · rw [if_pos c34] at H
            have c34b0 : (a0 == 46) = true := beq_iff_eq.mpr c34
            have c34b1 : (a0 != 46) = false := bne_eq_false_iff_eq.mpr c34
            clear c34
            obtain rfl := Option.some.inj H
            go_enter Tryd.func39, Tryd.ntmps39
            go_wp2
            go_ret
            exact ⟨by first | rfl | (simp; done) | (simp [*]; done), by repeat (first | exact Drawn0.refl _ | apply Drawn0.step)⟩
          · rw [if_neg c34] at H
            have c34b0 : (a0 == 46) = false := beq_eq_false_iff_ne.mpr c34
            have c34b1 : (a0 != 46) = true := bne_iff_ne.mpr c34
            by_cases c35 : a0 = 95
            · rw [if_pos c35] at H
              have c35b0 : (a0 == 95) = true := beq_iff_eq.mpr c35
              have c35b1 : (a0 != 95) = false := bne_eq_false_iff_eq.mpr c35
              clear c35
              obtain rfl := Option.some.inj H
              go_enter Tryd.func39, Tryd.ntmps39
              go_wp2
              go_ret
              exact ⟨by first | rfl | (simp; done) | (simp [*]; done), by repeat (first | exact Drawn0.refl _ | apply Drawn0.step)⟩
            · rw [if_neg c35] at H
              have c35b0 : (a0 == 95) = false := beq_eq_false_iff_ne.mpr c35
              have c35b1 : (a0 != 95) = true := bne_iff_ne.mpr c35
              by_cases c36 : a0 = 45
              · rw [if_pos c36] at H
                have c36b0 : (a0 == 45) = true := beq_iff_eq.mpr c36
                have c36b1 : (a0 != 45) = false := bne_eq_false_iff_eq.mpr c36
                clear c36
                obtain rfl := Option.some.inj H
                go_enter Tryd.func39, Tryd.ntmps39
                go_wp2
                go_ret
                exact ⟨by first | rfl | (simp; done) | (simp [*]; done), by repeat (first | exact Drawn0.refl _ | apply Drawn0.step)⟩
              · rw [if_neg c36] at H
                have c36b0 : (a0 == 45) = false := beq_eq_false_iff_ne.mpr c36
                have c36b1 : (a0 != 45) = true := bne_iff_ne.mpr c36
                by_cases c37 : a0 = 43
                · rw [if_pos c37] at H
                  have c37b0 : (a0 == 43) = true := beq_iff_eq.mpr c37
                  have c37b1 : (a0 != 43) = false := bne_eq_false_iff_eq.mpr c37
                  clear c37
                  obtain rfl := Option.some.inj H
                  go_enter Tryd.func39, Tryd.ntmps39
                  go_wp2
                  go_ret
                  exact ⟨by first | rfl | (simp; done) | (simp [*]; done), by repeat (first | exact Drawn0.refl _ | apply Drawn0.step)⟩
                · rw [if_neg c37] at H
                  have c37b0 : (a0 == 43) = false := beq_eq_false_iff_ne.mpr c37
                  have c37b1 : (a0 != 43) = true := bne_iff_ne.mpr c37
                  obtain rfl := Option.some.inj H
                  go_enter Tryd.func39, Tryd.ntmps39
                  go_wp2
                  go_ret
                  exact ⟨by first | rfl | (simp; done) | (simp [*]; done), by repeat (first | exact Drawn0.refl _ | apply Drawn0.step)⟩
    · rw [if_neg c26] at H
      have c26b0 : decide (65 ≤ a0) = false := decide_eq_false c26
      clear c26
      by_cases c38 : a0 ≥ 48
      · rw [if_pos c38] at H
        have c38b0 : decide (48 ≤ a0) = true := decide_eq_true c38
        clear c38
        by_cases c39 : a0 ≤ 57
        · rw [if_pos c39] at H
          have c39b0 : decide (a0 ≤ 57) = true := decide_eq_true c39
          clear c39
          obtain rfl := Option.some.inj H
          go_enter Tryd.func39, Tryd.ntmps39
          go_wp2
          go_ret
          exact ⟨by first | rfl | (simp; done) | (simp [*]; done), by repeat (first | exact Drawn0.refl _ | apply Drawn0.step)⟩
        · rw [if_neg c39] at H
          have c39b0 : decide (a0 ≤ 57) = false := decide_eq_false c39
          clear c39
          by_cases c40 : a0 = 46
          · rw [if_pos c40] at H
            have c40b0 : (a0 == 46) = true := beq_iff_eq.mpr c40
            have c40b1 : (a0 != 46) = false := bne_eq_false_iff_eq.mpr c40
            clear c40
            obtain rfl := Option.some.inj H
            go_enter Tryd.func39, Tryd.ntmps39
            go_wp2
            go_ret
            exact ⟨by first | rfl | (simp; done) | (simp [*]; done), by repeat (first | exact Drawn0.refl _ | apply Drawn0.step)⟩
          · rw [if_neg c40] at H
            have c40b0 : (a0 == 46) = false := beq_eq_false_iff_ne.mpr c40
            have c40b1 : (a0 != 46) = true := bne_iff_ne.mpr c40
            by_cases c41 : a0 = 95
            · rw [if_pos c41] at H
              have c41b0 : (a0 == 95) = true := beq_iff_eq.mpr c41
              have c41b1 : (a0 != 95) = false := bne_eq_false_iff_eq.mpr c41
              clear c41
              obtain rfl := Option.some.inj H
              go_enter Tryd.func39, Tryd.ntmps39
              go_wp2
              go_ret
              exact ⟨by first | rfl | (simp; done) | (simp [*]; done), by repeat (first | exact Drawn0.refl _ | apply Drawn0.step)⟩
            · rw [if_neg c41] at H
              have c41b0 : (a0 == 95) = false := beq_eq_false_iff_ne.mpr c41
              have c41b1 : (a0 != 95) = true := bne_iff_ne.mpr c41
              by_cases c42 : a0 = 45
              · rw [if_pos c42] at H
                have c42b0 : (a0 == 45) = true := beq_iff_eq.mpr c42
                have c42b1 : (a0 != 45) = false := bne_eq_false_iff_eq.mpr c42
                clear c42
                obtain rfl := Option.some.inj H
                go_enter Tryd.func39, Tryd.ntmps39
                go_wp2
                go_ret
                exact ⟨by first | rfl | (simp; done) | (simp [*]; done), by repeat (first | exact Drawn0.refl _ | apply Drawn0.step)⟩
              · rw [if_neg c42] at H
                have c42b0 : (a0 == 45) = false := beq_eq_false_iff_ne.mpr c42
                have c42b1 : (a0 != 45) = true := bne_iff_ne.mpr c42
                by_cases c43 : a0 = 43
                · rw [if_pos c43] at H
                  have c43b0 : (a0 == 43) = true := beq_iff_eq.mpr c43
                  have c43b1 : (a0 != 43) = false := bne_eq_false_iff_eq.mpr c43
                  clear c43
                  obtain rfl := Option.some.inj H
                  go_enter Tryd.func39, Tryd.ntmps39
                  go_wp2
                  go_ret
                  exact ⟨by first | rfl | (simp; done) | (simp [*]; done), by repeat (first | exact Drawn0.refl _ | apply Drawn0.step)⟩
                · rw [if_neg c43] at H
                  have c43b0 : (a0 == 43) = false := beq_eq_false_iff_ne.mpr c43
                  have c43b1 : (a0 != 43) = true := bne_iff_ne.mpr c43
                  obtain rfl := Option.some.inj H
                  go_enter Tryd.func39, Tryd.ntmps39
                  go_wp2
                  go_ret
                  exact ⟨by first | rfl | (simp; done) | (simp [*]; done), by repeat (first | exact Drawn0.refl _ | apply Drawn0.step)⟩
      · rw [if_neg c38] at H
        have c38b0 : decide (48 ≤ a0) = false := decide_eq_false c38
        clear c38
        by_cases c44 : a0 = 46
        · rw [if_pos c44] at H
          have c44b0 : (a0 == 46) = true := beq_iff_eq.mpr c44
          have c44b1 : (a0 != 46) = false := bne_eq_false_iff_eq.mpr c44
          clear c44
          obtain rfl := Option.some.inj H
          go_enter Tryd.func39, Tryd.ntmps39
          go_wp2
          go_ret
          exact ⟨by first | rfl | (simp; done) | (simp [*]; done), by repeat (first | exact Drawn0.refl _ | apply Drawn0.step)⟩
        · rw [if_neg c44] at H
          have c44b0 : (a0 == 46) = false := beq_eq_false_iff_ne.mpr c44
          have c44b1 : (a0 != 46) = true := bne_iff_ne.mpr c44
          by_cases c45 : a0 = 95
          · rw [if_pos c45] at H
            have c45b0 : (a0 == 95) = true := beq_iff_eq.mpr c45
            have c45b1 : (a0 != 95) = false := bne_eq_false_iff_eq.mpr c45
            clear c45
            obtain rfl := Option.some.inj H
            go_enter Tryd.func39, Tryd.ntmps39
            go_wp2
            go_ret
            exact ⟨by first | rfl | (simp; done) | (simp [*]; done), by repeat (first | exact Drawn0.refl _ | apply Drawn0.step)⟩
          · rw [if_neg c45] at H
            have c45b0 : (a0 == 95) = false := beq_eq_false_iff_ne.mpr c45
            have c45b1 : (a0 != 95) = true := bne_iff_ne.mpr c45
            by_cases c46 : a0 = 45
            · rw [if_pos c46] at H
              have c46b0 : (a0 == 45) = true := beq_iff_eq.mpr c46
              have c46b1 : (a0 != 45) = false := bne_eq_false_iff_eq.mpr c46
              clear c46
              obtain rfl := Option.some.inj H
              go_enter Tryd.func39, Tryd.ntmps39
              go_wp2
              go_ret
              exact ⟨by first | rfl | (simp; done) | (simp [*]; done), by repeat (first | exact Drawn0.refl _ | apply Drawn0.step)⟩
            · rw [if_neg c46] at H
              have c46b0 : (a0 == 45) = false := beq_eq_false_iff_ne.mpr c46
              have c46b1 : (a0 != 45) = true := bne_iff_ne.mpr c46
              by_cases c47 : a0 = 43
              · rw [if_pos c47] at H
                have c47b0 : (a0 == 43) = true := beq_iff_eq.mpr c47
                have c47b1 : (a0 != 43) = false := bne_eq_false_iff_eq.mpr c47
                clear c47
                obtain rfl := Option.some.inj H
                go_enter Tryd.func39, Tryd.ntmps39
                go_wp2
                go_ret
                exact ⟨by first | rfl | (simp; done) | (simp [*]; done), by repeat (first | exact Drawn0.refl _ | apply Drawn0.step)⟩
              · rw [if_neg c47] at H
                have c47b0 : (a0 == 43) = false := beq_eq_false_iff_ne.mpr c47
                have c47b1 : (a0 != 43) = true := bne_iff_ne.mpr c47
                obtain rfl := Option.some.inj H
                go_enter Tryd.func39, Tryd.ntmps39
                go_wp2
                go_ret
                exact ⟨by first | rfl | (simp; done) | (simp [*]; done), by repeat (first | exact Drawn0.refl _ | apply Drawn0.step)⟩
end Go.Proofs.YteniakfclkdlfaaDoor.P
end
section
namespace Go.Proofs.YteniakfclkdlfaaDoor.P
open Go.RowKit Go.Proofs.YteniakfclkdlfaaDoorW.PrintWords Go.Proofs.YteniakfclkdlfaaDoorW.PrintLast Go.Proofs.YteniakfclkdlfaaDoorW.PrintMore
attribute [local go_sem] max2_int min2_int max_two min_two max_three min_three max_four min_four
set_option linter.unusedVariables false
set_option linter.unusedSimpArgs false
mutual
def bellowsref03_Clean.l0 : Nat → ByteArray → Int → Option (ByteArray × Int)
  | 0, _, _ => none
  | k + 1, x0, x4 => if x4 < (x0.size : Int) then (if 0 ≤ x4 then ((bellowsref03_plain.f (bt x0 x4)).bind fun t125 => (if t125 = true then (if x4 = 0 then (if (bt x0 x4) = 47 then (some ((⟨#[]⟩ : ByteArray), 5)) else (bellowsref03_Clean.l0 k x0 (wrap64 (x4 + 1)))) else (bellowsref03_Clean.l0 k x0 (wrap64 (x4 + 1)))) else (some ((⟨#[]⟩ : ByteArray), 5)))) else (none)) else (bellowsref03_Clean.l1 k x0 ([] : List ByteArray) 0 0)
def bellowsref03_Clean.l1 : Nat → ByteArray → List ByteArray → Int → Int → Option (ByteArray × Int)
  | 0, _, _, _, _ => none
  | k + 1, x0, x5, x6, x7 => if x7 ≤ (x0.size : Int) then (if x7 < (x0.size : Int) then (if 0 ≤ x7 then (bellowsref03_Clean.j2 k x0 x5 x6 x7 ((bt x0 x7) != 47)) else (none)) else (bellowsref03_Clean.j2 k x0 x5 x6 x7 false)) else (bellowsref03_Clean.l2 k x5 (⟨#[]⟩ : ByteArray) 0)
def bellowsref03_Clean.j2 : Nat → ByteArray → List ByteArray → Int → Int → Bool → Option (ByteArray × Int)
  | 0, _, _, _, _, _ => none
  | k + 1, x0, x5, x6, x7, x50 => if x50 = true then (bellowsref03_Clean.l1 k x0 x5 x6 (wrap64 (x7 + 1))) else (if 0 ≤ x6 then (if x6 ≤ x7 then (if x7 ≤ (x0.size : Int) then (if (x0.extract (x6 : Int).toNat (x7 : Int).toNat).toList = ([] : List UInt8) then (bellowsref03_Clean.j3 k x0 x5 (wrap64 (x7 + 1)) x7 (x0.extract (x6 : Int).toNat (x7 : Int).toNat) true) else (bellowsref03_Clean.j3 k x0 x5 (wrap64 (x7 + 1)) x7 (x0.extract (x6 : Int).toNat (x7 : Int).toNat) ((x0.extract (x6 : Int).toNat (x7 : Int).toNat).toList == ([46] : List UInt8)))) else (none)) else (none)) else (none))
def bellowsref03_Clean.j3 : Nat → ByteArray → List ByteArray → Int → Int → ByteArray → Bool → Option (ByteArray × Int)
  | 0, _, _, _, _, _, _ => none
  | k + 1, x0, x5, x6, x7, x8, x62 => if x62 = true then (bellowsref03_Clean.l1 k x0 x5 x6 (wrap64 (x7 + 1))) else (if x8.toList = ([46, 46] : List UInt8) then (bellowsref03_Clean.j4 k x0 x5 x6 x7 x8 ((x5.length : Int) == 0)) else (bellowsref03_Clean.j4 k x0 x5 x6 x7 x8 false))
def bellowsref03_Clean.j4 : Nat → ByteArray → List ByteArray → Int → Int → ByteArray → Bool → Option (ByteArray × Int)
  | 0, _, _, _, _, _, _ => none
  | k + 1, x0, x5, x6, x7, x8, x69 => if x69 = true then (some ((⟨#[]⟩ : ByteArray), 5)) else (if x8.toList = ([46, 46] : List UInt8) then (if 0 ≤ (wrap64 ((x5.length : Int) - 1)) then (if (wrap64 ((x5.length : Int) - 1)) ≤ (x5.length : Int) then (bellowsref03_Clean.l1 k x0 (x5.take ((wrap64 ((x5.length : Int) - 1)) : Int).toNat) x6 (wrap64 (x7 + 1))) else (none)) else (none)) else (if x5.length < 8796093022208 then (bellowsref03_Clean.l1 k x0 (x5 ++ [x8]) x6 (wrap64 (x7 + 1))) else (none)))
def bellowsref03_Clean.l2 : Nat → List ByteArray → ByteArray → Int → Option (ByteArray × Int)
  | 0, _, _, _ => none
  | k + 1, x5, x9, x10 => if x10 < (x5.length : Int) then (if x10 > 0 then (if x9.size + 1 ≤ 9223372036854775807 then (if 0 ≤ x10 then (if (x9 ++ (⟨#[47]⟩ : ByteArray)).size + (rdOf ByteArray.empty x5 x10).size ≤ 9223372036854775807 then (bellowsref03_Clean.l2 k x5 ((x9 ++ (⟨#[47]⟩ : ByteArray)) ++ (rdOf ByteArray.empty x5 x10)) (wrap64 (x10 + 1))) else (none)) else (none)) else (none)) else (if 0 ≤ x10 then (if x9.size + (rdOf ByteArray.empty x5 x10).size ≤ 9223372036854775807 then (bellowsref03_Clean.l2 k x5 (x9 ++ (rdOf ByteArray.empty x5 x10)) (wrap64 (x10 + 1))) else (none)) else (none))) else (if x9.toList = ([] : List UInt8) then (some ((⟨#[]⟩ : ByteArray), 5)) else (if (x9.size : Int) > 100 then (some ((⟨#[]⟩ : ByteArray), 3)) else (some (x9, 0))))
end
def bellowsref03_Clean.f (k : Nat) (a0 : ByteArray) : Option (ByteArray × Int) := if (a0.size : Int) > 1000 then (some ((⟨#[]⟩ : ByteArray), 3)) else (bellowsref03_Clean.l0 k a0 0)
theorem bellowsref03_Clean.mono_l : ∀ k, (∀ y0 y1, LeO (bellowsref03_Clean.l0 k y0 y1) (bellowsref03_Clean.l0 (k + 1) y0 y1)) ∧ (∀ y0 y1 y2 y3, LeO (bellowsref03_Clean.l1 k y0 y1 y2 y3) (bellowsref03_Clean.l1 (k + 1) y0 y1 y2 y3)) ∧ (∀ y0 y1 y2 y3 y4, LeO (bellowsref03_Clean.j2 k y0 y1 y2 y3 y4) (bellowsref03_Clean.j2 (k + 1) y0 y1 y2 y3 y4)) ∧ (∀ y0 y1 y2 y3 y4 y5, LeO (bellowsref03_Clean.j3 k y0 y1 y2 y3 y4 y5) (bellowsref03_Clean.j3 (k + 1) y0 y1 y2 y3 y4 y5)) ∧ (∀ y0 y1 y2 y3 y4 y5, LeO (bellowsref03_Clean.j4 k y0 y1 y2 y3 y4 y5) (bellowsref03_Clean.j4 (k + 1) y0 y1 y2 y3 y4 y5)) ∧ (∀ y0 y1 y2, LeO (bellowsref03_Clean.l2 k y0 y1 y2) (bellowsref03_Clean.l2 (k + 1) y0 y1 y2))
  | 0 => ⟨fun _ _ r h => by simp [bellowsref03_Clean.l0] at h, fun _ _ _ _ r h => by simp [bellowsref03_Clean.l1] at h, fun _ _ _ _ _ r h => by simp [bellowsref03_Clean.j2] at h, fun _ _ _ _ _ _ r h => by simp [bellowsref03_Clean.j3] at h, fun _ _ _ _ _ _ r h => by simp [bellowsref03_Clean.j4] at h, fun _ _ _ r h => by simp [bellowsref03_Clean.l2] at h⟩
  | k + 1 => by
    obtain ⟨ih0, ih1, ih2, ih3, ih4, ih5⟩ := bellowsref03_Clean.mono_l k
    refine ⟨?_, ?_, ?_, ?_, ?_, ?_⟩
    · intro y0 y1
      unfold bellowsref03_Clean.l0
      repeat' first
      | (with_reducible exact ih0 _ _)
      | (with_reducible exact ih1 _ _ _ _)
      | (with_reducible exact ih2 _ _ _ _ _)
      | (with_reducible exact ih3 _ _ _ _ _ _)
      | (with_reducible exact ih4 _ _ _ _ _ _)
      | (with_reducible exact ih5 _ _ _)
      | (with_reducible exact LeO.refl _)
      | (with_reducible exact LeO.none _)
      | (with_reducible refine LeO.ite ?_ ?_)
      | (with_reducible refine LeO.bind ?_ (fun _ => ?_))
      | exact ih0 _ _
      | exact ih1 _ _ _ _
      | exact ih2 _ _ _ _ _
      | exact ih3 _ _ _ _ _ _
      | exact ih4 _ _ _ _ _ _
      | exact ih5 _ _ _
      | exact LeO.none _
      | refine LeO.ite ?_ ?_
      | refine LeO.bind ?_ (fun _ => ?_)
    · intro y0 y1 y2 y3
      unfold bellowsref03_Clean.l1
      repeat' first
      | (with_reducible exact ih0 _ _)
      | (with_reducible exact ih1 _ _ _ _)
      | (with_reducible exact ih2 _ _ _ _ _)
      | (with_reducible exact ih3 _ _ _ _ _ _)
      | (with_reducible exact ih4 _ _ _ _ _ _)
      | (with_reducible exact ih5 _ _ _)
      | (with_reducible exact LeO.refl _)
      | (with_reducible exact LeO.none _)
      | (with_reducible refine LeO.ite ?_ ?_)
      | (with_reducible refine LeO.bind ?_ (fun _ => ?_))
      | exact ih0 _ _
      | exact ih1 _ _ _ _
      | exact ih2 _ _ _ _ _
      | exact ih3 _ _ _ _ _ _
      | exact ih4 _ _ _ _ _ _
      | exact ih5 _ _ _
      | exact LeO.none _
      | refine LeO.ite ?_ ?_
      | refine LeO.bind ?_ (fun _ => ?_)
    · intro y0 y1 y2 y3 y4
      unfold bellowsref03_Clean.j2
      repeat' first
      | (with_reducible exact ih0 _ _)
      | (with_reducible exact ih1 _ _ _ _)
      | (with_reducible exact ih2 _ _ _ _ _)
      | (with_reducible exact ih3 _ _ _ _ _ _)
      | (with_reducible exact ih4 _ _ _ _ _ _)
      | (with_reducible exact ih5 _ _ _)
      | (with_reducible exact LeO.refl _)
      | (with_reducible exact LeO.none _)
      | (with_reducible refine LeO.ite ?_ ?_)
      | (with_reducible refine LeO.bind ?_ (fun _ => ?_))
      | exact ih0 _ _
      | exact ih1 _ _ _ _
      | exact ih2 _ _ _ _ _
      | exact ih3 _ _ _ _ _ _
      | exact ih4 _ _ _ _ _ _
      | exact ih5 _ _ _
      | exact LeO.none _
      | refine LeO.ite ?_ ?_
      | refine LeO.bind ?_ (fun _ => ?_)
    · intro y0 y1 y2 y3 y4 y5
      unfold bellowsref03_Clean.j3
      repeat' first
      | (with_reducible exact ih0 _ _)
      | (with_reducible exact ih1 _ _ _ _)
      | (with_reducible exact ih2 _ _ _ _ _)
      | (with_reducible exact ih3 _ _ _ _ _ _)
      | (with_reducible exact ih4 _ _ _ _ _ _)
      | (with_reducible exact ih5 _ _ _)
      | (with_reducible exact LeO.refl _)
      | (with_reducible exact LeO.none _)
      | (with_reducible refine LeO.ite ?_ ?_)
      | (with_reducible refine LeO.bind ?_ (fun _ => ?_))
      | exact ih0 _ _
      | exact ih1 _ _ _ _
      | exact ih2 _ _ _ _ _
      | exact ih3 _ _ _ _ _ _
      | exact ih4 _ _ _ _ _ _
      | exact ih5 _ _ _
      | exact LeO.none _
      | refine LeO.ite ?_ ?_
      | refine LeO.bind ?_ (fun _ => ?_)
    · intro y0 y1 y2 y3 y4 y5
      unfold bellowsref03_Clean.j4
      repeat' first
      | (with_reducible exact ih0 _ _)
      | (with_reducible exact ih1 _ _ _ _)
      | (with_reducible exact ih2 _ _ _ _ _)
      | (with_reducible exact ih3 _ _ _ _ _ _)
      | (with_reducible exact ih4 _ _ _ _ _ _)
      | (with_reducible exact ih5 _ _ _)
      | (with_reducible exact LeO.refl _)
      | (with_reducible exact LeO.none _)
      | (with_reducible refine LeO.ite ?_ ?_)
      | (with_reducible refine LeO.bind ?_ (fun _ => ?_))
      | exact ih0 _ _
      | exact ih1 _ _ _ _
      | exact ih2 _ _ _ _ _
      | exact ih3 _ _ _ _ _ _
      | exact ih4 _ _ _ _ _ _
      | exact ih5 _ _ _
      | exact LeO.none _
      | refine LeO.ite ?_ ?_
      | refine LeO.bind ?_ (fun _ => ?_)
    · intro y0 y1 y2
      unfold bellowsref03_Clean.l2
      repeat' first
      | (with_reducible exact ih0 _ _)
      | (with_reducible exact ih1 _ _ _ _)
      | (with_reducible exact ih2 _ _ _ _ _)
      | (with_reducible exact ih3 _ _ _ _ _ _)
      | (with_reducible exact ih4 _ _ _ _ _ _)
      | (with_reducible exact ih5 _ _ _)
      | (with_reducible exact LeO.refl _)
      | (with_reducible exact LeO.none _)
      | (with_reducible refine LeO.ite ?_ ?_)
      | (with_reducible refine LeO.bind ?_ (fun _ => ?_))
      | exact ih0 _ _
      | exact ih1 _ _ _ _
      | exact ih2 _ _ _ _ _
      | exact ih3 _ _ _ _ _ _
      | exact ih4 _ _ _ _ _ _
      | exact ih5 _ _ _
      | exact LeO.none _
      | refine LeO.ite ?_ ?_
      | refine LeO.bind ?_ (fun _ => ?_)
theorem bellowsref03_Clean.mono : ∀ a0 k, LeO (bellowsref03_Clean.f k a0) (bellowsref03_Clean.f (k + 1) a0) := by
  intro a0 k
  obtain ⟨ih0, ih1, ih2, ih3, ih4, ih5⟩ := bellowsref03_Clean.mono_l k
  unfold bellowsref03_Clean.f
  repeat' first
      | (with_reducible exact ih0 _ _)
      | (with_reducible exact ih1 _ _ _ _)
      | (with_reducible exact ih2 _ _ _ _ _)
      | (with_reducible exact ih3 _ _ _ _ _ _)
      | (with_reducible exact ih4 _ _ _ _ _ _)
      | (with_reducible exact ih5 _ _ _)
      | (with_reducible exact LeO.refl _)
      | (with_reducible exact LeO.none _)
      | (with_reducible refine LeO.ite ?_ ?_)
      | (with_reducible refine LeO.bind ?_ (fun _ => ?_))
      | exact ih0 _ _
      | exact ih1 _ _ _ _
      | exact ih2 _ _ _ _ _
      | exact ih3 _ _ _ _ _ _
      | exact ih4 _ _ _ _ _ _
      | exact ih5 _ _ _
      | exact LeO.none _
      | refine LeO.ite ?_ ?_
      | refine LeO.bind ?_ (fun _ => ?_)
set_option maxHeartbeats 8000000 in
set_option maxRecDepth 100000 in
theorem bellowsref03_Clean.calls (k : Nat) (a0 : ByteArray) (r1 : ByteArray) (r2 : Int) (w : World) (h : bellowsref03_Clean.f k a0 = some (r1, r2)) :
    Calls Tryd.prog 21 #[.string a0] w fun e w' => e = .returned (.tuple #[.string r1, .int .i64 r2]) ∧ Below w.heap.size w w' := by
  have HB := Aside0.mk (Below.refl w.heap.size w)
  have H : (if (a0.size : Int) > 1000 then (some ((⟨#[]⟩ : ByteArray), 3)) else (bellowsref03_Clean.l0 k a0 0)) = some (r1, r2) := h
  clear h
  by_cases c2 : (a0.size : Int) > 1000
  · rw [if_pos c2] at H
    have c2b0 : decide (1000 < (a0.size : Int)) = true := decide_eq_true c2
    have c2b1 : decide (1000 < a0.size) = true := decide_eq_true (by omega)
    clear c2
    simp only [Option.some.injEq, Prod.mk.injEq] at H
    obtain ⟨rfl, rfl⟩ := H
    go_enter Tryd.func21, Tryd.ntmps21
    go_wp2
    go_ret2
    exact ⟨by first | rfl | (simp [errW_none, errW_some] <;> rfl) | (simp [*, errW_none, errW_some] <;> rfl), by repeat (first | (with_reducible first | exact HB.out | apply below_alloc | apply pw_below_drewN | apply below_drew1) | exact HB.out)⟩
  · rw [if_neg c2] at H
    have c2b0 : decide (1000 < (a0.size : Int)) = false := decide_eq_false c2
    have c2b1 : decide (1000 < a0.size) = false := decide_eq_false (by omega)
    clear c2
    have H' := Aside0.mk H
    clear H
    go_enter Tryd.func21, Tryd.ntmps21
    go_wp2
    go_loopg [4] k (fun kq v4 w' => ∃ (x4_1 : Int), v4 = .int .i64 x4_1 ∧ Aside0 (bellowsref03_Clean.l0 kq a0 x4_1 = some (r1, r2)) ∧ Aside0 (kq ≤ k) ∧ Aside0 (Below w.heap.size w w'))
    case atStart => exact ⟨(0), (by first | rfl | (simp; done) | (simp [*]; done)), H', ⟨Nat.le_refl _⟩, ⟨by repeat (first | (with_reducible first | exact HB.out | apply below_alloc | apply pw_below_drewN | apply below_drew1) | exact HB.out)⟩⟩
    case round =>
      clear H'
      try clear c2
      try clear c2b0
      try clear c2b1
      try clear p2
      obtain ⟨x4_1, rfl, HA, HK1, HB⟩ := hrel
      cases gk with
      | zero => exact absurd HA.out (by simp [bellowsref03_Clean.l0])
      | succ k1 =>
        have H := HA.out
        clear HA
        simp only [bellowsref03_Clean.l0] at H
        by_cases c3 : x4_1 < (a0.size : Int)
        · rw [if_pos c3] at H
          have c3b0 : decide (x4_1 < (a0.size : Int)) = true := decide_eq_true c3
          clear c3
          by_cases c4 : 0 ≤ x4_1
          · rw [if_pos c4] at H
            have c4b0 : decide (0 ≤ x4_1) = true := decide_eq_true c4
            clear c4
            replace H := Option.bind_eq_some_iff.mp H
            obtain ⟨t125, A60, H⟩ := H
            replace H : (if t125 = true then (if x4_1 = 0 then (if (bt a0 x4_1) = 47 then (some ((⟨#[]⟩ : ByteArray), 5)) else (bellowsref03_Clean.l0 k1 a0 (wrap64 (x4_1 + 1)))) else (bellowsref03_Clean.l0 k1 a0 (wrap64 (x4_1 + 1)))) else (some ((⟨#[]⟩ : ByteArray), 5))) = some (r1, r2) := H
            have A6 := Aside0.mk A60
            clear A60
            by_cases c7 : t125 = true
            · subst c7
              have H1 : (if x4_1 = 0 then (if (bt a0 x4_1) = 47 then (some ((⟨#[]⟩ : ByteArray), 5)) else (bellowsref03_Clean.l0 k1 a0 (wrap64 (x4_1 + 1)))) else (bellowsref03_Clean.l0 k1 a0 (wrap64 (x4_1 + 1)))) = some (r1, r2) := by rw [if_pos rfl] at H; exact H
              clear H
              have H := H1
              clear H1
              by_cases c8 : x4_1 = 0
              · rw [if_pos c8] at H
                have c8b0 : (x4_1 == 0) = true := beq_iff_eq.mpr c8
                have c8b1 : (x4_1 != 0) = false := bne_eq_false_iff_eq.mpr c8
                clear c8
                by_cases c10 : (bt a0 x4_1) = 47
                · rw [if_pos c10] at H
                  have c10b0 : ((bt a0 x4_1) == 47) = true := beq_iff_eq.mpr c10
                  have c10b1 : ((bt a0 x4_1) != 47) = false := bne_eq_false_iff_eq.mpr c10
                  clear c10
                  simp only [Option.some.injEq, Prod.mk.injEq] at H
                  obtain ⟨rfl, rfl⟩ := H
                  have p5 : 0 ≤ (x4_1 : Int) := of_decide_eq_true (by first | (with_reducible assumption) | assumption)
                  have q5 : x4_1 < (a0.size : Int) := of_decide_eq_true (by first | (with_reducible assumption) | assumption)
                  have hx5 := bt_at a0 x4_1
                  replace p5 := eq_true p5
                  replace q5 := eq_true q5
                  go_wp2_with (first | ((with_reducible refine gate_callee (f := 39) rfl ?_); refine goesL_ (some 23) rfl rfl Tryd.func39 (by kernel_rfl) rfl #[.int .u8 (bt a0 x4_1)] rfl (by (try simp only [List.map_toArray, List.map_cons, List.map_nil]); first | done | rfl | (simp only [List.length_drop, List.length_take]; rfl)) ?_; (with_reducible refine (bellowsref03_plain.calls (bt a0 x4_1) true _ A6.out).mono ?_); rintro e w' ⟨rfl, ⟨nd, rfl⟩⟩; refine ⟨_, rfl, ?_⟩; have p9 : 0 ≤ (x4_1 : Int) := of_decide_eq_true (by first | (with_reducible assumption) | assumption); have q9 : x4_1 < (a0.size : Int) := of_decide_eq_true (by first | (with_reducible assumption) | assumption); have hx9 := bt_at a0 x4_1; replace p9 := eq_true p9; replace q9 := eq_true q9))
                  go_ret2
                  exact ⟨by first | rfl | (simp [errW_none, errW_some] <;> rfl) | (simp [*, errW_none, errW_some] <;> rfl), by repeat (first | (with_reducible first | exact HB.out | apply below_alloc | apply pw_below_drewN | apply below_drew1) | exact HB.out)⟩
                · rw [if_neg c10] at H
                  have c10b0 : ((bt a0 x4_1) == 47) = false := beq_eq_false_iff_ne.mpr c10
                  have c10b1 : ((bt a0 x4_1) != 47) = true := bne_iff_ne.mpr c10
                  have H' := Aside0.mk H
                  clear H
                  have p5 : 0 ≤ (x4_1 : Int) := of_decide_eq_true (by first | (with_reducible assumption) | assumption)
                  have q5 : x4_1 < (a0.size : Int) := of_decide_eq_true (by first | (with_reducible assumption) | assumption)
                  have hx5 := bt_at a0 x4_1
                  replace p5 := eq_true p5
                  replace q5 := eq_true q5
                  go_wp2_with (first | ((with_reducible refine gate_callee (f := 39) rfl ?_); refine goesL_ (some 23) rfl rfl Tryd.func39 (by kernel_rfl) rfl #[.int .u8 (bt a0 x4_1)] rfl (by (try simp only [List.map_toArray, List.map_cons, List.map_nil]); first | done | rfl | (simp only [List.length_drop, List.length_take]; rfl)) ?_; (with_reducible refine (bellowsref03_plain.calls (bt a0 x4_1) true _ A6.out).mono ?_); rintro e w' ⟨rfl, ⟨nd, rfl⟩⟩; refine ⟨_, rfl, ?_⟩; have p9 : 0 ≤ (x4_1 : Int) := of_decide_eq_true (by first | (with_reducible assumption) | assumption); have q9 : x4_1 < (a0.size : Int) := of_decide_eq_true (by first | (with_reducible assumption) | assumption); have hx9 := bt_at a0 x4_1; replace p9 := eq_true p9; replace q9 := eq_true q9))
                  go_roundg k1
                  case measure => have := HK1.out; omega
                  case rel => exact ⟨(wrap64 (x4_1 + 1)), (by first | rfl | (simp; done) | (simp [*]; done)), H', ⟨by have := HK1.out; omega⟩, ⟨by repeat (first | (with_reducible first | exact HB.out | apply below_alloc | apply pw_below_drewN | apply below_drew1) | exact HB.out)⟩⟩
              · rw [if_neg c8] at H
                have c8b0 : (x4_1 == 0) = false := beq_eq_false_iff_ne.mpr c8
                have c8b1 : (x4_1 != 0) = true := bne_iff_ne.mpr c8
                have H' := Aside0.mk H
                clear H
                have p5 : 0 ≤ (x4_1 : Int) := of_decide_eq_true (by first | (with_reducible assumption) | assumption)
                have q5 : x4_1 < (a0.size : Int) := of_decide_eq_true (by first | (with_reducible assumption) | assumption)
                have hx5 := bt_at a0 x4_1
                replace p5 := eq_true p5
                replace q5 := eq_true q5
                go_wp2_with (first | ((with_reducible refine gate_callee (f := 39) rfl ?_); refine goesL_ (some 23) rfl rfl Tryd.func39 (by kernel_rfl) rfl #[.int .u8 (bt a0 x4_1)] rfl (by (try simp only [List.map_toArray, List.map_cons, List.map_nil]); first | done | rfl | (simp only [List.length_drop, List.length_take]; rfl)) ?_; (with_reducible refine (bellowsref03_plain.calls (bt a0 x4_1) true _ A6.out).mono ?_); rintro e w' ⟨rfl, ⟨nd, rfl⟩⟩; refine ⟨_, rfl, ?_⟩))
                go_roundg k1
                case measure => have := HK1.out; omega
                case rel => exact ⟨(wrap64 (x4_1 + 1)), (by first | rfl | (simp; done) | (simp [*]; done)), H', ⟨by have := HK1.out; omega⟩, ⟨by repeat (first | (with_reducible first | exact HB.out | apply below_alloc | apply pw_below_drewN | apply below_drew1) | exact HB.out)⟩⟩
            · replace c7 := Bool.eq_false_iff.mpr c7
              subst c7
              have H1 : (some ((⟨#[]⟩ : ByteArray), 5)) = some (r1, r2) := by rw [if_neg (show ¬ (false = true) by decide)] at H; exact H
              clear H
              have H := H1
              clear H1
              simp only [Option.some.injEq, Prod.mk.injEq] at H
              obtain ⟨rfl, rfl⟩ := H
              have p5 : 0 ≤ (x4_1 : Int) := of_decide_eq_true (by first | (with_reducible assumption) | assumption)
              have q5 : x4_1 < (a0.size : Int) := of_decide_eq_true (by first | (with_reducible assumption) | assumption)
              have hx5 := bt_at a0 x4_1
              replace p5 := eq_true p5
              replace q5 := eq_true q5
              go_wp2_with (first | ((with_reducible refine gate_callee (f := 39) rfl ?_); refine goesL_ (some 23) rfl rfl Tryd.func39 (by kernel_rfl) rfl #[.int .u8 (bt a0 x4_1)] rfl (by (try simp only [List.map_toArray, List.map_cons, List.map_nil]); first | done | rfl | (simp only [List.length_drop, List.length_take]; rfl)) ?_; (with_reducible refine (bellowsref03_plain.calls (bt a0 x4_1) false _ A6.out).mono ?_); rintro e w' ⟨rfl, ⟨nd, rfl⟩⟩; refine ⟨_, rfl, ?_⟩))
              go_ret2
              exact ⟨by first | rfl | (simp [errW_none, errW_some] <;> rfl) | (simp [*, errW_none, errW_some] <;> rfl), by repeat (first | (with_reducible first | exact HB.out | apply below_alloc | apply pw_below_drewN | apply below_drew1) | exact HB.out)⟩
          · rw [if_neg c4] at H
            exact absurd H (by simp)
        · rw [if_neg c3] at H
          have c3b0 : decide (x4_1 < (a0.size : Int)) = false := decide_eq_false c3
          clear c3
          have H' := Aside0.mk H
          clear H
          go_wp2
          go_loopg [5, 6, 7] k1 (fun kq v5 v6 v7 w' => ∃ (x5_2 : List ByteArray) (x6_2 : Int) (x7_2 : Int), v6 = .int .i64 x6_2 ∧ v7 = .int .i64 x7_2 ∧ Aside0 (bellowsref03_Clean.l1 kq a0 x5_2 x6_2 x7_2 = some (r1, r2)) ∧ Aside0 (kq ≤ k1) ∧ Aside0 (Kd.R Kd.string 9 w' w.heap.size (fun _ => True) v5 x5_2) ∧ Aside0 (Below w.heap.size w w'))
          case atStart => exact ⟨(([] : List ByteArray)), (0), (0), (by first | rfl | (simp; done) | (simp [*]; done)), (by first | rfl | (simp; done) | (simp [*]; done)), H', ⟨Nat.le_refl _⟩, ⟨by first | exact Kd.R_nil _ _ _ _ _ | exact Kd.N_nil _ _ _ _ _ | exact Kd.V_nil _ _ _ _ _ | exact Kd.Q_nil _ _ _ _ _ | exact Kd.S_nil _ _ _ _ _⟩, ⟨by repeat (first | (with_reducible first | exact HB.out | apply below_alloc | apply pw_below_drewN | apply below_drew1) | exact HB.out)⟩⟩
          case round =>
            clear H'
            try clear c1
            try clear c2
            try clear c2b0
            try clear c2b1
            try clear p2
            try clear c3
            try clear c3b0
            try clear c4
            try clear c4b0
            try clear p5
            try clear q5
            try clear hx5
            try clear p6
            try clear c7
            try clear c8
            try clear c8b0
            try clear c8b1
            try clear p9
            try clear q9
            try clear hx9
            try clear c10
            try clear c10b0
            try clear c10b1
            try clear p2
            try clear p5
            try clear p9
            try clear q5
            try clear q9
            obtain ⟨x5_2, x6_2, x7_2, rfl, rfl, HA, HK2, HO_5, HB⟩ := hrel
            cases gk with
            | zero => exact absurd HA.out (by simp [bellowsref03_Clean.l1])
            | succ k2 =>
              have H := HA.out
              clear HA
              simp only [bellowsref03_Clean.l1] at H
              by_cases c11 : x7_2 ≤ (a0.size : Int)
              · rw [if_pos c11] at H
                have c11b0 : decide (x7_2 ≤ (a0.size : Int)) = true := decide_eq_true c11
                clear c11
                have HC12 := Aside0.mk H
                clear H
                go_upto_region 13 with (fail)
                go_cut [50] (fun v50 wc => ∃ (kq : Nat) (x50_11 : Bool), v50 = .bool x50_11 ∧ Aside0 (bellowsref03_Clean.j2 kq a0 x5_2 x6_2 x7_2 x50_11 = some (r1, r2)) ∧ Aside0 (kq ≤ k2) ∧ Aside0 (Kd.R Kd.string 9 wc w.heap.size (fun _ => True) u5 x5_2) ∧ Aside0 (Below w.heap.size w wc))
                case first =>
                  have H := HC12.out
                  clear HC12
                  by_cases c13 : x7_2 < (a0.size : Int)
                  · rw [if_pos c13] at H
                    have c13b0 : decide (x7_2 < (a0.size : Int)) = true := decide_eq_true c13
                    clear c13
                    (first | rw [c13b0] | (simp only [i64_w, i32_w]; rw [c13b0]) | skip)
                    by_cases c14 : 0 ≤ x7_2
                    · rw [if_pos c14] at H
                      have c14b0 : decide (0 ≤ x7_2) = true := decide_eq_true c14
                      clear c14
                      have H' := Aside0.mk H
                      clear H
                      have p15 : 0 ≤ (x7_2 : Int) := of_decide_eq_true (by first | (with_reducible assumption) | assumption)
                      have q15 : x7_2 < (a0.size : Int) := of_decide_eq_true (by first | (with_reducible assumption) | assumption)
                      have hx15 := bt_at a0 x7_2
                      replace p15 := eq_true p15
                      replace q15 := eq_true q15
                      go_wp2
                      go_meet
                      case rel => exact ⟨_, (((bt a0 x7_2) != 47)), (by first | rfl | (simp; done) | (simp [*]; done)), H', ⟨by have := HK1.out; have := HK2.out; first | omega | exact Nat.le_refl _⟩, ⟨by (with_reducible repeat (first | apply Kd.R_alloc | apply Kd.R_drewN | apply Kd.R_drew)); exact HO_5.out⟩, ⟨by repeat (first | (with_reducible first | exact HB.out | apply below_alloc | apply pw_below_drewN | apply below_drew1) | exact HB.out)⟩⟩
                    · rw [if_neg c14] at H
                      exact absurd H (by simp)
                  · rw [if_neg c13] at H
                    have c13b0 : decide (x7_2 < (a0.size : Int)) = false := decide_eq_false c13
                    clear c13
                    (first | rw [c13b0] | (simp only [i64_w, i32_w]; rw [c13b0]) | skip)
                    have H' := Aside0.mk H
                    clear H
                    go_wp2
                    go_meet
                    case rel => exact ⟨_, (false), (by first | rfl | (simp; done) | (simp [*]; done)), H', ⟨by have := HK1.out; have := HK2.out; first | omega | exact Nat.le_refl _⟩, ⟨by (with_reducible repeat (first | apply Kd.R_alloc | apply Kd.R_drewN | apply Kd.R_drew)); exact HO_5.out⟩, ⟨by repeat (first | (with_reducible first | exact HB.out | apply below_alloc | apply pw_below_drewN | apply below_drew1) | exact HB.out)⟩⟩
                case rest =>
                  clear HC12
                  try clear c1
                  try clear p1
                  try clear q1
                  try clear hx1
                  try clear c2
                  try clear c2b0
                  try clear c2b1
                  try clear p2
                  try clear c3
                  try clear c3b0
                  try clear c4
                  try clear c4b0
                  try clear p5
                  try clear q5
                  try clear hx5
                  try clear p6
                  try clear c7
                  try clear c8
                  try clear c8b0
                  try clear c8b1
                  try clear p9
                  try clear q9
                  try clear hx9
                  try clear c10
                  try clear c10b0
                  try clear c10b1
                  try clear c11
                  try clear c11b0
                  try clear c13
                  try clear c13b0
                  try clear c14
                  try clear c14b0
                  try clear p15
                  try clear q15
                  try clear hx15
                  try clear p15
                  try clear p2
                  try clear p5
                  try clear p6
                  try clear p9
                  try clear q15
                  try clear q5
                  try clear q9
                  obtain ⟨kq, x50_11, rfl, HA, HJ11, HO_5, HB⟩ := hcut
                  cases kq with
                  | zero => exact absurd HA.out (by simp [bellowsref03_Clean.j2])
                  | succ kj11 =>
                    have H := HA.out
                    clear HA
                    simp only [bellowsref03_Clean.j2] at H
                    by_cases c16 : x50_11 = true
                    · subst c16
                      have H1 : (bellowsref03_Clean.l1 kj11 a0 x5_2 x6_2 (wrap64 (x7_2 + 1))) = some (r1, r2) := by rw [if_pos rfl] at H; exact H
                      clear H
                      have H := H1
                      clear H1
                      have H' := Aside0.mk H
                      clear H
                      go_wp2
                      go_roundg kj11
                      case measure => have := HK1.out; have := HK2.out; have := HJ11.out; omega
                      case rel => exact ⟨(x5_2), (x6_2), (wrap64 (x7_2 + 1)), (by first | rfl | (simp; done) | (simp [*]; done)), (by first | rfl | (simp; done) | (simp [*]; done)), H', ⟨by have := HK1.out; have := HK2.out; have := HJ11.out; omega⟩, ⟨by (with_reducible repeat (first | apply Kd.R_alloc | apply Kd.R_drewN | apply Kd.R_drew)); exact HO_5.out⟩, ⟨by repeat (first | (with_reducible first | exact HB.out | apply below_alloc | apply pw_below_drewN | apply below_drew1) | exact HB.out)⟩⟩
                    · replace c16 := Bool.eq_false_iff.mpr c16
                      subst c16
                      have H1 : (if 0 ≤ x6_2 then (if x6_2 ≤ x7_2 then (if x7_2 ≤ (a0.size : Int) then (if (a0.extract (x6_2 : Int).toNat (x7_2 : Int).toNat).toList = ([] : List UInt8) then (bellowsref03_Clean.j3 kj11 a0 x5_2 (wrap64 (x7_2 + 1)) x7_2 (a0.extract (x6_2 : Int).toNat (x7_2 : Int).toNat) true) else (bellowsref03_Clean.j3 kj11 a0 x5_2 (wrap64 (x7_2 + 1)) x7_2 (a0.extract (x6_2 : Int).toNat (x7_2 : Int).toNat) ((a0.extract (x6_2 : Int).toNat (x7_2 : Int).toNat).toList == ([46] : List UInt8)))) else (none)) else (none)) else (none)) = some (r1, r2) := by rw [if_neg (show ¬ (false = true) by decide)] at H; exact H
                      clear H
                      have H := H1
                      clear H1
                      by_cases c17 : 0 ≤ x6_2
                      · rw [if_pos c17] at H
                        have c17b0 := eq_true c17
                        have c17b1 : decide (0 ≤ x6_2) = true := decide_eq_true c17
                        clear c17
                        by_cases c18 : x6_2 ≤ x7_2
                        · rw [if_pos c18] at H
                          have c18b0 := eq_true c18
                          have c18b1 : decide (x6_2 ≤ x7_2) = true := decide_eq_true c18
                          clear c18
                          by_cases c19 : x7_2 ≤ (a0.size : Int)
                          · rw [if_pos c19] at H
                            have c19b0 := eq_true c19
                            have c19b1 : decide (x7_2 ≤ (a0.size : Int)) = true := decide_eq_true c19
                            clear c19
                            have HC20 := Aside0.mk H
                            clear H
                            go_upto_region 16 with (fail)
                            go_cut [62] (fun v62 wc => ∃ (kq : Nat) (x62_19 : Bool), v62 = .bool x62_19 ∧ Aside0 (bellowsref03_Clean.j3 kq a0 x5_2 (wrap64 (x7_2 + 1)) x7_2 (a0.extract (x6_2 : Int).toNat (x7_2 : Int).toNat) x62_19 = some (r1, r2)) ∧ Aside0 (kq ≤ kj11) ∧ Aside0 (Kd.R Kd.string 9 wc w.heap.size (fun _ => True) u5 x5_2) ∧ Aside0 (Below w.heap.size w wc))
                            case first =>
                              have H := HC20.out
                              clear HC20
                              by_cases c21 : (a0.extract (x6_2 : Int).toNat (x7_2 : Int).toNat).toList = ([] : List UInt8)
                              · rw [if_pos c21] at H
                                have c21b0 : ((a0.extract (x6_2 : Int).toNat (x7_2 : Int).toNat).toList == ([] : List UInt8)) = true := beq_iff_eq.mpr c21
                                have c21b1 : ((a0.extract (x6_2 : Int).toNat (x7_2 : Int).toNat).toList != ([] : List UInt8)) = false := bne_eq_false_iff_eq.mpr c21
                                clear c21
                                (first | rw [c21b0] | (simp only [i64_w, i32_w]; rw [c21b0]) | skip)
                                have H' := Aside0.mk H
                                clear H
                                go_wp2
                                go_meet
                                case rel => exact ⟨_, (true), (by first | rfl | (simp; done) | (simp [*]; done)), H', ⟨by have := HK1.out; have := HK2.out; have := HJ11.out; first | omega | exact Nat.le_refl _⟩, ⟨by (with_reducible repeat (first | apply Kd.R_alloc | apply Kd.R_drewN | apply Kd.R_drew)); exact HO_5.out⟩, ⟨by repeat (first | (with_reducible first | exact HB.out | apply below_alloc | apply pw_below_drewN | apply below_drew1) | exact HB.out)⟩⟩
                              · rw [if_neg c21] at H
                                have c21b0 : ((a0.extract (x6_2 : Int).toNat (x7_2 : Int).toNat).toList == ([] : List UInt8)) = false := beq_eq_false_iff_ne.mpr c21
                                have c21b1 : ((a0.extract (x6_2 : Int).toNat (x7_2 : Int).toNat).toList != ([] : List UInt8)) = true := bne_iff_ne.mpr c21
                                (first | rw [c21b0] | (simp only [i64_w, i32_w]; rw [c21b0]) | skip)
                                have H' := Aside0.mk H
                                clear H
                                go_wp2
                                go_meet
                                case rel => exact ⟨_, (((a0.extract (x6_2 : Int).toNat (x7_2 : Int).toNat).toList == ([46] : List UInt8))), (by first | rfl | (simp; done) | (simp [*]; done)), H', ⟨by have := HK1.out; have := HK2.out; have := HJ11.out; first | omega | exact Nat.le_refl _⟩, ⟨by (with_reducible repeat (first | apply Kd.R_alloc | apply Kd.R_drewN | apply Kd.R_drew)); exact HO_5.out⟩, ⟨by repeat (first | (with_reducible first | exact HB.out | apply below_alloc | apply pw_below_drewN | apply below_drew1) | exact HB.out)⟩⟩
                            case rest =>
                              clear HC20
                              try clear c1
                              try clear p1
                              try clear q1
                              try clear hx1
                              try clear c2
                              try clear c2b0
                              try clear c2b1
                              try clear p2
                              try clear c3
                              try clear c3b0
                              try clear c4
                              try clear c4b0
                              try clear p5
                              try clear q5
                              try clear hx5
                              try clear p6
                              try clear c7
                              try clear c8
                              try clear c8b0
                              try clear c8b1
                              try clear p9
                              try clear q9
                              try clear hx9
                              try clear c10
                              try clear c10b0
                              try clear c10b1
                              try clear c11
                              try clear c11b0
                              try clear c13
                              try clear c13b0
                              try clear c14
                              try clear c14b0
                              try clear p15
                              try clear q15
                              try clear hx15
                              try clear c16
                              try clear c17
                              try clear c17b0
                              try clear c17b1
                              try clear c18
                              try clear c18b0
                              try clear c18b1
                              try clear c19
                              try clear c19b0
                              try clear c19b1
                              try clear c21
                              try clear c21b0
                              try clear c21b1
                              try clear p1
                              try clear p15
                              try clear p2
                              try clear p5
                              try clear p6
                              try clear p9
                              try clear q1
                              try clear q15
                              try clear q5
                              try clear q9
                              obtain ⟨kq, x62_19, rfl, HA, HJ19, HO_5, HB⟩ := hcut
                              cases kq with
                              | zero => exact absurd HA.out (by simp [bellowsref03_Clean.j3])
                              | succ kj19 =>
                                have H := HA.out
                                clear HA
                                simp only [bellowsref03_Clean.j3] at H
                                by_cases c22 : x62_19 = true
                                · subst c22
                                  have H1 : (bellowsref03_Clean.l1 kj19 a0 x5_2 (wrap64 (x7_2 + 1)) (wrap64 (x7_2 + 1))) = some (r1, r2) := by rw [if_pos rfl] at H; exact H
                                  clear H
                                  have H := H1
                                  clear H1
                                  have H' := Aside0.mk H
                                  clear H
                                  go_wp2
                                  go_roundg kj19
                                  case measure => have := HK1.out; have := HK2.out; have := HJ11.out; have := HJ19.out; omega
                                  case rel => exact ⟨(x5_2), ((wrap64 (x7_2 + 1))), (wrap64 (x7_2 + 1)), (by first | rfl | (simp; done) | (simp [*]; done)), (by first | rfl | (simp; done) | (simp [*]; done)), H', ⟨by have := HK1.out; have := HK2.out; have := HJ11.out; have := HJ19.out; omega⟩, ⟨by (with_reducible repeat (first | apply Kd.R_alloc | apply Kd.R_drewN | apply Kd.R_drew)); exact HO_5.out⟩, ⟨by repeat (first | (with_reducible first | exact HB.out | apply below_alloc | apply pw_below_drewN | apply below_drew1) | exact HB.out)⟩⟩
                                · replace c22 := Bool.eq_false_iff.mpr c22
                                  subst c22
                                  have H1 : (if (a0.extract (x6_2 : Int).toNat (x7_2 : Int).toNat).toList = ([46, 46] : List UInt8) then (bellowsref03_Clean.j4 kj19 a0 x5_2 (wrap64 (x7_2 + 1)) x7_2 (a0.extract (x6_2 : Int).toNat (x7_2 : Int).toNat) ((x5_2.length : Int) == 0)) else (bellowsref03_Clean.j4 kj19 a0 x5_2 (wrap64 (x7_2 + 1)) x7_2 (a0.extract (x6_2 : Int).toNat (x7_2 : Int).toNat) false)) = some (r1, r2) := by rw [if_neg (show ¬ (false = true) by decide)] at H; exact H
                                  clear H
                                  have H := H1
                                  clear H1
                                  have HC23 := Aside0.mk H
                                  clear H
                                  go_upto_region 17 with (fail)
                                  go_cut [69] (fun v69 wc => ∃ (kq : Nat) (x69_22 : Bool), v69 = .bool x69_22 ∧ Aside0 (bellowsref03_Clean.j4 kq a0 x5_2 (wrap64 (x7_2 + 1)) x7_2 (a0.extract (x6_2 : Int).toNat (x7_2 : Int).toNat) x69_22 = some (r1, r2)) ∧ Aside0 (kq ≤ kj19) ∧ Aside0 (Kd.R Kd.string 9 wc w.heap.size (fun _ => True) u5 x5_2) ∧ Aside0 (Below w.heap.size w wc))
                                  case first =>
                                    have H := HC23.out
                                    clear HC23
                                    by_cases c24 : (a0.extract (x6_2 : Int).toNat (x7_2 : Int).toNat).toList = ([46, 46] : List UInt8)
                                    · rw [if_pos c24] at H
                                      have c24b0 : ((a0.extract (x6_2 : Int).toNat (x7_2 : Int).toNat).toList == ([46, 46] : List UInt8)) = true := beq_iff_eq.mpr c24
                                      have c24b1 : ((a0.extract (x6_2 : Int).toNat (x7_2 : Int).toNat).toList != ([46, 46] : List UInt8)) = false := bne_eq_false_iff_eq.mpr c24
                                      clear c24
                                      (first | rw [c24b0] | (simp only [i64_w, i32_w]; rw [c24b0]) | skip)
                                      have H' := Aside0.mk H
                                      clear H
                                      obtain ⟨Ao25, co25, eo25⟩ := Kd.R_slice HO_5.out
                                      subst eo25
                                      go_wp2
                                      go_meet
                                      case rel => exact ⟨_, (((x5_2.length : Int) == 0)), (by first | rfl | (simp; done) | (simp [*]; done)), H', ⟨by have := HK1.out; have := HK2.out; have := HJ11.out; have := HJ19.out; first | omega | exact Nat.le_refl _⟩, ⟨by (with_reducible repeat (first | apply Kd.R_alloc | apply Kd.R_drewN | apply Kd.R_drew)); exact HO_5.out⟩, ⟨by repeat (first | (with_reducible first | exact HB.out | apply below_alloc | apply pw_below_drewN | apply below_drew1) | exact HB.out)⟩⟩
                                    · rw [if_neg c24] at H
                                      have c24b0 : ((a0.extract (x6_2 : Int).toNat (x7_2 : Int).toNat).toList == ([46, 46] : List UInt8)) = false := beq_eq_false_iff_ne.mpr c24
                                      have c24b1 : ((a0.extract (x6_2 : Int).toNat (x7_2 : Int).toNat).toList != ([46, 46] : List UInt8)) = true := bne_iff_ne.mpr c24
                                      (first | rw [c24b0] | (simp only [i64_w, i32_w]; rw [c24b0]) | skip)
                                      have H' := Aside0.mk H
                                      clear H
                                      go_wp2
                                      go_meet
                                      case rel => exact ⟨_, (false), (by first | rfl | (simp; done) | (simp [*]; done)), H', ⟨by have := HK1.out; have := HK2.out; have := HJ11.out; have := HJ19.out; first | omega | exact Nat.le_refl _⟩, ⟨by (with_reducible repeat (first | apply Kd.R_alloc | apply Kd.R_drewN | apply Kd.R_drew)); exact HO_5.out⟩, ⟨by repeat (first | (with_reducible first | exact HB.out | apply below_alloc | apply pw_below_drewN | apply below_drew1) | exact HB.out)⟩⟩
                                  case rest =>
                                    clear HC23
                                    try clear c1
                                    try clear p1
                                    try clear q1
                                    try clear hx1
                                    try clear c2
                                    try clear c2b0
                                    try clear c2b1
                                    try clear p2
                                    try clear c3
                                    try clear c3b0
                                    try clear c4
                                    try clear c4b0
                                    try clear p5
                                    try clear q5
                                    try clear hx5
                                    try clear p6
                                    try clear c7
                                    try clear c8
                                    try clear c8b0
                                    try clear c8b1
                                    try clear p9
                                    try clear q9
                                    try clear hx9
                                    try clear c10
                                    try clear c10b0
                                    try clear c10b1
                                    try clear c11
                                    try clear c11b0
                                    try clear c13
                                    try clear c13b0
                                    try clear c14
                                    try clear c14b0
                                    try clear p15
                                    try clear q15
                                    try clear hx15
                                    try clear c16
                                    try clear c17
                                    try clear c17b0
                                    try clear c17b1
                                    try clear c18
                                    try clear c18b0
                                    try clear c18b1
                                    try clear c19
                                    try clear c19b0
                                    try clear c19b1
                                    try clear c21
                                    try clear c21b0
                                    try clear c21b1
                                    try clear c22
                                    try clear c24
                                    try clear c24b0
                                    try clear c24b1
                                    try clear p1
                                    try clear p15
                                    try clear p2
                                    try clear p5
                                    try clear p6
                                    try clear p9
                                    try clear q1
                                    try clear q15
                                    try clear q5
                                    try clear q9
                                    obtain ⟨kq, x69_22, rfl, HA, HJ22, HO_5, HB⟩ := hcut
                                    cases kq with
                                    | zero => exact absurd HA.out (by simp [bellowsref03_Clean.j4])
                                    | succ kj22 =>
                                      have H := HA.out
                                      clear HA
                                      simp only [bellowsref03_Clean.j4] at H
                                      by_cases c26 : x69_22 = true
                                      · subst c26
                                        have H1 : (some ((⟨#[]⟩ : ByteArray), 5)) = some (r1, r2) := by rw [if_pos rfl] at H; exact H
                                        clear H
                                        have H := H1
                                        clear H1
                                        simp only [Option.some.injEq, Prod.mk.injEq] at H
                                        obtain ⟨rfl, rfl⟩ := H
                                        go_wp2
                                        go_ret2
                                        exact ⟨by first | rfl | (simp [errW_none, errW_some] <;> rfl) | (simp [*, errW_none, errW_some] <;> rfl), by repeat (first | (with_reducible first | exact HB.out | apply below_alloc | apply pw_below_drewN | apply below_drew1) | exact HB.out)⟩
                                      · replace c26 := Bool.eq_false_iff.mpr c26
                                        subst c26
                                        have H1 : (if (a0.extract (x6_2 : Int).toNat (x7_2 : Int).toNat).toList = ([46, 46] : List UInt8) then (if 0 ≤ (wrap64 ((x5_2.length : Int) - 1)) then (if (wrap64 ((x5_2.length : Int) - 1)) ≤ (x5_2.length : Int) then (bellowsref03_Clean.l1 kj22 a0 (x5_2.take ((wrap64 ((x5_2.length : Int) - 1)) : Int).toNat) (wrap64 (x7_2 + 1)) (wrap64 (x7_2 + 1))) else (none)) else (none)) else (if x5_2.length < 8796093022208 then (bellowsref03_Clean.l1 kj22 a0 (x5_2 ++ [(a0.extract (x6_2 : Int).toNat (x7_2 : Int).toNat)]) (wrap64 (x7_2 + 1)) (wrap64 (x7_2 + 1))) else (none))) = some (r1, r2) := by rw [if_neg (show ¬ (false = true) by decide)] at H; exact H
                                        clear H
                                        have H := H1
                                        clear H1
                                        by_cases c27 : (a0.extract (x6_2 : Int).toNat (x7_2 : Int).toNat).toList = ([46, 46] : List UInt8)
                                        · rw [if_pos c27] at H
                                          have c27b0 : ((a0.extract (x6_2 : Int).toNat (x7_2 : Int).toNat).toList == ([46, 46] : List UInt8)) = true := beq_iff_eq.mpr c27
                                          have c27b1 : ((a0.extract (x6_2 : Int).toNat (x7_2 : Int).toNat).toList != ([46, 46] : List UInt8)) = false := bne_eq_false_iff_eq.mpr c27
                                          clear c27
                                          obtain ⟨ji28, hji28⟩ : ∃ j_ : Int, (wrap64 ((x5_2.length : Int) - 1)) = j_ := ⟨_, rfl⟩
                                          replace H : (if 0 ≤ (ji28) then (if (ji28) ≤ (x5_2.length : Int) then (bellowsref03_Clean.l1 kj22 a0 (x5_2.take ((ji28) : Int).toNat) (wrap64 (x7_2 + 1)) (wrap64 (x7_2 + 1))) else (none)) else (none)) = some (r1, r2) := by first | (rw [hji28] at H; exact H) | (simp only [hji28] at H ⊢; exact H)
                                          have hji28w : (IntKind.i64.wrap ((x5_2.length : Int) - 1)) = ji28 := (i64_w _).trans hji28
                                          by_cases c29 : 0 ≤ (ji28)
                                          · rw [if_pos c29] at H
                                            have c29b0 := eq_true c29
                                            have c29b1 : decide (0 ≤ (ji28)) = true := decide_eq_true c29
                                            clear c29
                                            by_cases c30 : (ji28) ≤ (x5_2.length : Int)
                                            · rw [if_pos c30] at H
                                              have c30b0 := eq_true c30
                                              have c30b1 : decide ((ji28) ≤ (x5_2.length : Int)) = true := decide_eq_true c30
                                              clear c30
                                              obtain ⟨y126, hy126⟩ : ∃ y_ : List ByteArray, y_ = (x5_2.take ((ji28) : Int).toNat) := ⟨_, rfl⟩
                                              replace H : (bellowsref03_Clean.l1 kj22 a0 y126 (wrap64 (x7_2 + 1)) (wrap64 (x7_2 + 1))) = some (r1, r2) := by first | (rw [hy126]; with_reducible exact H) | (have H2_ := (Option.bind_some _ _).symm.trans H; rw [hy126]; with_reducible exact H2_) | (have H2_ := (Option.bind_some _ _).symm.trans H; with_reducible exact H2_) | with_reducible exact H | (rw [hy126]; exact H) | exact H
                                              have Ny126 := Aside0.mk hy126
                                              clear hy126
                                              have H' := Aside0.mk H
                                              clear H
                                              obtain ⟨Ao31, co31, eo31⟩ := Kd.R_slice HO_5.out
                                              subst eo31
                                              have q32 : ((ji28) : Int) ≤ ((x5_2.length : Int) : Int) := of_decide_eq_true (by first | (with_reducible assumption) | assumption)
                                              obtain ⟨i032, hi032, _, hsz32, _⟩ := info_parts info9
                                              have hcut32 := cut_to (P := Tryd.prog) 23 9 .i64 Tryd.underlying23 hi032 Ao31 x5_2.length co31 (ji28) (of_decide_eq_true (by first | (with_reducible assumption) | assumption)) q32 (Kd.R_reads' HO_5.out).2.1
                                              have hr32 := Kd.R_take (m := ((ji28) : Int).toNat) HO_5.out (by omega)
                                              have hy32 : y126.length = ((ji28) : Int).toNat := (by rw [Ny126.out, List.length_take]; omega)
                                              rw [← Ny126.out] at hr32
                                              rw [← hy32] at hr32 hcut32
                                              clear hy32 hi032 hsz32 HO_5
                                              have HO128 := Aside0.mk hr32
                                              clear hr32
                                              replace q32 := eq_true q32
                                              go_wp2
                                              go_roundg kj22
                                              case measure => have := HK1.out; have := HK2.out; have := HJ11.out; have := HJ19.out; have := HJ22.out; omega
                                              case rel => exact ⟨(y126), ((wrap64 (x7_2 + 1))), (wrap64 (x7_2 + 1)), (by first | rfl | (simp; done) | (simp [*]; done)), (by first | rfl | (simp; done) | (simp [*]; done)), H', ⟨by have := HK1.out; have := HK2.out; have := HJ11.out; have := HJ19.out; have := HJ22.out; omega⟩, ⟨by (with_reducible repeat (first | apply Kd.R_alloc | apply Kd.R_drewN | apply Kd.R_drew)); exact HO128.out⟩, ⟨by repeat (first | (with_reducible first | exact HB.out | apply below_alloc | apply pw_below_drewN | apply below_drew1) | exact HB.out)⟩⟩
                                            · rw [if_neg c30] at H
                                              exact absurd H (by simp)
                                          · rw [if_neg c29] at H
                                            exact absurd H (by simp)
                                        · rw [if_neg c27] at H
                                          have c27b0 : ((a0.extract (x6_2 : Int).toNat (x7_2 : Int).toNat).toList == ([46, 46] : List UInt8)) = false := beq_eq_false_iff_ne.mpr c27
                                          have c27b1 : ((a0.extract (x6_2 : Int).toNat (x7_2 : Int).toNat).toList != ([46, 46] : List UInt8)) = true := bne_iff_ne.mpr c27
                                          by_cases c33 : x5_2.length < 8796093022208
                                          · rw [if_pos c33] at H
                                            have LMc33 := Aside0.mk c33
                                            clear c33
                                            obtain ⟨y129, hy129⟩ : ∃ y_ : List ByteArray, y_ = (x5_2 ++ [(a0.extract (x6_2 : Int).toNat (x7_2 : Int).toNat)]) := ⟨_, rfl⟩
                                            replace H : (bellowsref03_Clean.l1 kj22 a0 y129 (wrap64 (x7_2 + 1)) (wrap64 (x7_2 + 1))) = some (r1, r2) := by first | (rw [hy129]; with_reducible exact H) | (have H2_ := (Option.bind_some _ _).symm.trans H; rw [hy129]; with_reducible exact H2_) | (have H2_ := (Option.bind_some _ _).symm.trans H; with_reducible exact H2_) | with_reducible exact H | (rw [hy129]; exact H) | exact H
                                            have Ny129 := Aside0.mk hy129
                                            clear hy129
                                            have H' := Aside0.mk H
                                            clear H
                                            go_wp2_with (first | ((with_reducible refine gate_builtin (b := .append) (xs := #[.tmp 77, .tmp 79]) rfl ?_); (try (refine gate_guard (by rfl) ?_; dsimp only)); at_builtin; refine Kd.R_append Kd.string (w0 := w) w.heap.size rfl (.tmp 77) (.tmp 79) 23 9 (.string ⟨#[]⟩) 16 rfl Tryd.underlying23 info9 rfl (by decide) (by omega) u5 x5_2 (a0.extract (x6_2 : Int).toNat (x7_2 : Int).toNat) [.string (a0.extract (x6_2 : Int).toNat (x7_2 : Int).toNat)] (fun _ => True) (fun _ => False) rfl rfl ?aP (fun _ hk => hk.elim) ?aF ?aO ?aB ?aS ?aL ?_; (case aP => exact rfl); (case aB => exact (by repeat (first | (with_reducible first | exact HB.out | apply below_alloc | apply pw_below_drewN | apply below_drew1) | exact HB.out))); (case aF => exact (fun _ _ => trivial)); (case aO => exact (by (with_reducible repeat (first | apply Kd.R_alloc | apply Kd.R_drewN | apply Kd.R_drew)); exact HO_5.out)); (case aS => exact (below_size (by repeat (first | (with_reducible first | exact HB.out | apply below_alloc | apply pw_below_drewN | apply below_drew1) | exact HB.out)))); (case aL => have := LMc33.out; omega); intro v130 w34 ho hb hg hat; rw [← Ny129.out] at ho; have n0_ := Aside0.mk (hb); have n1_ := Aside0.mk (ho); clear HB; clear HO_5; have HB := n0_; have HO131 := n1_; clear n0_ n1_; clear ho hb hg hat))
                                            go_roundg kj22
                                            case measure => have := HK1.out; have := HK2.out; have := HJ11.out; have := HJ19.out; have := HJ22.out; omega
                                            case rel => exact ⟨(y129), ((wrap64 (x7_2 + 1))), (wrap64 (x7_2 + 1)), (by first | rfl | (simp; done) | (simp [*]; done)), (by first | rfl | (simp; done) | (simp [*]; done)), H', ⟨by have := HK1.out; have := HK2.out; have := HJ11.out; have := HJ19.out; have := HJ22.out; omega⟩, ⟨by (with_reducible repeat (first | apply Kd.R_alloc | apply Kd.R_drewN | apply Kd.R_drew)); exact HO131.out⟩, ⟨by repeat (first | (with_reducible first | exact HB.out | apply below_alloc | apply pw_below_drewN | apply below_drew1) | exact HB.out)⟩⟩
                                          · rw [if_neg c33] at H
                                            exact absurd H (by simp)
                          · rw [if_neg c19] at H
                            exact absurd H (by simp)
                        · rw [if_neg c18] at H
                          exact absurd H (by simp)
                      · rw [if_neg c17] at H
                        exact absurd H (by simp)
              · rw [if_neg c11] at H
                have c11b0 : decide (x7_2 ≤ (a0.size : Int)) = false := decide_eq_false c11
                clear c11
                have H' := Aside0.mk H
                clear H
                go_wp2
                go_loopg [9, 10] k2 (fun kq v9 v10 w' => ∃ (x9_3 : ByteArray) (x10_3 : Int), v9 = .string x9_3 ∧ v10 = .int .i64 x10_3 ∧ Aside0 (bellowsref03_Clean.l2 kq x5_2 x9_3 x10_3 = some (r1, r2)) ∧ Aside0 (kq ≤ k2) ∧ Aside0 (Kd.R Kd.string 9 w' w.heap.size (fun _ => True) u5 x5_2) ∧ Aside0 (Below w.heap.size w w'))
                case atStart => exact ⟨((⟨#[]⟩ : ByteArray)), (0), (by first | rfl | (simp; done) | (simp [*]; done)), (by first | rfl | (simp; done) | (simp [*]; done)), H', ⟨Nat.le_refl _⟩, ⟨by (with_reducible repeat (first | apply Kd.R_alloc | apply Kd.R_drewN | apply Kd.R_drew)); exact HO_5.out⟩, ⟨by repeat (first | (with_reducible first | exact HB.out | apply below_alloc | apply pw_below_drewN | apply below_drew1) | exact HB.out)⟩⟩
                case round =>
                  clear H'
                  try clear c1
                  try clear p1
                  try clear q1
                  try clear hx1
                  try clear c2
                  try clear c2b0
                  try clear c2b1
                  try clear p2
                  try clear c3
                  try clear c3b0
                  try clear q3
                  try clear c4
                  try clear c4b0
                  try clear p5
                  try clear q5
                  try clear hx5
                  try clear p6
                  try clear c7
                  try clear c8
                  try clear c8b0
                  try clear c8b1
                  try clear p9
                  try clear q9
                  try clear hx9
                  try clear c10
                  try clear c10b0
                  try clear c10b1
                  try clear c11
                  try clear c11b0
                  try clear c13
                  try clear c13b0
                  try clear c14
                  try clear c14b0
                  try clear p15
                  try clear q15
                  try clear hx15
                  try clear c16
                  try clear c17
                  try clear c17b0
                  try clear c17b1
                  try clear c18
                  try clear c18b0
                  try clear c18b1
                  try clear c19
                  try clear c19b0
                  try clear c19b1
                  try clear c21
                  try clear c21b0
                  try clear c21b1
                  try clear c22
                  try clear c24
                  try clear c24b0
                  try clear c24b1
                  try clear c26
                  try clear c27
                  try clear c27b0
                  try clear c27b1
                  try clear c29
                  try clear c29b0
                  try clear c29b1
                  try clear c30
                  try clear c30b0
                  try clear c30b1
                  try clear q32
                  try clear c33
                  try clear p1
                  try clear p15
                  try clear p2
                  try clear p5
                  try clear p6
                  try clear p9
                  try clear q1
                  try clear q15
                  try clear q32
                  try clear q5
                  try clear q9
                  obtain ⟨x9_3, x10_3, rfl, rfl, HA, HK3, HO_5, HB⟩ := hrel
                  cases gk with
                  | zero => exact absurd HA.out (by simp [bellowsref03_Clean.l2])
                  | succ k3 =>
                    have H := HA.out
                    clear HA
                    simp only [bellowsref03_Clean.l2] at H
                    by_cases c35 : x10_3 < (x5_2.length : Int)
                    · rw [if_pos c35] at H
                      have c35b0 : decide (x10_3 < (x5_2.length : Int)) = true := decide_eq_true c35
                      clear c35
                      by_cases c36 : x10_3 > 0
                      · rw [if_pos c36] at H
                        have c36b0 : decide (0 < x10_3) = true := decide_eq_true c36
                        clear c36
                        by_cases c37 : x9_3.size + 1 ≤ 9223372036854775807
                        · rw [if_pos c37] at H
                          have c37b0 := eq_true c37
                          have c37b1 : decide (x9_3.size + 1 ≤ 9223372036854775807) = true := decide_eq_true c37
                          try have c37b2 : (9223372036854775807 < x9_3.size + 1) = False := eq_false (Nat.not_lt.2 c37)
                          by_cases c38 : 0 ≤ x10_3
                          · rw [if_pos c38] at H
                            have c38b0 : decide (0 ≤ x10_3) = true := decide_eq_true c38
                            clear c38
                            by_cases c39 : (x9_3 ++ (⟨#[47]⟩ : ByteArray)).size + (rdOf ByteArray.empty x5_2 x10_3).size ≤ 9223372036854775807
                            · rw [if_pos c39] at H
                              have c39b0 := eq_true c39
                              have c39b1 : decide ((x9_3 ++ (⟨#[47]⟩ : ByteArray)).size + (rdOf ByteArray.empty x5_2 x10_3).size ≤ 9223372036854775807) = true := decide_eq_true c39
                              try have c39b2 : (9223372036854775807 < (x9_3 ++ (⟨#[47]⟩ : ByteArray)).size + (rdOf ByteArray.empty x5_2 x10_3).size) = False := eq_false (Nat.not_lt.2 c39)
                              have H' := Aside0.mk H
                              clear H
                              obtain ⟨Ao40, co40, eo40⟩ := Kd.R_slice HO_5.out
                              subst eo40
                              have p132 : 0 ≤ (x10_3 : Int) := of_decide_eq_true (by first | (with_reducible assumption) | assumption)
                              have q132 : x10_3 < (x5_2.length : Int) := of_decide_eq_true (by first | (with_reducible assumption) | assumption)
                              obtain ⟨ad132, e132, hx132_0⟩ := Kd.at_string (Kd.R_reads' HO_5.out).2.2 x10_3 p132 q132
                              cases e132
                              replace p132 := eq_true p132
                              replace q132 := eq_true q132
                              go_wp2
                              go_roundg k3
                              case measure => have := HK1.out; have := HK2.out; have := HK3.out; omega
                              case rel => exact ⟨((x9_3 ++ (⟨#[47]⟩ : ByteArray)) ++ (rdOf ByteArray.empty x5_2 x10_3)), (wrap64 (x10_3 + 1)), (by first | rfl | (simp; done) | (simp [*]; done)), (by first | rfl | (simp; done) | (simp [*]; done)), H', ⟨by have := HK1.out; have := HK2.out; have := HK3.out; omega⟩, ⟨by (with_reducible repeat (first | apply Kd.R_alloc | apply Kd.R_drewN | apply Kd.R_drew)); exact HO_5.out⟩, ⟨by repeat (first | (with_reducible first | exact HB.out | apply below_alloc | apply pw_below_drewN | apply below_drew1) | exact HB.out)⟩⟩
                            · rw [if_neg c39] at H
                              exact absurd H (by simp)
                          · rw [if_neg c38] at H
                            exact absurd H (by simp)
                        · rw [if_neg c37] at H
                          exact absurd H (by simp)
                      · rw [if_neg c36] at H
                        have c36b0 : decide (0 < x10_3) = false := decide_eq_false c36
                        clear c36
                        by_cases c41 : 0 ≤ x10_3
                        · rw [if_pos c41] at H
                          have c41b0 : decide (0 ≤ x10_3) = true := decide_eq_true c41
                          clear c41
                          by_cases c42 : x9_3.size + (rdOf ByteArray.empty x5_2 x10_3).size ≤ 9223372036854775807
                          · rw [if_pos c42] at H
                            have c42b0 := eq_true c42
                            have c42b1 : decide (x9_3.size + (rdOf ByteArray.empty x5_2 x10_3).size ≤ 9223372036854775807) = true := decide_eq_true c42
                            try have c42b2 : (9223372036854775807 < x9_3.size + (rdOf ByteArray.empty x5_2 x10_3).size) = False := eq_false (Nat.not_lt.2 c42)
                            have H' := Aside0.mk H
                            clear H
                            obtain ⟨Ao43, co43, eo43⟩ := Kd.R_slice HO_5.out
                            subst eo43
                            have p133 : 0 ≤ (x10_3 : Int) := of_decide_eq_true (by first | (with_reducible assumption) | assumption)
                            have q133 : x10_3 < (x5_2.length : Int) := of_decide_eq_true (by first | (with_reducible assumption) | assumption)
                            obtain ⟨ad133, e133, hx133_0⟩ := Kd.at_string (Kd.R_reads' HO_5.out).2.2 x10_3 p133 q133
                            cases e133
                            replace p133 := eq_true p133
                            replace q133 := eq_true q133
                            go_wp2
                            go_roundg k3
                            case measure => have := HK1.out; have := HK2.out; have := HK3.out; omega
                            case rel => exact ⟨(x9_3 ++ (rdOf ByteArray.empty x5_2 x10_3)), (wrap64 (x10_3 + 1)), (by first | rfl | (simp; done) | (simp [*]; done)), (by first | rfl | (simp; done) | (simp [*]; done)), H', ⟨by have := HK1.out; have := HK2.out; have := HK3.out; omega⟩, ⟨by (with_reducible repeat (first | apply Kd.R_alloc | apply Kd.R_drewN | apply Kd.R_drew)); exact HO_5.out⟩, ⟨by repeat (first | (with_reducible first | exact HB.out | apply below_alloc | apply pw_below_drewN | apply below_drew1) | exact HB.out)⟩⟩
                          · rw [if_neg c42] at H
                            exact absurd H (by simp)
                        · rw [if_neg c41] at H
                          exact absurd H (by simp)
                    · rw [if_neg c35] at H
                      have c35b0 : decide (x10_3 < (x5_2.length : Int)) = false := decide_eq_false c35
                      clear c35
                      by_cases c44 : x9_3.toList = ([] : List UInt8)
                      · rw [if_pos c44] at H
                        have c44b0 : (x9_3.toList == ([] : List UInt8)) = true := beq_iff_eq.mpr c44
                        have c44b1 : (x9_3.toList != ([] : List UInt8)) = false := bne_eq_false_iff_eq.mpr c44
                        clear c44
                        simp only [Option.some.injEq, Prod.mk.injEq] at H
                        obtain ⟨rfl, rfl⟩ := H
                        obtain ⟨Ao45, co45, eo45⟩ := Kd.R_slice HO_5.out
                        subst eo45
                        go_wp2
                        go_ret2
                        exact ⟨by first | rfl | (simp [errW_none, errW_some] <;> rfl) | (simp [*, errW_none, errW_some] <;> rfl), by repeat (first | (with_reducible first | exact HB.out | apply below_alloc | apply pw_below_drewN | apply below_drew1) | exact HB.out)⟩
                      · rw [if_neg c44] at H
                        have c44b0 : (x9_3.toList == ([] : List UInt8)) = false := beq_eq_false_iff_ne.mpr c44
                        have c44b1 : (x9_3.toList != ([] : List UInt8)) = true := bne_iff_ne.mpr c44
                        by_cases c46 : (x9_3.size : Int) > 100
                        · rw [if_pos c46] at H
                          have c46b0 : decide (100 < (x9_3.size : Int)) = true := decide_eq_true c46
                          have c46b1 : decide (100 < x9_3.size) = true := decide_eq_true (by omega)
                          clear c46
                          simp only [Option.some.injEq, Prod.mk.injEq] at H
                          obtain ⟨rfl, rfl⟩ := H
                          obtain ⟨Ao47, co47, eo47⟩ := Kd.R_slice HO_5.out
                          subst eo47
                          go_wp2
                          go_ret2
                          exact ⟨by first | rfl | (simp [errW_none, errW_some] <;> rfl) | (simp [*, errW_none, errW_some] <;> rfl), by repeat (first | (with_reducible first | exact HB.out | apply below_alloc | apply pw_below_drewN | apply below_drew1) | exact HB.out)⟩
                        · rw [if_neg c46] at H
                          have c46b0 : decide (100 < (x9_3.size : Int)) = false := decide_eq_false c46
                          have c46b1 : decide (100 < x9_3.size) = false := decide_eq_false (by omega)
                          clear c46
                          simp only [Option.some.injEq, Prod.mk.injEq] at H
                          obtain ⟨rfl, rfl⟩ := H
                          obtain ⟨Ao48, co48, eo48⟩ := Kd.R_slice HO_5.out
                          subst eo48
                          go_wp2
                          go_ret2
                          exact ⟨by first | rfl | (simp [errW_none, errW_some] <;> rfl) | (simp [*, errW_none, errW_some] <;> rfl), by repeat (first | (with_reducible first | exact HB.out | apply below_alloc | apply pw_below_drewN | apply below_drew1) | exact HB.out)⟩
end Go.Proofs.YteniakfclkdlfaaDoor.P
end
section
namespace Go.Proofs.YteniakfclkdlfaaDoor.P
open Go.RowKit Go.Proofs.YteniakfclkdlfaaDoorW.PrintWords Go.Proofs.YteniakfclkdlfaaDoorW.PrintLast Go.Proofs.YteniakfclkdlfaaDoorW.PrintMore
attribute [local go_sem] max2_int min2_int max_two min_two max_three min_three max_four min_four
set_option linter.unusedVariables false
set_option linter.unusedSimpArgs false
def bellowsref03_Right.f (k : Nat) (a0 : ByteArray) : Option (Bool) := (bellowsref03_Clean.f k a0).bind fun bt134 => (if bt134.2 = 0 then (some (bt134.1.toList == a0.toList)) else (some false))
theorem bellowsref03_Right.mono : ∀ a0 k, LeO (bellowsref03_Right.f k a0) (bellowsref03_Right.f (k + 1) a0) := by
  intro a0 k
  unfold bellowsref03_Right.f
  repeat' first
      | (with_reducible exact bellowsref03_Clean.mono _ _)
      | (with_reducible exact LeO.refl _)
      | (with_reducible exact LeO.none _)
      | (with_reducible refine LeO.ite ?_ ?_)
      | (with_reducible refine LeO.bind ?_ (fun _ => ?_))
      | exact bellowsref03_Clean.mono _ _
      | exact LeO.none _
      | refine LeO.ite ?_ ?_
      | refine LeO.bind ?_ (fun _ => ?_)
set_option maxHeartbeats 8000000 in
set_option maxRecDepth 100000 in
theorem bellowsref03_Right.calls (k : Nat) (a0 : ByteArray) (r : Bool) (w : World) (h : bellowsref03_Right.f k a0 = some r) :
    Calls Tryd.prog 11 #[.string a0] w fun e w' => e = .returned (.bool r) ∧ Below w.heap.size w w' := by
  have HB := Aside0.mk (Below.refl w.heap.size w)
  have H : ((bellowsref03_Clean.f k a0).bind fun bt134 => (if bt134.2 = 0 then (some (bt134.1.toList == a0.toList)) else (some false))) = some r := h
  clear h
  replace H := Option.bind_eq_some_iff.mp H
  obtain ⟨⟨t134, t135⟩, A20, H⟩ := H
  replace H : (if t135 = 0 then (some (t134.toList == a0.toList)) else (some false)) = some r := H
  have A2 := Aside0.mk A20
  clear A20
  by_cases c3 : t135 = 0
  · rw [if_pos c3] at H
    have c3b0 : (t135 == 0) = true := beq_iff_eq.mpr c3
    have c3b1 : (t135 != 0) = false := bne_eq_false_iff_eq.mpr c3
    clear c3
    obtain rfl := Option.some.inj H
    go_enter Tryd.func11, Tryd.ntmps11
    go_wp2_with (first | ((with_reducible refine gate_callee (f := 21) rfl ?_); refine goesL_ (some 7) rfl rfl Tryd.func21 (by kernel_rfl) rfl #[.string a0] rfl (by (try simp only [List.map_toArray, List.map_cons, List.map_nil]); first | done | rfl | (simp only [List.length_drop, List.length_take]; rfl)) ?_; (with_reducible refine (bellowsref03_Clean.calls k a0 t134 t135 _ A2.out).mono ?_); rintro e w4 ⟨rfl, hb⟩; refine ⟨_, rfl, ?_⟩; have n0_ := Aside0.mk (below_step (by repeat (first | (with_reducible first | exact HB.out | apply below_alloc | apply pw_below_drewN | apply below_drew1) | exact HB.out)) hb); clear HB; have HB := n0_; clear n0_; (try clear hb); (try clear hb2); (try clear hk); (try clear hi)))
    go_ret
    exact ⟨by first | rfl | (simp [errW_none, errW_some] <;> rfl) | (simp [*, errW_none, errW_some] <;> rfl), by repeat (first | (with_reducible first | exact HB.out | apply below_alloc | apply pw_below_drewN | apply below_drew1) | exact HB.out)⟩
  · rw [if_neg c3] at H
    have c3b0 : (t135 == 0) = false := beq_eq_false_iff_ne.mpr c3
    have c3b1 : (t135 != 0) = true := bne_iff_ne.mpr c3
    obtain rfl := Option.some.inj H
    go_enter Tryd.func11, Tryd.ntmps11
    go_wp2_with (first | ((with_reducible refine gate_callee (f := 21) rfl ?_); refine goesL_ (some 7) rfl rfl Tryd.func21 (by kernel_rfl) rfl #[.string a0] rfl (by (try simp only [List.map_toArray, List.map_cons, List.map_nil]); first | done | rfl | (simp only [List.length_drop, List.length_take]; rfl)) ?_; (with_reducible refine (bellowsref03_Clean.calls k a0 t134 t135 _ A2.out).mono ?_); rintro e w5 ⟨rfl, hb⟩; refine ⟨_, rfl, ?_⟩; have n0_ := Aside0.mk (below_step (by repeat (first | (with_reducible first | exact HB.out | apply below_alloc | apply pw_below_drewN | apply below_drew1) | exact HB.out)) hb); clear HB; have HB := n0_; clear n0_; (try clear hb); (try clear hb2); (try clear hk); (try clear hi)))
    go_ret
    exact ⟨by first | rfl | (simp [errW_none, errW_some] <;> rfl) | (simp [*, errW_none, errW_some] <;> rfl), by repeat (first | (with_reducible first | exact HB.out | apply below_alloc | apply pw_below_drewN | apply below_drew1) | exact HB.out)⟩
end Go.Proofs.YteniakfclkdlfaaDoor.P
end
section
set_option linter.unusedSimpArgs false
set_option linter.unusedVariables false
namespace Go.Proofs.YteniakfclkdlfaaDoor.PTh
open Go.RowKit Go.Proofs.YteniakfclkdlfaaDoorW.PrintWords Go.Proofs.YteniakfclkdlfaaDoor.U Go.Proofs.YteniakfclkdlfaaDoor.P Go.Proofs.YteniakfclkdlfaaDoor.Rng
theorem plain_all : ((List.range 256).all fun n => bellowsref03_plain.f (n : Int) == some (plainR n)) = true := by decide +kernel
theorem plain_f (b : UInt8) : bellowsref03_plain.f (b.toNat : Int) = some (plainB b) := by
  have h := List.all_eq_true.1 plain_all b.toNat (List.mem_range.2 b.toNat_lt)
  exact beq_iff_eq.1 h
def fin (qs : List (List UInt8)) : ByteArray × Int := if joinP qs = [] then (B [], 5) else if 100 < (joinP qs).length then (B [], 3) else (B (joinP qs), 0)
theorem joinP_take (qs : List (List UInt8)) (i : Nat) : (joinP (qs.take i)).length ≤ (joinP qs).length := by
  by_cases h1 : qs.take i = []
  · rw [h1]; exact Nat.zero_le _
  · by_cases h2 : qs.drop i = []
    · have := List.take_append_drop i qs
      rw [h2, List.append_nil] at this
      rw [this]; exact Nat.le_refl _
    · have := joinP_append _ _ h1 h2
      rw [List.take_append_drop] at this
      rw [this, List.length_append]; omega
theorem ref_l2 (qs : List (List UInt8)) (hn : qs.length < 1000000) (hl : (joinP qs).length < 1000000) (d : Nat) : ∀ i : Nat, i + d = qs.length →
    Ev (fun k => bellowsref03_Clean.l2 k (qs.map B) (B (joinP (qs.take i))) (i : Int)) (fin qs) := by
  induction d with
  | zero =>
    intro i hi
    refine Ev.unroll ?_
    have h1 : ¬ (i : Int) < ((qs.map B).length : Int) := by rw [List.length_map]; omega
    have h2 : qs.take i = qs := List.take_of_length_le (by omega)
    simp only [bellowsref03_Clean.l2, if_neg h1, h2, toList_B, size_B]
    unfold fin
    by_cases h3 : joinP qs = []
    · simp only [if_pos h3]; exact Ev.now _
    · by_cases h4 : 100 < (joinP qs).length
      · have h5 : ((joinP qs).length : Int) > 100 := by omega
        simp only [if_neg h3, if_pos h4, if_pos h5]; exact Ev.now _
      · have h5 : ¬ ((joinP qs).length : Int) > 100 := by omega
        simp only [if_neg h3, if_neg h4, if_neg h5]; exact Ev.now _
  | succ d ih =>
    intro i hi
    refine Ev.unroll ?_
    have hlt : i < qs.length := by omega
    have h1 : (i : Int) < ((qs.map B).length : Int) := by rw [List.length_map]; omega
    have h0 : (0 : Int) ≤ (i : Int) := by omega
    have hr := ih (i + 1) (by omega)
    have hw := Aside0.mk (wrap_succ i (by omega))
    have hrd : rdOf ByteArray.empty (qs.map B) (i : Int) = B qs[i] := by rw [rdOf_B _ _ (by simpa using hlt)]; simp
    have htk : qs.take (i + 1) = qs.take i ++ [qs[i]] := by rw [List.take_add_one, List.getElem?_eq_getElem hlt]; rfl
    have hb1 := joinP_take qs i
    have hb2 := joinP_take qs (i + 1)
    by_cases hi0 : i = 0
    · subst hi0
      have h2 : ¬ ((0 : Nat) : Int) > 0 := by omega
      have e1 : joinP (qs.take (0 + 1)) = qs[0] := by rw [htk]; simp [joinP_one]
      rw [e1] at hb2 hr
      have s1 : (B (joinP (qs.take 0))).size + (B qs[0]).size ≤ 9223372036854775807 := by rw [size_B, size_B]; omega
      have e2 : B (joinP (qs.take 0)) ++ B qs[0] = B qs[0] := by rw [B_append]; simp [joinP_nil]
      simp only [bellowsref03_Clean.l2, if_pos h1, if_neg h2, if_pos h0, hrd, if_pos s1, e2, hw.out]
      exact hr
    · have h2 : (i : Int) > 0 := by omega
      have hne : qs.take i ≠ [] := by
        intro e
        have := congrArg List.length e
        rw [List.length_take, List.length_nil] at this
        omega
      have e1 : joinP (qs.take (i + 1)) = joinP (qs.take i) ++ 47 :: qs[i] := by rw [htk, joinP_snoc _ hne]
      rw [e1] at hb2 hr
      rw [List.length_append, List.length_cons] at hb2
      have e2 : (B (joinP (qs.take i)) ++ (⟨#[47]⟩ : ByteArray)) ++ B qs[i] = B (joinP (qs.take i) ++ 47 :: qs[i]) := by
        show (B _ ++ B [47]) ++ B _ = _
        rw [B_append, B_append]; simp
      have s1 : (B (joinP (qs.take i))).size + 1 ≤ 9223372036854775807 := by rw [size_B]; omega
      have s2 : (B (joinP (qs.take i)) ++ (⟨#[47]⟩ : ByteArray)).size + (B qs[i]).size ≤ 9223372036854775807 := by
        show (B (joinP (qs.take i)) ++ B [47]).size + (B qs[i]).size ≤ _
        rw [B_append, size_B, size_B, List.length_append, List.length_singleton]; omega
      simp only [bellowsref03_Clean.l2, if_pos h1, if_pos h2, if_pos h0, hrd, if_pos s1, if_pos s2, e2, hw.out]
      exact hr
def step1 (w : List UInt8) (ps : List (List UInt8)) : Option (List (List UInt8)) :=
  if w = [] ∨ w = [46] then some ps else if w = [46, 46] then (if ps = [] then none else some ps.dropLast) else some (ps ++ [w])
theorem foldP_step (w : List UInt8) (r ps : List (List UInt8)) : foldP (w :: r) ps = (step1 w ps).bind (foldP r) := by
  rw [foldP, step1]
  by_cases h1 : w = [] ∨ w = [46]
  · rw [if_pos h1, if_pos h1]; rfl
  · rw [if_neg h1, if_neg h1]
    by_cases h2 : w = [46, 46]
    · rw [if_pos h2, if_pos h2]
      by_cases h3 : ps = []
      · rw [if_pos h3, if_pos h3]; rfl
      · rw [if_neg h3, if_neg h3]; rfl
    · rw [if_neg h2, if_neg h2]; rfl
theorem step1_len {w : List UInt8} {ps qs : List (List UInt8)} (h : step1 w ps = some qs) : qs.length ≤ ps.length + 1 ∧ (joinP qs).length ≤ (joinP ps).length + 1 + w.length := by
  rw [step1] at h
  by_cases h1 : w = [] ∨ w = [46]
  · rw [if_pos h1] at h; cases h; omega
  · rw [if_neg h1] at h
    by_cases h2 : w = [46, 46]
    · rw [if_pos h2] at h
      by_cases h3 : ps = []
      · rw [if_pos h3] at h; cases h
      · rw [if_neg h3] at h; cases h
        have := joinP_take ps (ps.length - 1)
        rw [← List.dropLast_eq_take] at this
        rw [List.length_dropLast]; omega
    · rw [if_neg h2] at h; cases h
      by_cases h3 : ps = []
      · subst h3; simp [joinP_one, joinP_nil]
      · rw [joinP_snoc _ h3]; simp; omega
theorem ref_part (T p w r : List UInt8) (ps : List (List UInt8)) (R : ByteArray × Int) (hT : T = p ++ (w ++ r)) (hl : T.length < 100000) (hps : ps.length < 1000000)
    (h0 : step1 w ps = none → R = (B [], 5))
    (h1 : ∀ qs, step1 w ps = some qs → Ev (fun k => bellowsref03_Clean.l1 k (B T) (qs.map B) ((p.length + w.length + 1 : Nat) : Int) ((p.length + w.length + 1 : Nat) : Int)) R) :
    Ev (fun k => bellowsref03_Clean.j2 k (B T) (ps.map B) (p.length : Int) ((p.length + w.length : Nat) : Int) false) R := by
  refine Ev.unroll ?_
  have hTl : T.length = p.length + (w.length + r.length) := by rw [hT]; simp
  have a1 : (0 : Int) ≤ (p.length : Int) := by omega
  have a2 : (p.length : Int) ≤ ((p.length + w.length : Nat) : Int) := by omega
  have a3 : ((p.length + w.length : Nat) : Int) ≤ ((B T).size : Int) := by rw [size_B]; omega
  have hex : (B T).extract (p.length : Int).toNat ((p.length + w.length : Nat) : Int).toNat = B w := by
    rw [extract_B, Int.toNat_natCast, Int.toNat_natCast, hT, ← List.append_assoc, List.take_left' (by simp)]; simp
  have hw := Aside0.mk (show wrap64 (((p.length + w.length : Nat) : Int) + 1) = ((p.length + w.length + 1 : Nat) : Int) from wrap_succ _ (by omega))
  simp only [bellowsref03_Clean.j2, Bool.false_eq_true, if_false, if_pos a1, if_pos a2, if_pos a3, hex, hw.out, toList_B]
  by_cases c1 : w = []
  · simp only [if_pos c1]
    refine Ev.unroll ?_
    simp only [bellowsref03_Clean.j3, if_true, hw.out]
    exact h1 ps (by rw [step1, if_pos (.inl c1)])
  · simp only [if_neg c1]
    refine Ev.unroll ?_
    by_cases c2 : w = [46]
    · have : (w == ([46] : List UInt8)) = true := beq_iff_eq.2 c2
      simp only [bellowsref03_Clean.j3, this, if_true, hw.out]
      exact h1 ps (by rw [step1, if_pos (.inr c2)])
    · have : (w == ([46] : List UInt8)) = false := beq_eq_false_iff_ne.2 c2
      have c12 : ¬ (w = [] ∨ w = [46]) := by simp [c1, c2]
      simp only [bellowsref03_Clean.j3, this, Bool.false_eq_true, if_false, toList_B]
      by_cases c3 : w = [46, 46]
      · simp only [if_pos c3]
        refine Ev.unroll ?_
        by_cases c4 : ps = []
        · subst c4
          simp only [bellowsref03_Clean.j4, List.map_nil, List.length_nil]
          simp only [show (((0 : Nat) : Int) == 0) = true from rfl, if_true]
          have := h0 (by rw [step1, if_neg c12, if_pos c3, if_pos rfl])
          subst this
          exact Ev.now _
        · have hpl : 0 < ps.length := List.length_pos_iff.2 c4
          have e0 : (((ps.map B).length : Int) == 0) = false := by rw [beq_eq_false_iff_ne, List.length_map]; omega
          have e1 : wrap64 (((ps.map B).length : Int) - 1) = ((ps.length - 1 : Nat) : Int) := by rw [List.length_map, wrap_id _ (by omega) (by omega)]; omega
          have e2 : (0 : Int) ≤ ((ps.length - 1 : Nat) : Int) := by omega
          have e3 : ((ps.length - 1 : Nat) : Int) ≤ ((ps.map B).length : Int) := by rw [List.length_map]; omega
          have e4 : (ps.map B).take ((ps.length - 1 : Nat) : Int).toNat = ps.dropLast.map B := by rw [Int.toNat_natCast, List.dropLast_eq_take, List.map_take]
          simp only [bellowsref03_Clean.j4, e0, Bool.false_eq_true, if_false, toList_B, if_pos c3, e1, if_pos e2, if_pos e3, e4, hw.out]
          exact h1 _ (by rw [step1, if_neg c12, if_pos c3, if_neg c4])
      · simp only [if_neg c3]
        refine Ev.unroll ?_
        have e1 : (ps.map B).length < 8796093022208 := by rw [List.length_map]; omega
        simp only [bellowsref03_Clean.j4, Bool.false_eq_true, if_false, toList_B, if_neg c3, if_pos e1, hw.out]
        have := h1 (ps ++ [w]) (by rw [step1, if_neg c12, if_neg c3])
        rw [List.map_append] at this
        exact this
def Rof (o : Option (List (List UInt8))) : ByteArray × Int := match o with | none => (B [], 5) | some qs => fin qs
theorem ref_l1 (n : Nat) : ∀ (T p w s : List UInt8) (ps : List (List UInt8)), s.length = n → T = p ++ (w ++ s) → (47 : UInt8) ∉ w → T.length < 100000 → ps.length + s.length < 500000 →
    (joinP ps).length + w.length + s.length < 500000 →
    Ev (fun k => bellowsref03_Clean.l1 k (B T) (ps.map B) (p.length : Int) ((p.length + w.length : Nat) : Int)) (Rof (foldP (sp (w ++ s)) ps)) := by
  induction n with
  | zero =>
    intro T p w s ps hs hT hw hl hps hj
    obtain rfl := List.length_eq_zero_iff.1 hs
    simp only [List.length_nil, Nat.add_zero] at hps hj
    refine Ev.unroll ?_
    have hTl : T.length = p.length + w.length := by rw [hT]; simp
    have h1 : ((p.length + w.length : Nat) : Int) ≤ ((B T).size : Int) := by rw [size_B]; omega
    have h2 : ¬ ((p.length + w.length : Nat) : Int) < ((B T).size : Int) := by rw [size_B]; omega
    simp only [bellowsref03_Clean.l1, if_pos h1, if_neg h2]
    rw [List.append_nil, sp_none w hw, foldP_step]
    refine ref_part T p w [] ps _ hT hl (by omega) (fun h => by rw [h]; rfl) (fun qs h => ?_)
    have hq := step1_len h
    rw [h]
    refine Ev.unroll ?_
    have h3 : ¬ ((p.length + w.length + 1 : Nat) : Int) ≤ ((B T).size : Int) := by rw [size_B]; omega
    simp only [bellowsref03_Clean.l1, if_neg h3]
    have := ref_l2 qs (by omega) (by omega) qs.length 0 (by omega)
    exact this
  | succ n ih =>
    intro T p w s ps hs hT hw hl hps hj
    cases s with
    | nil => cases hs
    | cons b s =>
      simp only [List.length_cons] at hs hps hj
      refine Ev.unroll ?_
      have hTl : T.length = p.length + (w.length + (s.length + 1)) := by rw [hT]; simp
      have h1 : ((p.length + w.length : Nat) : Int) ≤ ((B T).size : Int) := by rw [size_B]; omega
      have h2 : ((p.length + w.length : Nat) : Int) < ((B T).size : Int) := by rw [size_B]; omega
      have h3 : (0 : Int) ≤ ((p.length + w.length : Nat) : Int) := by omega
      have hbt : bt (B T) ((p.length + w.length : Nat) : Int) = (b.toNat : Int) := by
        have := bt_mid (p ++ w) b s
        rw [List.length_append, List.append_assoc, ← hT] at this
        exact this
      simp only [bellowsref03_Clean.l1, if_pos h1, if_pos h2, if_pos h3, hbt]
      by_cases hb : b = 47
      · subst hb
        have e1 : (((47 : UInt8).toNat : Int) != 47) = false := rfl
        rw [e1, sp_at w s hw, foldP_step]
        refine ref_part T p w (47 :: s) ps _ hT hl (by omega) (fun h => by rw [h]; rfl) (fun qs h => ?_)
        have hq := step1_len h
        rw [h]
        have := ih T (p ++ (w ++ [47])) [] s qs (by omega) (by rw [hT]; simp) (by simp) hl (by omega) (by simp; omega)
        simp only [List.length_append, List.length_singleton, List.length_nil, Nat.add_zero, List.nil_append] at this
        exact this
      · have e1 : ((b.toNat : Int) != 47) = true := bne_iff_ne.2 (byte_ne (d := 47) hb)
        rw [e1]
        refine Ev.unroll ?_
        have hw2 := Aside0.mk (show wrap64 (((p.length + w.length : Nat) : Int) + 1) = ((p.length + w.length + 1 : Nat) : Int) from wrap_succ _ (by omega))
        simp only [bellowsref03_Clean.j2, if_true, hw2.out]
        have := ih T p (w ++ [b]) s ps (by omega) (by rw [hT]; simp) (by simp [hw, Ne.symm hb]) hl (by omega) (by rw [List.length_append, List.length_singleton]; omega)
        rw [List.length_append, List.length_singleton, List.append_assoc] at this
        exact this
theorem ref_l0 (n : Nat) (T : List UInt8) (hl : T.length < 100000) : ∀ (p s : List UInt8), s.length = n → T = p ++ s → (p ≠ [] → T.head? ≠ some 47) → p.all plainB = true →
    Ev (fun k => bellowsref03_Clean.l0 k (B T) (p.length : Int)) (if T.head? = some 47 ∨ T.all plainB = false then (B [], 5) else Rof (foldP (sp T) [])) := by
  induction n with
  | zero =>
    intro p s hs hT hh hp
    obtain rfl := List.length_eq_zero_iff.1 hs
    rw [List.append_nil] at hT
    subst hT
    refine Ev.unroll ?_
    have h1 : ¬ (T.length : Int) < ((B T).size : Int) := by rw [size_B]; omega
    have hh' : ¬ (T.head? = some 47 ∨ T.all plainB = false) := by
      rintro (h | h)
      · cases T with
        | nil => cases h
        | cons b t => exact hh (by simp) h
      · rw [hp] at h; cases h
    simp only [bellowsref03_Clean.l0, if_neg h1, if_neg hh']
    have := ref_l1 T.length T [] [] T [] rfl rfl (by simp) hl (by simp; omega) (by simp [joinP_nil]; omega)
    exact this
  | succ n ih =>
    intro p s hs hT hh hp
    cases s with
    | nil => cases hs
    | cons b s =>
      refine Ev.unroll ?_
      have hTl : T.length = p.length + (s.length + 1) := by rw [hT]; simp
      have h1 : (p.length : Int) < ((B T).size : Int) := by rw [size_B]; omega
      have h2 : (0 : Int) ≤ (p.length : Int) := by omega
      have hbt : bt (B T) (p.length : Int) = (b.toNat : Int) := by rw [hT]; exact bt_mid p b s
      have hw := Aside0.mk (show wrap64 ((p.length : Int) + 1) = ((p.length + 1 : Nat) : Int) from wrap_succ _ (by omega))
      simp only [bellowsref03_Clean.l0, if_pos h1, if_pos h2, hbt, plain_f, Option.bind_some, hw.out]
      by_cases hb : plainB b = true
      · simp only [if_pos hb]
        have go : (T.head? ≠ some 47) → Ev (fun k => bellowsref03_Clean.l0 k (B T) ((p.length + 1 : Nat) : Int)) (if T.head? = some 47 ∨ T.all plainB = false then (B [], 5) else Rof (foldP (sp T) [])) := fun hd => by
          have := ih (p ++ [b]) s (by simpa using hs) (by rw [hT]; simp) (fun _ => hd) (by rw [List.all_append, hp]; simp [hb])
          rw [List.length_append, List.length_singleton] at this
          exact this
        by_cases hp0 : p = []
        · subst hp0
          have hd : T.head? = some b := by rw [hT]; rfl
          simp only [List.length_nil]
          simp only [show ((0 : Nat) : Int) = 0 from rfl, if_true]
          by_cases hb47 : b = 47
          · subst hb47
            simp only [show ((47 : UInt8).toNat : Int) = 47 from rfl, if_true, if_pos (Or.inl hd)]
            exact Ev.now _
          · simp only [if_neg (show ¬ (b.toNat : Int) = 47 from byte_ne (d := 47) hb47)]
            have := go (by rw [hd]; simpa using hb47)
            simpa using this
        · have h3 : ¬ (p.length : Int) = 0 := by
            have := List.length_pos_iff.2 hp0
            omega
          simp only [if_neg h3]
          exact go (hh hp0)
      · simp only [if_neg hb]
        have : T.all plainB = false := by
          rw [hT, List.all_append, List.all_cons]
          simp [hb]
        rw [if_pos (.inr this)]
        exact Ev.now _
theorem ref_Clean (l : List UInt8) : Ev (fun k => bellowsref03_Clean.f k (B l)) (B (cleanL l).1, (cleanL l).2) := by
  by_cases h : ((B l).size : Int) > 1000
  · have h' : 1000 < l.length := by rw [size_B] at h; omega
    simp only [bellowsref03_Clean.f, if_pos h, cleanL, if_pos h']
    exact Ev.now _
  · have h' : ¬ 1000 < l.length := by rw [size_B] at h; omega
    simp only [bellowsref03_Clean.f, if_neg h]
    have := ref_l0 l.length l (by omega) [] l rfl rfl (by simp) rfl
    refine Ev.eqn this ?_
    rw [cleanL, if_neg h']
    by_cases h2 : l.head? = some 47 ∨ l.all plainB = false
    · rw [if_pos h2, if_pos h2]
    · rw [if_neg h2, if_neg h2]
      show Rof (foldP (splitK 47 0 l) []) = _
      cases foldP (splitK 47 0 l) [] with
      | none => rfl
      | some ps =>
        simp only [Rof, fin]
        split
        · rfl
        · split <;> rfl
theorem ref_Right (l : List UInt8) : Ev (fun k => bellowsref03_Right.f k (B l)) (decide (cleanL l = (l, 0))) := by
  simp only [bellowsref03_Right.f]
  refine Ev.bind (ref_Clean l) ?_
  simp only [toList_B]
  by_cases h : (cleanL l).2 = 0
  · rw [if_pos h]
    refine Ev.eqn (Ev.now _) ?_
    rw [Bool.eq_iff_iff, beq_iff_eq, decide_eq_true_iff]
    exact ⟨fun e => Prod.ext e h, fun e => by rw [e]⟩
  · rw [if_neg h]
    refine Ev.eqn (Ev.now _) ?_
    symm
    rw [decide_eq_false_iff_not]
    intro e; rw [e] at h; exact h rfl
end Go.Proofs.YteniakfclkdlfaaDoor.PTh
end
section
set_option linter.unusedSimpArgs false
set_option linter.unusedVariables false
namespace Go.Proofs.YteniakfclkdlfaaDoor.Mf
open Go.RowKit Go.Lib Go.Shelf Go.Maps Go.Proofs.YteniakfclkdlfaaDoorW.PrintWords Go.Proofs.YteniakfclkdlfaaDoor.U Go.Proofs.YteniakfclkdlfaaDoor.Sc Go.Proofs.YteniakfclkdlfaaDoor.P Go.Proofs.YteniakfclkdlfaaDoor.MapV
theorem right_true (p : Txt) (h : CleanP p) (w : World) : Calls Tryd.prog 11 #[.string (B p)] w fun e w' => e = .returned (.bool true) ∧ Below w.heap.size w w' := by
  obtain ⟨k, hk⟩ := Ev.rounds (PTh.ref_Right p)
  obtain ⟨s, hs⟩ := h
  obtain ⟨ps, hc⟩ := PTh.clean_is hs
  have e : decide (cleanL p = (p, 0)) = true := decide_eq_true (PTh.IsClean.again hc)
  rw [e] at hk
  exact bellowsref03_Right.calls k (B p) true w hk
set_option maxRecDepth 100000 in
set_option maxHeartbeats 8000000 in
theorem all_C (l : List Txt) (hl : ∀ p ∈ l, CleanP p) (A : Option Addr) (c : Nat) (w : World) (h0 : l.length ≤ c) (g0 : Kd.C Kd.string w A l.length (l.map B)) :
    Calls Tryd.prog 10 #[.slice A l.length c] w fun e w' => e = .returned (.bool true) ∧ Below w.heap.size w w' := by
  have hG0 := Lib.hid g0
  have hR := Lib.hid (fun p hp W => right_true p (hl p hp) W)
  have hn := g0.2.1
  clear g0
  go_enter Tryd.func10, Tryd.ntmps10
  go_wp2_with fail
  go_loopg [3] l.length (fun gk s3 wr => ∃ i : Nat, s3 = .int .i64 (i : Int) ∧ i + gk = l.length ∧ Hid (Below w.heap.size w wr))
  case atStart => exact ⟨0, rfl, Nat.zero_add _, Below.refl _ _⟩
  case round =>
    obtain ⟨i, rfl, hik, hB⟩ := hrel
    cases gk with
    | zero =>
      have hlt : decide ((i : Int) < (l.length : Int)) = false := by rw [decide_eq_false_iff_not]; omega
      go_wp2_with fail
      go_ret
      exact ⟨rfl, hB.out⟩
    | succ gk =>
      have hi' : i < l.length := by omega
      have hi : i < (l.map B).length := by rw [List.length_map]; exact hi'
      have hlt : decide ((i : Int) < (l.length : Int)) = true := by rw [decide_eq_true_iff]; omega
      have i1 : (0 : Int) ≤ (i : Int) := by omega
      have i2 : (i : Int) < (l.length : Int) := by omega
      obtain ⟨ad0, rfl, e0⟩ := strC_at (Kd.C_below hG0.out hB.out) i hi
      rw [List.getElem_map] at e0
      have hx := Lib.hid (hR.out l[i] (List.getElem_mem hi'))
      generalize l[i] = x at *
      go_wp2_with fail
      refine (hx.out _).mono ?_
      rintro e w1 ⟨rfl, hb⟩
      have hB1 := Lib.hid (hB.out.trans (hb.mono hB.out.size))
      clear hb e0
      go_wp2_with fail
      go_roundg gk
      case measure => omega
      case rel => exact ⟨i + 1, by go_num, by omega, hB1⟩
end Go.Proofs.YteniakfclkdlfaaDoor.Mf
end
section
set_option linter.unusedSimpArgs false
set_option linter.unusedVariables false
namespace Go.Proofs.YteniakfclkdlfaaDoor.Mf
open Go.RowKit Go.Lib Go.Shelf Go.Maps Go.Proofs.YteniakfclkdlfaaDoorW.PrintWords Go.Proofs.YteniakfclkdlfaaDoor.U Go.Proofs.YteniakfclkdlfaaDoor.Sc Go.Proofs.YteniakfclkdlfaaDoor.P Go.Proofs.YteniakfclkdlfaaDoor.MapV
set_option maxRecDepth 100000 in
set_option maxHeartbeats 16000000 in
theorem clean_walk (a : ByteArray) (w : World) (hm : MaxCell w) (hsz : a.size ≤ 140737488351232) : Calls Tryd.prog 3 #[.string a] w fun e w' => e = .returned (.bool true) ∧ Below w.heap.size w w' := by
  have hu25 := Tryd.underlying25
  have hu31 := Tryd.underlying31
  have hMH := Lib.hid hm
  have hAw := Lib.hid (fun W (hB : Below w.heap.size w W) => awake_C W (hm.below hB))
  clear hm
  obtain ⟨text, rfl⟩ : ∃ t : Txt, a = B t := ⟨_, B_of a⟩
  rw [size_B] at hsz
  by_cases hl : 4000 < text.length
  · have hgt : decide ((4000 : Int) < (text.length : Int)) = true := by rw [decide_eq_true_iff]; omega
    go_enter Tryd.func3, Tryd.ntmps3
    go_wp2_with fail
    go_ret
    exact ⟨rfl, Below.refl _ _⟩
  have hgt : decide ((4000 : Int) < (text.length : Int)) = false := by rw [decide_eq_false_iff_not]; omega
  have hg := parse_good text
  obtain ⟨⟨es, ds, n, c⟩, hp⟩ : ∃ r, parseL text = r := ⟨_, rfl⟩
  rw [hp] at hg
  dsimp only at hg
  by_cases hc : c = 0
  · subst hc
    obtain ⟨rfl, hes, hds⟩ := hg.2 rfl
    have hES := Lib.hid hes
    have hDS := Lib.hid hds
    clear hg hes hds
    go_enter Tryd.func3, Tryd.ntmps3
    go_wp2_with fail
    refine (parse_C _ _ _ _ _ hp _ rfl _ hMH.out).mono ?_
    rintro e w1 ⟨A0, c0, A1, c1, rfl, l0, g0, l1, g1, hb⟩
    rw [List.length_map] at l0 l1 ⊢
    have hG0 := Lib.hid g0
    have hG1 := Lib.hid g1
    have hL1 := Lib.hid l1
    have hB1 := Lib.hid hb
    have hlen := g0.2.1
    rw [List.length_map] at hlen
    clear g0 g1 l1 hb
    have hMB : Hid ((w1.alloc (.cells #[.slice A0 es.length c0, .slice A1 ds.length c1] 25)).heap[w1.heap.size]? = some (.cells #[.slice A0 es.length c0, .slice A1 ds.length c1] 25 (0, 0))) := heap_alloc_new _ _
    have hB2 : Hid (Below w1.heap.size w1 (w1.alloc (.cells #[.slice A0 es.length c0, .slice A1 ds.length c1] 25))) := Lib.hid (by (repeat (first | exact Below.refl _ _ | refine Below.drew ?_ | refine Below.setCell ?_ (by simp <;> omega) _ | refine Below.alloc ?_ (by simp <;> omega) _)))
    go_wp2_with fail
    go_loopg [6] es.length (fun gk s6 wr => ∃ i : Nat, s6 = .int .i64 (i : Int) ∧ i + gk = es.length ∧ Hid (Below w1.heap.size w1 wr) ∧ Hid (wr.heap[w1.heap.size]? = some (.cells #[.slice A0 es.length c0, .slice A1 ds.length c1] 25 (0, 0))))
    case atStart => exact ⟨0, rfl, Nat.zero_add _, hB2, hMB⟩
    case round =>
      clear hMB hB2
      obtain ⟨i, rfl, hik, hB, hM⟩ := hrel
      have m0_ := (cell_of_heap (j := 0) hM.out).trans rfl
      have m1_ := (cell_of_heap (j := 1) hM.out).trans rfl
      have hBw := Lib.hid (hB1.out.trans (hB.out.mono hB1.out.size))
      have hzM := lt_blk hM.out
      cases gk with
      | zero =>
        have hlt : decide ((i : Int) < (es.length : Int)) = false := by rw [decide_eq_false_iff_not]; omega
        go_wp2_with fail
        refine (all_C ds hDS.out A1 c1 wr hL1.out (by have := Kd.C_below hG1.out hB.out; rw [List.length_map] at this; exact this)).mono ?_
        rintro e w2 ⟨rfl, hb⟩
        have hB3 := Lib.hid (hBw.out.trans (hb.mono hBw.out.size))
        go_wp2_with fail
        refine (hAw.out _ hB3.out).mono ?_
        rintro e w3 ⟨rfl, hb⟩
        have hB4 := Lib.hid (hB3.out.trans (hb.mono hB3.out.size))
        go_wp2_with fail
        go_ret
        exact ⟨rfl, hB4.out⟩
      | succ gk =>
        have hi : i < es.length := by omega
        have hlt : decide ((i : Int) < (es.length : Int)) = true := by rw [decide_eq_true_iff]; omega
        have i1 : (0 : Int) ≤ (i : Int) := by omega
        have i2 : (i : Int) < (es.length : Int) := by omega
        obtain ⟨ad, a0, d0, a1, d1, a2, d2, a3, d3, rfl, k0, k1, k2, k3, k4, k5, l0, g0, l1, g1, l2, g2, l3, g3⟩ := edge_at (Kd.C_below hG0.out hB.out) i hi
        have hx := hES.out es[i] (List.getElem_mem hi)
        generalize es[i] = x at *
        have hne : ((x.outs.length : Int) == 0) = false := by
          rw [beq_eq_false_iff_ne]; intro e
          exact hx.outs (List.length_eq_zero_iff.1 (by omega))
        have hne2 : decide ((x.outs.length : Int) = 0) = false := by rw [decide_eq_false_iff_not]; simpa using hne
        have hne3 : (x.command == []) = false := beq_eq_false_iff_ne.2 hx.cmd
        have hne4 : x.command.isEmpty = false := by cases hq : x.command with | nil => exact absurd hq hx.cmd | cons _ _ => rfl
        have hXx := Lib.hid hx
        have hA0 := Lib.hid (fun W (hW : Below wr.heap.size wr W) => all_C x.outs hx.p0 a0 d0 W l0 (Kd.C_below g0 hW))
        have hA1 := Lib.hid (fun W (hW : Below wr.heap.size wr W) => all_C x.ins hx.p1 a1 d1 W l1 (Kd.C_below g1 hW))
        have hA2 := Lib.hid (fun W (hW : Below wr.heap.size wr W) => all_C x.imp hx.p2 a2 d2 W l2 (Kd.C_below g2 hW))
        have hA3 := Lib.hid (fun W (hW : Below wr.heap.size wr W) => all_C x.ord hx.p3 a3 d3 W l3 (Kd.C_below g3 hW))
        clear g0 g1 g2 g3 hx
        have hX0 : Hid ((wr.alloc (.cells #[.slice a0 x.outs.length d0, .slice a1 x.ins.length d1, .slice a2 x.imp.length d2, .slice a3 x.ord.length d3, .string (B x.command), .string (B x.depfile)] 31)).heap[wr.heap.size]? = some (.cells #[.slice a0 x.outs.length d0, .slice a1 x.ins.length d1, .slice a2 x.imp.length d2, .slice a3 x.ord.length d3, .string (B x.command), .string (B x.depfile)] 31 (0, 0))) := heap_alloc_new _ _
        have hW0 : Hid (Below wr.heap.size wr (wr.alloc (.cells #[.slice a0 x.outs.length d0, .slice a1 x.ins.length d1, .slice a2 x.imp.length d2, .slice a3 x.ord.length d3, .string (B x.command), .string (B x.depfile)] 31))) := Lib.hid (by (repeat (first | exact Below.refl _ _ | refine Below.drew ?_ | refine Below.setCell ?_ (by simp <;> omega) _ | refine Below.alloc ?_ (by simp <;> omega) _)))
        go_wp2_with fail
        refine (hA0.out _ hW0.out).mono ?_
        rintro e v1 ⟨rfl, hb⟩
        have hX1 := Lib.hid ((hb.block _ (lt_blk hX0.out)).trans hX0.out)
        have hW1 := Lib.hid (hW0.out.trans (hb.mono hW0.out.size))
        clear hb
        have x0 := (cell_of_heap (j := 0) hX1.out).trans rfl
        have x1 := (cell_of_heap (j := 1) hX1.out).trans rfl
        have x2 := (cell_of_heap (j := 2) hX1.out).trans rfl
        have x3 := (cell_of_heap (j := 3) hX1.out).trans rfl
        have x4 := (cell_of_heap (j := 4) hX1.out).trans rfl
        have x5 := (cell_of_heap (j := 5) hX1.out).trans rfl
        go_wp2_with fail
        refine (hA1.out _ hW1.out).mono ?_
        rintro e v2 ⟨rfl, hb⟩
        have hX2 := Lib.hid ((hb.block _ (lt_blk hX1.out)).trans hX1.out)
        have hW2 := Lib.hid (hW1.out.trans (hb.mono hW1.out.size))
        clear hb x0 x1 x2 x3 x4 x5
        have x0 := (cell_of_heap (j := 0) hX2.out).trans rfl
        have x1 := (cell_of_heap (j := 1) hX2.out).trans rfl
        have x2 := (cell_of_heap (j := 2) hX2.out).trans rfl
        have x3 := (cell_of_heap (j := 3) hX2.out).trans rfl
        have x4 := (cell_of_heap (j := 4) hX2.out).trans rfl
        have x5 := (cell_of_heap (j := 5) hX2.out).trans rfl
        go_wp2_with fail
        refine (hA2.out _ hW2.out).mono ?_
        rintro e v3 ⟨rfl, hb⟩
        have hX3 := Lib.hid ((hb.block _ (lt_blk hX2.out)).trans hX2.out)
        have hW3 := Lib.hid (hW2.out.trans (hb.mono hW2.out.size))
        clear hb x0 x1 x2 x3 x4 x5
        have x0 := (cell_of_heap (j := 0) hX3.out).trans rfl
        have x1 := (cell_of_heap (j := 1) hX3.out).trans rfl
        have x2 := (cell_of_heap (j := 2) hX3.out).trans rfl
        have x3 := (cell_of_heap (j := 3) hX3.out).trans rfl
        have x4 := (cell_of_heap (j := 4) hX3.out).trans rfl
        have x5 := (cell_of_heap (j := 5) hX3.out).trans rfl
        go_wp2_with fail
        refine (hA3.out _ hW3.out).mono ?_
        rintro e v4 ⟨rfl, hb⟩
        have hX4 := Lib.hid ((hb.block _ (lt_blk hX3.out)).trans hX3.out)
        have hW4 := Lib.hid (hW3.out.trans (hb.mono hW3.out.size))
        clear hb x0 x1 x2 x3 x4 x5
        by_cases hd : x.depfile = []
        · have x5 : v4.cell? ⟨wr.heap.size, 5, none⟩ = some (.string ⟨#[]⟩) := by
            rw [cell_of_heap (j := 5) hX4.out, hd]; rfl
          go_wp2_with fail
          go_roundg gk
          case measure => omega
          case rel => exact ⟨i + 1, by go_num, by omega, Lib.hid (hB.out.trans (hW4.out.mono hB.out.size)), Lib.hid ((hW4.out.block _ hzM).trans hM.out)⟩
        · have hd1 : (x.depfile == []) = false := beq_eq_false_iff_ne.2 hd
          have hd2 : x.depfile.isEmpty = false := by cases hq : x.depfile with | nil => exact absurd hq hd | cons _ _ => rfl
          have hr := Lib.hid (right_true x.depfile (by rcases hXx.out.dep with h | h; exact absurd h hd; exact h) v4)
          have x5 := (cell_of_heap (j := 5) hX4.out).trans rfl
          go_wp2_with fail
          refine hr.out.mono ?_
          rintro e v5 ⟨rfl, hb⟩
          have hW5 := Lib.hid (hW4.out.trans (hb.mono hW4.out.size))
          go_wp2_with fail
          go_roundg gk
          case measure => omega
          case rel => exact ⟨i + 1, by go_num, by omega, Lib.hid (hB.out.trans (hW5.out.mono hB.out.size)), Lib.hid ((hW5.out.block _ hzM).trans hM.out)⟩
  · obtain ⟨rfl, rfl, hn⟩ := hg.1 hc
    have hc1 : (c == 0) = false := beq_eq_false_iff_ne.2 hc
    have hc2 : (c != 0) = true := by simp [bne, hc1]
    clear hg
    have hend : ∀ W, Below w.heap.size w W → True := fun _ _ => trivial
    by_cases hn0 : 0 < n
    · have hn1 : decide ((n : Int) > 0) = true := by rw [decide_eq_true_iff]; omega
      go_enter Tryd.func3, Tryd.ntmps3
      go_wp2_with fail
      refine (parse_C _ _ _ _ _ hp _ rfl _ hMH.out).mono ?_
      rintro e w1 ⟨A0, c0, A1, c1, rfl, l0, g0, l1, g1, hb⟩
      simp only [List.length_map, List.length_nil] at *
      clear g0 g1 l0 l1
      have hB1 := Lib.hid (hb.alloc hb.size (.cells #[.slice A0 0 c0, .slice A1 0 c1] 25))
      clear hb
      go_wp2_with fail
      refine (hAw.out _ hB1.out).mono ?_
      rintro e w2 ⟨rfl, hb⟩
      have hB3 := Lib.hid (hB1.out.trans (hb.mono hB1.out.size))
      go_wp2_with fail
      go_ret
      exact ⟨rfl, hB3.out⟩
    · obtain rfl : c = 3 := by rcases hn with h | h; exact absurd h hn0; exact h
      obtain rfl : n = 0 := by omega
      go_enter Tryd.func3, Tryd.ntmps3
      go_wp2_with fail
      refine (parse_C _ _ _ _ _ hp _ rfl _ hMH.out).mono ?_
      rintro e w1 ⟨A0, c0, A1, c1, rfl, l0, g0, l1, g1, hb⟩
      simp only [List.length_map, List.length_nil] at *
      clear g0 g1 l0 l1
      have hB1 := Lib.hid (hb.alloc hb.size (.cells #[.slice A0 0 c0, .slice A1 0 c1] 25))
      clear hb
      go_wp2_with fail
      refine (hAw.out _ hB1.out).mono ?_
      rintro e w2 ⟨rfl, hb⟩
      have hB3 := Lib.hid (hB1.out.trans (hb.mono hB1.out.size))
      go_wp2_with fail
      go_ret
      exact ⟨rfl, hB3.out⟩
end Go.Proofs.YteniakfclkdlfaaDoor.Mf
end
section
set_option linter.unusedSimpArgs false
set_option linter.unusedVariables false
namespace Go.Proofs.YteniakfclkdlfaaDoor.Mf
open Go.RowKit Go.Lib Go.Shelf Go.Maps Go.Proofs.YteniakfclkdlfaaDoorW.PrintWords Go.Proofs.YteniakfclkdlfaaDoor.U Go.Proofs.YteniakfclkdlfaaDoor.Sc Go.Proofs.YteniakfclkdlfaaDoor.P Go.Proofs.YteniakfclkdlfaaDoor.MapV
theorem u8_natN {n : Int} (hw : (Lit.int .u8 n).wf = true) : ∃ m : Nat, n = (m : Int) ∧ m < 256 := by
  have h := hw
  simp [Lit.wf] at h
  have h1 : (0 : Int) ≤ n := h.1
  have h2 : n ≤ 255 := h.2
  exact ⟨n.toNat, by omega, by omega⟩
theorem told_P (es : List EdgeO) (ds : List Txt) (A0 A1 : Option Addr) (c0 c1 : Nat) (w : World) (h0 : es.length ≤ c0) (g0 : Kd.C KE w A0 es.length (es.map toS)) (hn : es.length ≤ 1000000) :
    Calls Tryd.prog 13 #[.agg #[.slice A0 es.length c0, .slice A1 ds.length c1]] w fun e w' => ∃ B0 d0, e = .returned (.agg #[.slice B0 es.length d0, .slice A1 ds.length c1]) ∧ es.length ≤ d0 ∧ Kd.C KR w' B0 es.length ((es.map toS).map cvE) ∧ Below w.heap.size w w' := by
  have := told_C (es.map toS) (ds.map B) A0 A1 c0 c1 w (by rw [List.length_map]; exact h0) (by rw [List.length_map]; exact g0) (by rw [List.length_map]; exact hn)
  simp only [List.length_map] at this
  exact this
theorem same_P (es : List EdgeO) (ds : List Txt) (A0 A1 A2 A3 : Option Addr) (c0 c1 c2 c3 : Nat) (w : World) (h0 : es.length ≤ c0) (g0 : Kd.C KR w A0 es.length ((es.map toS).map cvE)) (h1 : ds.length ≤ c1) (g1 : Kd.C Kd.string w A1 ds.length (ds.map B)) (h2 : es.length ≤ c2) (g2 : Kd.C KR w A2 es.length ((es.map toS).map cvE)) (h3 : ds.length ≤ c3) (g3 : Kd.C Kd.string w A3 ds.length (ds.map B)) :
    Calls Tryd.prog 12 #[.agg #[.slice A0 es.length c0, .slice A1 ds.length c1], .agg #[.slice A2 es.length c2, .slice A3 ds.length c3]] w fun e w' => e = .returned (.bool true) ∧ Below w.heap.size w w' := by
  have hl : ((es.map toS).map cvE).length = es.length := by rw [List.length_map, List.length_map]
  have := same_C ((es.map toS).map cvE) (ds.map B) A0 A1 A2 A3 c0 c1 c2 c3 w (by rw [hl]; exact h0) (by rw [hl]; exact g0) (by rw [List.length_map]; exact h1) (by rw [List.length_map]; exact g1) (by rw [hl]; exact h2) (by rw [hl]; exact g2) (by rw [List.length_map]; exact h3) (by rw [List.length_map]; exact g3)
  rw [hl, List.length_map] at this
  exact this
set_option maxRecDepth 100000 in
set_option maxHeartbeats 16000000 in
theorem notes_walk (a : ByteArray) (n0 : Int) (w : World) (hm : MaxCell w) (hsz : a.size ≤ 140737488351232) (hw : (Lit.int .u8 n0).wf = true) : Calls Tryd.prog 4 #[.string a, .int .u8 n0] w fun e w' => e = .returned (.bool true) ∧ Below w.heap.size w w' := by
  have hu25 := Tryd.underlying25
  have hMH := Lib.hid (fun W (hB : Below w.heap.size w W) => hm.below hB)
  have hAw := Lib.hid (fun W (hB : Below w.heap.size w W) => awake_C W (hm.below hB))
  clear hm
  obtain ⟨text, rfl⟩ : ∃ t : Txt, a = B t := ⟨_, B_of a⟩
  rw [size_B] at hsz
  obtain ⟨m, rfl, hm1⟩ := u8_natN hw
  by_cases hl : 3000 < text.length
  · have hgt : decide ((3000 : Int) < (text.length : Int)) = true := by rw [decide_eq_true_iff]; omega
    go_enter Tryd.func4, Tryd.ntmps4
    go_wp2_with fail
    go_ret
    exact ⟨rfl, Below.refl _ _⟩
  have hgt : decide ((3000 : Int) < (text.length : Int)) = false := by rw [decide_eq_false_iff_not]; omega
  obtain ⟨k, hk, hk50⟩ : ∃ k : Nat, (m : Int) % 50 = (k : Int) ∧ k < 50 := ⟨m % 50, by omega, by omega⟩
  have hg := parse_good2 text
  have hPM := parse_more text k (by omega)
  obtain ⟨⟨es, ds, n, c⟩, hp⟩ : ∃ r, parseL text = r := ⟨_, rfl⟩
  rw [hp] at hg hPM
  dsimp only at hg hPM
  have hes : es.length ≤ 1000000 := by
    have := parse_few text
    rw [hp] at this; exact Nat.le_trans this (by decide)
  obtain ⟨q, hpq, hq⟩ : ∃ q : Nat, parseL (moreL k ++ text) = (es, ds, q, c) ∧ ((c = 0 ∧ n = 0 ∧ q = 0) ∨ (c ≠ 0 ∧ q = n + k ∧ 0 < n ∧ n ≤ 100000)) := by
    by_cases hc : c = 0
    · rw [if_pos hc] at hPM
      have h0 := (hg.2 hc).1
      exact ⟨n, hPM, .inl ⟨hc, h0, h0⟩⟩
    · rw [if_neg hc] at hPM
      obtain ⟨e1, e2, e3⟩ := hg.1 hc
      rcases e3 with ⟨_, e3⟩ | ⟨e3, _⟩
      · rw [e1, e2]; exact ⟨n + k, hPM, .inr ⟨hc, rfl, e3.1, e3.2⟩⟩
      · omega
  have hP := Lib.hid hp
  have hQ := Lib.hid hpq
  clear hp hpq hg hPM
  go_enter Tryd.func4, Tryd.ntmps4
  go_wp2_with fail
  go_loopg [6, 7] k (fun gk s6 s7 wr => ∃ i : Nat, s6 = .string (B (moreL i)) ∧ s7 = .int .i64 (i : Int) ∧ i + gk = k ∧ Hid (Below w.heap.size w wr))
  case atStart => exact ⟨0, rfl, rfl, Nat.zero_add _, Below.refl _ _⟩
  case round =>
    obtain ⟨i, rfl, rfl, hik, hB⟩ := hrel
    cases gk with
    | zero =>
      obtain rfl : i = k := by omega
      have hlt : decide ((i : Int) < (i : Int)) = false := by simp
      go_wp2_with fail
      refine (parse_C text _ _ _ _ hP.out _ rfl _ (hMH.out _ hB.out)).mono ?_
      rintro e w1 ⟨A0, c0, A1, c1, rfl, l0, g0, l1, g1, hb⟩
      rw [List.length_map] at l0 l1 ⊢
      have hG0 := Lib.hid g0
      have hG1 := Lib.hid g1
      have hL0 := Lib.hid l0
      have hL1 := Lib.hid l1
      have hB1 := Lib.hid (hB.out.trans (hb.mono hB.out.size))
      clear g0 g1 l0 l1 hb
      have hMB : Hid ((w1.alloc (.cells #[.slice A0 es.length c0, .slice A1 ds.length c1] 25)).heap[w1.heap.size]? = some (.cells #[.slice A0 es.length c0, .slice A1 ds.length c1] 25 (0, 0))) := heap_alloc_new _ _
      have hB2 : Hid (Below w1.heap.size w1 (w1.alloc (.cells #[.slice A0 es.length c0, .slice A1 ds.length c1] 25))) := Lib.hid (by (repeat (first | exact Below.refl _ _ | refine Below.drew ?_ | refine Below.setCell ?_ (by simp <;> omega) _ | refine Below.alloc ?_ (by simp <;> omega) _)))
      have hB2w : Hid (Below w.heap.size w (w1.alloc (.cells #[.slice A0 es.length c0, .slice A1 ds.length c1] 25))) := Lib.hid (hB1.out.trans (hB2.out.mono hB1.out.size))
      have hml := moreL_len i
      obtain ⟨nm, hnm⟩ : ∃ x, (moreL i).length = x := ⟨_, rfl⟩
      rw [hnm] at hml
      go_wp2_with fail
      refine (parse_C (moreL i ++ text) _ _ _ _ hQ.out _ (B_append _ _) _ (hMH.out _ hB2w.out)).mono ?_
      rintro e w2 ⟨A2, c2, A3, c3, rfl, l2, g2, l3, g3, hb⟩
      have hG2 := Lib.hid g2
      have hG3 := Lib.hid g3
      have hL2 := Lib.hid l2
      have hL3 := Lib.hid l3
      rw [List.length_map] at *
      have hB3 := Lib.hid (hB2.out.trans (hb.mono hB2.out.size))
      have hB3w := Lib.hid (hB1.out.trans (hB3.out.mono hB1.out.size))
      have hM3 := Lib.hid ((hb.block _ (lt_blk hMB.out)).trans hMB.out)
      clear g2 g3 l2 l3 hb
      have hN4 : Hid ((w2.alloc (.cells #[.slice A2 es.length c2, .slice A3 ds.length c3] 25)).heap[w2.heap.size]? = some (.cells #[.slice A2 es.length c2, .slice A3 ds.length c3] 25 (0, 0))) := heap_alloc_new _ _
      have hM4 : Hid ((w2.alloc (.cells #[.slice A2 es.length c2, .slice A3 ds.length c3] 25)).heap[w1.heap.size]? = some (.cells #[.slice A0 es.length c0, .slice A1 ds.length c1] 25 (0, 0))) := Lib.hid ((heapAt_lt (lt_blk hM3.out)).trans hM3.out)
      have hB4 : Hid (Below w2.heap.size w2 (w2.alloc (.cells #[.slice A2 es.length c2, .slice A3 ds.length c3] 25))) := Lib.hid (by (repeat (first | exact Below.refl _ _ | refine Below.drew ?_ | refine Below.setCell ?_ (by simp <;> omega) _ | refine Below.alloc ?_ (by simp <;> omega) _)))
      go_upto_region 11 with (fail)
      generalize w2.alloc (.cells #[.slice A2 es.length c2, .slice A3 ds.length c3] 25) = w4 at *
      have hB14 := Lib.hid (hB3.out.trans (hB4.out.mono hB3.out.size))
      have hBw4 := Lib.hid (hB1.out.trans (hB14.out.mono hB1.out.size))
      have hT1 := Lib.hid (fun W (hW : Below w4.heap.size w4 W) => told_P es ds A0 A1 c0 c1 W hL0.out (Kd.C_below hG0.out (hB14.out.trans (hW.mono hB14.out.size))) hes)
      have hT2 := Lib.hid (fun W (hW : Below w4.heap.size w4 W) => told_P es ds A2 A3 c2 c3 W hL2.out (Kd.C_below hG2.out (hB4.out.trans (hW.mono hB4.out.size))) hes)
      have hR1 := Lib.hid (fun W (hW : Below w4.heap.size w4 W) => Kd.C_below hG1.out (hB14.out.trans (hW.mono hB14.out.size)))
      have hR3 := Lib.hid (fun W (hW : Below w4.heap.size w4 W) => Kd.C_below hG3.out (hB4.out.trans (hW.mono hB4.out.size)))
      have hSS := Lib.hid (fun W (hW : Below w4.heap.size w4 W) => (⟨(cell_of_heap (j := 0) ((hW.block _ (lt_blk hM4.out)).trans hM4.out)).trans rfl, (cell_of_heap (j := 1) ((hW.block _ (lt_blk hM4.out)).trans hM4.out)).trans rfl, (cell_of_heap (j := 0) ((hW.block _ (lt_blk hN4.out)).trans hN4.out)).trans rfl, (cell_of_heap (j := 1) ((hW.block _ (lt_blk hN4.out)).trans hN4.out)).trans rfl⟩ : (fun w' => w'.cell? ⟨w1.heap.size, 0, none⟩ = some (.slice A0 es.length c0) ∧ w'.cell? ⟨w1.heap.size, 1, none⟩ = some (.slice A1 ds.length c1) ∧ w'.cell? ⟨w2.heap.size, 0, none⟩ = some (.slice A2 es.length c2) ∧ w'.cell? ⟨w2.heap.size, 1, none⟩ = some (.slice A3 ds.length c3)) W))
      rcases hq with ⟨rfl, rfl, rfl⟩ | ⟨hc, rfl, hn0, hn1⟩
      · refine RegP.regionH (fun w' => w'.cell? ⟨w1.heap.size, 0, none⟩ = some (.slice A0 es.length c0) ∧ w'.cell? ⟨w1.heap.size, 1, none⟩ = some (.slice A1 ds.length c1) ∧ w'.cell? ⟨w2.heap.size, 0, none⟩ = some (.slice A2 es.length c2) ∧ w'.cell? ⟨w2.heap.size, 1, none⟩ = some (.slice A3 ds.length c3)) [(1, 0), (1, 2), (2, 1), (2, 3), (2, 4), (0, 5), (0, 6), (0, 7), (0, 8), (0, 9), (0, 10), (0, 11), (0, 12), (0, 13), (0, 14), (0, 15), (0, 16), (0, 17), (4, 18), (4, 19), (4, 20), (4, 21), (4, 22), (0, 23), (0, 24), (0, 25), (2, 26), (0, 27), (0, 28)] (by kernel_rfl) (by kernel_rfl) (by rfl) (by kernel_rfl) (by exact hSS.out _ (Below.refl _ _).drew) ?_
        refine RegP.held1 (by (simp only [List.getElem?_toArray, List.getElem?_cons_succ, List.getElem?_cons_zero]); rfl) (by exact fun _ _ _ h => h) (by rfl) (by intro w' hS_; (try dsimp only at hS_); go_split_ands; go_simp; try with_reducible rfl) ?_
        try simp only [Act.put, List.setIfInBounds_toArray, List.set_cons_zero, List.set_cons_succ]
        refine RegP.held1 (by (simp only [List.getElem?_toArray, List.getElem?_cons_succ, List.getElem?_cons_zero]); rfl) (by exact fun _ _ _ h => h) (by rfl) (by intro w' hS_; (try dsimp only at hS_); go_split_ands; go_simp; try with_reducible rfl) ?_
        try simp only [Act.put, List.setIfInBounds_toArray, List.set_cons_zero, List.set_cons_succ]
        refine RegP.ev1 (by (simp only [List.getElem?_toArray, List.getElem?_cons_succ, List.getElem?_cons_zero]); rfl) (fun K hK => ?_)
        go_simp
        refine (hT1.out _ (Below.refl _ _).drew).mono ?_
        rintro e w5 ⟨B0, d0, rfl, m0, p0, hb⟩
        have hB5 := Lib.hid (((Below.refl w4.heap.size w4).drew).trans hb)
        have hP0 := Lib.hid p0
        have hM0 := Lib.hid m0
        clear p0 m0 hb
        refine hK.out _ _ ?_ (fun hHeld => ?_)
        · (try dsimp only); exact hSS.out _ hB5.out
        clear hK K
        try simp only [Act.put, List.setIfInBounds_toArray, List.set_cons_zero, List.set_cons_succ]
        refine RegP.ev1 (by (simp only [List.getElem?_toArray, List.getElem?_cons_succ, List.getElem?_cons_zero]); rfl) (fun K hK => ?_)
        go_simp
        refine (hT2.out _ hB5.out).mono ?_
        rintro e w6 ⟨B2, d2, rfl, m2, p2, hb⟩
        have hB6 := Lib.hid (hB5.out.trans (hb.mono hB5.out.size))
        have hP0' := Lib.hid (Kd.C_below hP0.out hb)
        have hP2 := Lib.hid p2
        have hM2 := Lib.hid m2
        clear p2 m2 hb
        refine hK.out _ _ ?_ (fun hHeld => ?_)
        · (try dsimp only); exact hSS.out _ hB6.out
        clear hK K
        try simp only [Act.put, List.setIfInBounds_toArray, List.set_cons_zero, List.set_cons_succ]
        refine RegP.ev1 (by (simp only [List.getElem?_toArray, List.getElem?_cons_succ, List.getElem?_cons_zero]); rfl) (fun K hK => ?_)
        go_simp
        refine (same_P es ds B0 A1 B2 A3 d0 c1 d2 c3 w6 hM0.out hP0'.out hL1.out (hR1.out _ hB6.out) hM2.out hP2.out hL3.out (hR3.out _ hB6.out)).mono ?_
        rintro e w7 ⟨rfl, hb⟩
        have hB7 := Lib.hid (hB6.out.trans (hb.mono hB6.out.size))
        clear hb
        refine hK.out _ _ ?_ (fun hHeld => ?_)
        · (try dsimp only); exact hSS.out _ hB7.out
        clear hK K
        try simp only [Act.put, List.setIfInBounds_toArray, List.set_cons_zero, List.set_cons_succ]
        refine RegP.pure1 (by (simp only [List.getElem?_toArray, List.getElem?_cons_succ, List.getElem?_cons_zero]); rfl) (by exact fun _ _ _ h => h) (by rfl) (by intro w'; go_simp; try with_reducible rfl) ?_
        try simp only [Act.put, List.setIfInBounds_toArray, List.set_cons_zero, List.set_cons_succ]
        refine RegP.pure1 (by (simp only [List.getElem?_toArray, List.getElem?_cons_succ, List.getElem?_cons_zero]); rfl) (by exact fun _ _ _ h => h) (by rfl) (by intro w'; go_simp; try with_reducible rfl) ?_
        try simp only [Act.put, List.setIfInBounds_toArray, List.set_cons_zero, List.set_cons_succ]
        refine RegP.pure1 (by (simp only [List.getElem?_toArray, List.getElem?_cons_succ, List.getElem?_cons_zero]); rfl) (by exact fun _ _ _ h => h) (by rfl) (by intro w'; go_simp; try with_reducible rfl) ?_
        try simp only [Act.put, List.setIfInBounds_toArray, List.set_cons_zero, List.set_cons_succ]
        refine RegP.pure1 (by (simp only [List.getElem?_toArray, List.getElem?_cons_succ, List.getElem?_cons_zero]); rfl) (by exact fun _ _ _ h => h) (by rfl) (by intro w'; go_simp; try with_reducible rfl) ?_
        try simp only [Act.put, List.setIfInBounds_toArray, List.set_cons_zero, List.set_cons_succ]
        refine RegP.pure1 (by (simp only [List.getElem?_toArray, List.getElem?_cons_succ, List.getElem?_cons_zero]); rfl) (by exact fun _ _ _ h => h) (by rfl) (by intro w'; go_simp; try with_reducible rfl) ?_
        try simp only [Act.put, List.setIfInBounds_toArray, List.set_cons_zero, List.set_cons_succ]
        refine RegP.pure1 (by (simp only [List.getElem?_toArray, List.getElem?_cons_succ, List.getElem?_cons_zero]); rfl) (by exact fun _ _ _ h => h) (by rfl) (by intro w'; go_simp; try with_reducible rfl) ?_
        try simp only [Act.put, List.setIfInBounds_toArray, List.set_cons_zero, List.set_cons_succ]
        refine RegP.pure1 (by (simp only [List.getElem?_toArray, List.getElem?_cons_succ, List.getElem?_cons_zero]); rfl) (by exact fun _ _ _ h => h) (by rfl) (by intro w'; go_simp; try with_reducible rfl) ?_
        try simp only [Act.put, List.setIfInBounds_toArray, List.set_cons_zero, List.set_cons_succ]
        refine RegP.pure1 (by (simp only [List.getElem?_toArray, List.getElem?_cons_succ, List.getElem?_cons_zero]); rfl) (by exact fun _ _ _ h => h) (by rfl) (by intro w'; go_simp; try with_reducible rfl) ?_
        try simp only [Act.put, List.setIfInBounds_toArray, List.set_cons_zero, List.set_cons_succ]
        refine RegP.pure1 (by (simp only [List.getElem?_toArray, List.getElem?_cons_succ, List.getElem?_cons_zero]); rfl) (by exact fun _ _ _ h => h) (by rfl) (by intro w'; go_simp; try with_reducible rfl) ?_
        try simp only [Act.put, List.setIfInBounds_toArray, List.set_cons_zero, List.set_cons_succ]
        refine RegP.pure1 (by (simp only [List.getElem?_toArray, List.getElem?_cons_succ, List.getElem?_cons_zero]); rfl) (by exact fun _ _ _ h => h) (by rfl) (by intro w'; go_simp; try with_reducible rfl) ?_
        try simp only [Act.put, List.setIfInBounds_toArray, List.set_cons_zero, List.set_cons_succ]
        refine RegP.pure1 (by (simp only [List.getElem?_toArray, List.getElem?_cons_succ, List.getElem?_cons_zero]); rfl) (by exact fun _ _ _ h => h) (by rfl) (by intro w'; go_simp; try with_reducible rfl) ?_
        try simp only [Act.put, List.setIfInBounds_toArray, List.set_cons_zero, List.set_cons_succ]
        refine RegP.pure1 (by (simp only [List.getElem?_toArray, List.getElem?_cons_succ, List.getElem?_cons_zero]); rfl) (by exact fun _ _ _ h => h) (by rfl) (by intro w'; go_simp; try with_reducible rfl) ?_
        try simp only [Act.put, List.setIfInBounds_toArray, List.set_cons_zero, List.set_cons_succ]
        refine RegP.pure1 (by (simp only [List.getElem?_toArray, List.getElem?_cons_succ, List.getElem?_cons_zero]); rfl) (by exact fun _ _ _ h => h) (by rfl) (by intro w'; go_simp; try with_reducible rfl) ?_
        try simp only [Act.put, List.setIfInBounds_toArray, List.set_cons_zero, List.set_cons_succ]
        refine RegP.skip1 (by (simp only [List.getElem?_toArray, List.getElem?_cons_succ, List.getElem?_cons_zero]); rfl) (by exact fun _ _ _ h => h) (by rfl) ?_
        try simp only [Act.put, List.setIfInBounds_toArray, List.set_cons_zero, List.set_cons_succ]
        refine RegP.skip1 (by (simp only [List.getElem?_toArray, List.getElem?_cons_succ, List.getElem?_cons_zero]); rfl) (by exact fun _ _ _ h => h) (by rfl) ?_
        try simp only [Act.put, List.setIfInBounds_toArray, List.set_cons_zero, List.set_cons_succ]
        refine RegP.skip1 (by (simp only [List.getElem?_toArray, List.getElem?_cons_succ, List.getElem?_cons_zero]); rfl) (by exact fun _ _ _ h => h) (by rfl) ?_
        try simp only [Act.put, List.setIfInBounds_toArray, List.set_cons_zero, List.set_cons_succ]
        refine RegP.skip1 (by (simp only [List.getElem?_toArray, List.getElem?_cons_succ, List.getElem?_cons_zero]); rfl) (by exact fun _ _ _ h => h) (by rfl) ?_
        try simp only [Act.put, List.setIfInBounds_toArray, List.set_cons_zero, List.set_cons_succ]
        refine RegP.skip1 (by (simp only [List.getElem?_toArray, List.getElem?_cons_succ, List.getElem?_cons_zero]); rfl) (by exact fun _ _ _ h => h) (by rfl) ?_
        try simp only [Act.put, List.setIfInBounds_toArray, List.set_cons_zero, List.set_cons_succ]
        refine RegP.pure1 (by (simp only [List.getElem?_toArray, List.getElem?_cons_succ, List.getElem?_cons_zero]); rfl) (by exact fun _ _ _ h => h) (by rfl) (by intro w'; go_simp; try with_reducible rfl) ?_
        try simp only [Act.put, List.setIfInBounds_toArray, List.set_cons_zero, List.set_cons_succ]
        refine RegP.pure1 (by (simp only [List.getElem?_toArray, List.getElem?_cons_succ, List.getElem?_cons_zero]); rfl) (by exact fun _ _ _ h => h) (by rfl) (by intro w'; go_simp; try with_reducible rfl) ?_
        try simp only [Act.put, List.setIfInBounds_toArray, List.set_cons_zero, List.set_cons_succ]
        refine RegP.pure1 (by (simp only [List.getElem?_toArray, List.getElem?_cons_succ, List.getElem?_cons_zero]); rfl) (by exact fun _ _ _ h => h) (by rfl) (by intro w'; go_simp; try with_reducible rfl) ?_
        try simp only [Act.put, List.setIfInBounds_toArray, List.set_cons_zero, List.set_cons_succ]
        refine RegP.ev1 (by (simp only [List.getElem?_toArray, List.getElem?_cons_succ, List.getElem?_cons_zero]); rfl) (fun K hK => ?_)
        go_simp
        refine (hAw.out _ (hBw4.out.trans (hB7.out.mono hBw4.out.size))).mono ?_
        rintro e w8 ⟨rfl, hb⟩
        have hB8 := Lib.hid (hB7.out.trans (hb.mono hB7.out.size))
        clear hb
        refine hK.out _ _ ?_ (fun hHeld => ?_)
        · (try dsimp only); exact hSS.out _ hB8.out
        clear hK K
        try simp only [Act.put, List.setIfInBounds_toArray, List.set_cons_zero, List.set_cons_succ]
        refine RegP.pure1 (by (simp only [List.getElem?_toArray, List.getElem?_cons_succ, List.getElem?_cons_zero]); rfl) (by exact fun _ _ _ h => h) (by rfl) (by intro w'; go_simp; try with_reducible rfl) ?_
        try simp only [Act.put, List.setIfInBounds_toArray, List.set_cons_zero, List.set_cons_succ]
        refine RegP.pure1 (by (simp only [List.getElem?_toArray, List.getElem?_cons_succ, List.getElem?_cons_zero]); rfl) (by exact fun _ _ _ h => h) (by rfl) (by intro w'; go_simp; try with_reducible rfl) ?_
        try simp only [Act.put, List.setIfInBounds_toArray, List.set_cons_zero, List.set_cons_succ]
        refine RegP.done1 ?_
        clear hHeld
        try dsimp only
        go_wp2_with fail
        go_ret
        exact ⟨rfl, hBw4.out.trans (hB8.out.mono hBw4.out.size)⟩
      · have hn2 : ((n : Int) == 0) = false := by rw [beq_eq_false_iff_ne]; omega
        have hn3 : decide ((n : Int) = 0) = false := by rw [decide_eq_false_iff_not]; omega
        have hnk : (((n + i : Nat) : Int) == (n : Int) + (i : Int)) = true := by rw [beq_iff_eq]; omega
        obtain ⟨q, hqe⟩ : ∃ q : Nat, n + i = q := ⟨_, rfl⟩
        have hqe2 : (n : Int) + (i : Int) = (q : Int) := by omega
        have hqb : q ≤ 200000 := by omega
        have hwr : IntKind.i64.wrap (q : Int) = (q : Int) := by rw [Go.IntKind.wrap_i64]; omega
        rw [hqe]
        clear hnk hqe
        refine RegP.regionH (fun w' => w'.cell? ⟨w1.heap.size, 0, none⟩ = some (.slice A0 es.length c0) ∧ w'.cell? ⟨w1.heap.size, 1, none⟩ = some (.slice A1 ds.length c1) ∧ w'.cell? ⟨w2.heap.size, 0, none⟩ = some (.slice A2 es.length c2) ∧ w'.cell? ⟨w2.heap.size, 1, none⟩ = some (.slice A3 ds.length c3)) [(1, 0), (1, 2), (2, 1), (2, 3), (2, 4), (0, 5), (0, 6), (0, 7), (0, 8), (0, 9), (0, 10), (0, 11), (0, 12), (0, 13), (4, 14), (4, 15), (0, 16), (0, 17), (0, 18), (0, 19), (0, 20), (0, 21), (0, 22), (0, 23), (0, 24), (0, 25), (2, 26), (0, 27), (0, 28)] (by kernel_rfl) (by kernel_rfl) (by rfl) (by kernel_rfl) (by exact hSS.out _ (Below.refl _ _).drew) ?_
        refine RegP.held1 (by (simp only [List.getElem?_toArray, List.getElem?_cons_succ, List.getElem?_cons_zero]); rfl) (by exact fun _ _ _ h => h) (by rfl) (by intro w' hS_; (try dsimp only at hS_); go_split_ands; go_simp; try with_reducible rfl) ?_
        try simp only [Act.put, List.setIfInBounds_toArray, List.set_cons_zero, List.set_cons_succ]
        refine RegP.held1 (by (simp only [List.getElem?_toArray, List.getElem?_cons_succ, List.getElem?_cons_zero]); rfl) (by exact fun _ _ _ h => h) (by rfl) (by intro w' hS_; (try dsimp only at hS_); go_split_ands; go_simp; try with_reducible rfl) ?_
        try simp only [Act.put, List.setIfInBounds_toArray, List.set_cons_zero, List.set_cons_succ]
        refine RegP.ev1 (by (simp only [List.getElem?_toArray, List.getElem?_cons_succ, List.getElem?_cons_zero]); rfl) (fun K hK => ?_)
        go_simp
        refine (hT1.out _ (Below.refl _ _).drew).mono ?_
        rintro e w5 ⟨B0, d0, rfl, m0, p0, hb⟩
        have hB5 := Lib.hid (((Below.refl w4.heap.size w4).drew).trans hb)
        have hP0 := Lib.hid p0
        have hM0 := Lib.hid m0
        clear p0 m0 hb
        refine hK.out _ _ ?_ (fun hHeld => ?_)
        · (try dsimp only); exact hSS.out _ hB5.out
        clear hK K
        try simp only [Act.put, List.setIfInBounds_toArray, List.set_cons_zero, List.set_cons_succ]
        refine RegP.ev1 (by (simp only [List.getElem?_toArray, List.getElem?_cons_succ, List.getElem?_cons_zero]); rfl) (fun K hK => ?_)
        go_simp
        refine (hT2.out _ hB5.out).mono ?_
        rintro e w6 ⟨B2, d2, rfl, m2, p2, hb⟩
        have hB6 := Lib.hid (hB5.out.trans (hb.mono hB5.out.size))
        have hP0' := Lib.hid (Kd.C_below hP0.out hb)
        have hP2 := Lib.hid p2
        have hM2 := Lib.hid m2
        clear p2 m2 hb
        refine hK.out _ _ ?_ (fun hHeld => ?_)
        · (try dsimp only); exact hSS.out _ hB6.out
        clear hK K
        try simp only [Act.put, List.setIfInBounds_toArray, List.set_cons_zero, List.set_cons_succ]
        refine RegP.ev1 (by (simp only [List.getElem?_toArray, List.getElem?_cons_succ, List.getElem?_cons_zero]); rfl) (fun K hK => ?_)
        go_simp
        refine (same_P es ds B0 A1 B2 A3 d0 c1 d2 c3 w6 hM0.out hP0'.out hL1.out (hR1.out _ hB6.out) hM2.out hP2.out hL3.out (hR3.out _ hB6.out)).mono ?_
        rintro e w7 ⟨rfl, hb⟩
        have hB7 := Lib.hid (hB6.out.trans (hb.mono hB6.out.size))
        clear hb
        refine hK.out _ _ ?_ (fun hHeld => ?_)
        · (try dsimp only); exact hSS.out _ hB7.out
        clear hK K
        try simp only [Act.put, List.setIfInBounds_toArray, List.set_cons_zero, List.set_cons_succ]
        refine RegP.pure1 (by (simp only [List.getElem?_toArray, List.getElem?_cons_succ, List.getElem?_cons_zero]); rfl) (by exact fun _ _ _ h => h) (by rfl) (by intro w'; go_simp; try with_reducible rfl) ?_
        try simp only [Act.put, List.setIfInBounds_toArray, List.set_cons_zero, List.set_cons_succ]
        refine RegP.pure1 (by (simp only [List.getElem?_toArray, List.getElem?_cons_succ, List.getElem?_cons_zero]); rfl) (by exact fun _ _ _ h => h) (by rfl) (by intro w'; go_simp; try with_reducible rfl) ?_
        try simp only [Act.put, List.setIfInBounds_toArray, List.set_cons_zero, List.set_cons_succ]
        refine RegP.pure1 (by (simp only [List.getElem?_toArray, List.getElem?_cons_succ, List.getElem?_cons_zero]); rfl) (by exact fun _ _ _ h => h) (by rfl) (by intro w'; go_simp; try with_reducible rfl) ?_
        try simp only [Act.put, List.setIfInBounds_toArray, List.set_cons_zero, List.set_cons_succ]
        refine RegP.pure1 (by (simp only [List.getElem?_toArray, List.getElem?_cons_succ, List.getElem?_cons_zero]); rfl) (by exact fun _ _ _ h => h) (by rfl) (by intro w'; go_simp; try with_reducible rfl) ?_
        try simp only [Act.put, List.setIfInBounds_toArray, List.set_cons_zero, List.set_cons_succ]
        refine RegP.pure1 (by (simp only [List.getElem?_toArray, List.getElem?_cons_succ, List.getElem?_cons_zero]); rfl) (by exact fun _ _ _ h => h) (by rfl) (by intro w'; go_simp; try with_reducible rfl) ?_
        try simp only [Act.put, List.setIfInBounds_toArray, List.set_cons_zero, List.set_cons_succ]
        refine RegP.pure1 (by (simp only [List.getElem?_toArray, List.getElem?_cons_succ, List.getElem?_cons_zero]); rfl) (by exact fun _ _ _ h => h) (by rfl) (by intro w'; go_simp; try with_reducible rfl) ?_
        try simp only [Act.put, List.setIfInBounds_toArray, List.set_cons_zero, List.set_cons_succ]
        refine RegP.pure1 (by (simp only [List.getElem?_toArray, List.getElem?_cons_succ, List.getElem?_cons_zero]); rfl) (by exact fun _ _ _ h => h) (by rfl) (by intro w'; go_simp; try with_reducible rfl) ?_
        try simp only [Act.put, List.setIfInBounds_toArray, List.set_cons_zero, List.set_cons_succ]
        refine RegP.pure1 (by (simp only [List.getElem?_toArray, List.getElem?_cons_succ, List.getElem?_cons_zero]); rfl) (by exact fun _ _ _ h => h) (by rfl) (by intro w'; go_simp; try with_reducible rfl) ?_
        try simp only [Act.put, List.setIfInBounds_toArray, List.set_cons_zero, List.set_cons_succ]
        refine RegP.pure1 (by (simp only [List.getElem?_toArray, List.getElem?_cons_succ, List.getElem?_cons_zero]); rfl) (by exact fun _ _ _ h => h) (by rfl) (by intro w'; go_simp; try with_reducible rfl) ?_
        try simp only [Act.put, List.setIfInBounds_toArray, List.set_cons_zero, List.set_cons_succ]
        refine RegP.skip1 (by (simp only [List.getElem?_toArray, List.getElem?_cons_succ, List.getElem?_cons_zero]); rfl) (by exact fun _ _ _ h => h) (by rfl) ?_
        try simp only [Act.put, List.setIfInBounds_toArray, List.set_cons_zero, List.set_cons_succ]
        refine RegP.skip1 (by (simp only [List.getElem?_toArray, List.getElem?_cons_succ, List.getElem?_cons_zero]); rfl) (by exact fun _ _ _ h => h) (by rfl) ?_
        try simp only [Act.put, List.setIfInBounds_toArray, List.set_cons_zero, List.set_cons_succ]
        refine RegP.pure1 (by (simp only [List.getElem?_toArray, List.getElem?_cons_succ, List.getElem?_cons_zero]); rfl) (by exact fun _ _ _ h => h) (by rfl) (by intro w'; go_simp; try with_reducible rfl) ?_
        try simp only [Act.put, List.setIfInBounds_toArray, List.set_cons_zero, List.set_cons_succ]
        refine RegP.pure1 (by (simp only [List.getElem?_toArray, List.getElem?_cons_succ, List.getElem?_cons_zero]); rfl) (by exact fun _ _ _ h => h) (by rfl) (by intro w'; go_simp; try with_reducible rfl) ?_
        try simp only [Act.put, List.setIfInBounds_toArray, List.set_cons_zero, List.set_cons_succ]
        refine RegP.pure1 (by (simp only [List.getElem?_toArray, List.getElem?_cons_succ, List.getElem?_cons_zero]); rfl) (by exact fun _ _ _ h => h) (by rfl) (by intro w'; go_simp; try with_reducible rfl) ?_
        try simp only [Act.put, List.setIfInBounds_toArray, List.set_cons_zero, List.set_cons_succ]
        refine RegP.pure1 (by (simp only [List.getElem?_toArray, List.getElem?_cons_succ, List.getElem?_cons_zero]); rfl) (by exact fun _ _ _ h => h) (by rfl) (by intro w'; go_simp; try with_reducible rfl) ?_
        try simp only [Act.put, List.setIfInBounds_toArray, List.set_cons_zero, List.set_cons_succ]
        refine RegP.pure1 (by (simp only [List.getElem?_toArray, List.getElem?_cons_succ, List.getElem?_cons_zero]); rfl) (by exact fun _ _ _ h => h) (by rfl) (by intro w'; go_simp; try with_reducible rfl) ?_
        try simp only [Act.put, List.setIfInBounds_toArray, List.set_cons_zero, List.set_cons_succ]
        refine RegP.pure1 (by (simp only [List.getElem?_toArray, List.getElem?_cons_succ, List.getElem?_cons_zero]); rfl) (by exact fun _ _ _ h => h) (by rfl) (by intro w'; go_simp; try with_reducible rfl) ?_
        try simp only [Act.put, List.setIfInBounds_toArray, List.set_cons_zero, List.set_cons_succ]
        refine RegP.pure1 (by (simp only [List.getElem?_toArray, List.getElem?_cons_succ, List.getElem?_cons_zero]); rfl) (by exact fun _ _ _ h => h) (by rfl) (by intro w'; go_simp; try with_reducible rfl) ?_
        try simp only [Act.put, List.setIfInBounds_toArray, List.set_cons_zero, List.set_cons_succ]
        refine RegP.pure1 (by (simp only [List.getElem?_toArray, List.getElem?_cons_succ, List.getElem?_cons_zero]); rfl) (by exact fun _ _ _ h => h) (by rfl) (by intro w'; go_simp; try with_reducible rfl) ?_
        try simp only [Act.put, List.setIfInBounds_toArray, List.set_cons_zero, List.set_cons_succ]
        refine RegP.pure1 (by (simp only [List.getElem?_toArray, List.getElem?_cons_succ, List.getElem?_cons_zero]); rfl) (by exact fun _ _ _ h => h) (by rfl) (by intro w'; go_simp; try with_reducible rfl) ?_
        try simp only [Act.put, List.setIfInBounds_toArray, List.set_cons_zero, List.set_cons_succ]
        refine RegP.pure1 (by (simp only [List.getElem?_toArray, List.getElem?_cons_succ, List.getElem?_cons_zero]); rfl) (by exact fun _ _ _ h => h) (by rfl) (by intro w'; go_simp; try with_reducible rfl) ?_
        try simp only [Act.put, List.setIfInBounds_toArray, List.set_cons_zero, List.set_cons_succ]
        refine RegP.ev1 (by (simp only [List.getElem?_toArray, List.getElem?_cons_succ, List.getElem?_cons_zero]); rfl) (fun K hK => ?_)
        go_simp
        refine (hAw.out _ (hBw4.out.trans (hB7.out.mono hBw4.out.size))).mono ?_
        rintro e w8 ⟨rfl, hb⟩
        have hB8 := Lib.hid (hB7.out.trans (hb.mono hB7.out.size))
        clear hb
        refine hK.out _ _ ?_ (fun hHeld => ?_)
        · (try dsimp only); exact hSS.out _ hB8.out
        clear hK K
        try simp only [Act.put, List.setIfInBounds_toArray, List.set_cons_zero, List.set_cons_succ]
        refine RegP.pure1 (by (simp only [List.getElem?_toArray, List.getElem?_cons_succ, List.getElem?_cons_zero]); rfl) (by exact fun _ _ _ h => h) (by rfl) (by intro w'; go_simp; try with_reducible rfl) ?_
        try simp only [Act.put, List.setIfInBounds_toArray, List.set_cons_zero, List.set_cons_succ]
        refine RegP.pure1 (by (simp only [List.getElem?_toArray, List.getElem?_cons_succ, List.getElem?_cons_zero]); rfl) (by exact fun _ _ _ h => h) (by rfl) (by intro w'; go_simp; try with_reducible rfl) ?_
        try simp only [Act.put, List.setIfInBounds_toArray, List.set_cons_zero, List.set_cons_succ]
        refine RegP.done1 ?_
        clear hHeld
        try dsimp only
        go_wp2_with fail
        go_ret
        exact ⟨rfl, hBw4.out.trans (hB8.out.mono hBw4.out.size)⟩
    | succ gk =>
      have hlt : decide ((i : Int) < (k : Int)) = true := by rw [decide_eq_true_iff]; omega
      have i1 : (0 : Int) ≤ (i : Int) := by omega
      have hml := moreL_len i
      obtain ⟨nm, hnm⟩ : ∃ x, (B (moreL i)).size = x := ⟨_, rfl⟩
      have hnm2 : nm ≤ 4 * i := by rw [← hnm, size_B]; exact hml
      have hr : i % 3 = 0 ∨ i % 3 = 1 ∨ i % 3 = 2 := by omega
      have hms : moreL (i + 1) = moreL i ++ (noteL i ++ [10]) := rfl
      rcases hr with h | h | h
      · have hi3 : (i : Int) % 3 = 0 := by omega
        have en : noteL i = [] := if_pos h
        go_wp2_with fail
        have happ : B (moreL i) ++ (⟨#[10]⟩ : ByteArray) = B (moreL (i + 1)) := by
          rw [hms, en]; exact B_append _ _
        rw [happ]
        go_roundg gk
        case measure => omega
        case rel => exact ⟨i + 1, rfl, by go_num, by omega, Lib.hid (hB.out.alloc hB.out.size _)⟩
      · have hi3 : (i : Int) % 3 = 1 := by omega
        have en : noteL i = [35, 32, 120] := (if_neg (by omega)).trans (if_pos h)
        go_wp2_with fail
        have happ : B (moreL i) ++ (⟨#[35, 32, 120, 10]⟩ : ByteArray) = B (moreL (i + 1)) := by
          rw [hms, en]; exact B_append _ _
        rw [happ]
        go_roundg gk
        case measure => omega
        case rel => exact ⟨i + 1, rfl, by go_num, by omega, Lib.hid (hB.out.alloc hB.out.size _)⟩
      · have hi3 : (i : Int) % 3 = 2 := by omega
        have en : noteL i = [32, 32, 32] := (if_neg (by omega)).trans (if_neg (by omega))
        go_wp2_with fail
        have happ : B (moreL i) ++ (⟨#[32, 32, 32, 10]⟩ : ByteArray) = B (moreL (i + 1)) := by
          rw [hms, en]; exact B_append _ _
        rw [happ]
        go_roundg gk
        case measure => omega
        case rel => exact ⟨i + 1, rfl, by go_num, by omega, Lib.hid (hB.out.alloc hB.out.size _)⟩
end Go.Proofs.YteniakfclkdlfaaDoor.Mf
end
section
set_option linter.unusedSimpArgs false
set_option linter.unusedVariables false
namespace Go.Proofs.YteniakfclkdlfaaDoor.Mf
open Go.RowKit Go.Lib Go.Shelf Go.Proofs.YteniakfclkdlfaaDoor.U Go.Proofs.YteniakfclkdlfaaDoor.Sc Go.Proofs.YteniakfclkdlfaaDoor.P
def xN (n : Nat) : Txt := if n % 3 = 0 then [111, 110, 101] else if n % 3 = 1 then [116, 119, 111] else [116, 104, 114, 101, 101]
def yN (n : Nat) : Txt := if n % 3 = 0 then [102, 111, 117, 114] else if n % 3 = 1 then [102, 105, 118, 101] else [115, 105, 120]
def zN (n : Nat) : Txt := if n % 3 = 0 then [115, 101, 118, 101, 110] else if n % 3 = 1 then [101, 105, 103, 104, 116] else [110, 105, 110, 101]
def s0 : Txt := [118, 32, 61, 32]
def s1 : Txt := [10, 114, 117, 108, 101, 32, 114, 10, 32, 99, 111, 109, 109, 97, 110, 100, 32, 61, 32, 100, 111, 32, 36, 118, 32, 36, 119, 32, 36, 105, 110, 32, 62, 32, 36, 111, 117, 116, 10, 98, 117, 105, 108, 100, 32, 36, 118, 46, 111, 58, 32, 114, 32, 36, 118, 47, 105, 110, 10, 32, 119, 32, 61, 32]
def s2 : Txt := [36, 118, 10, 118, 32, 61, 32]
def s3 : Txt := [10, 98, 117, 105, 108, 100, 32, 36, 123, 118, 125, 46, 111, 58, 32, 114, 10, 32, 118, 32, 61, 32]
def s4 : Txt := [10, 100, 101, 102, 97, 117, 108, 116, 32, 36, 118, 46, 111, 10]
def dot : Txt := [46, 111]
def scT (x y z : Txt) : Txt := s0 ++ (x ++ (s1 ++ (z ++ (s2 ++ (y ++ (s3 ++ (z ++ s4)))))))
def cmd1 (x y z : Txt) : Txt := [100, 111, 32] ++ (y ++ ([32] ++ (z ++ (x ++ ([32] ++ (x ++ ([47, 105, 110, 32, 62, 32] ++ (x ++ dot))))))))
def cmd2 (y z : Txt) : Txt := [100, 111, 32] ++ (z ++ ([32, 32, 32, 62, 32] ++ (y ++ dot)))
def eS1 (x y z : Txt) : EdgeO := ⟨[x ++ dot], [x ++ [47, 105, 110]], [], [], cmd1 x y z, []⟩
def eS2 (y z : Txt) : EdgeO := ⟨[y ++ dot], [], [], [], cmd2 y z, []⟩
theorem xN_cases (n : Nat) : xN n = [111, 110, 101] ∨ xN n = [116, 119, 111] ∨ xN n = [116, 104, 114, 101, 101] := by
  unfold xN; split
  · exact .inl rfl
  · split
    · exact .inr (.inl rfl)
    · exact .inr (.inr rfl)
theorem yN_cases (n : Nat) : yN n = [102, 111, 117, 114] ∨ yN n = [102, 105, 118, 101] ∨ yN n = [115, 105, 120] := by
  unfold yN; split
  · exact .inl rfl
  · split
    · exact .inr (.inl rfl)
    · exact .inr (.inr rfl)
theorem zN_cases (n : Nat) : zN n = [115, 101, 118, 101, 110] ∨ zN n = [101, 105, 103, 104, 116] ∨ zN n = [110, 105, 110, 101] := by
  unfold zN; split
  · exact .inl rfl
  · split
    · exact .inr (.inl rfl)
    · exact .inr (.inr rfl)
set_option maxRecDepth 100000 in
set_option maxHeartbeats 4000000 in
theorem parse_scopes (a b c : Nat) : parseL (scT (xN a) (yN b) (zN c)) = ([eS1 (xN a) (yN b) (zN c), eS2 (yN b) (zN c)], [yN b ++ dot], 0, 0) := by
  rcases xN_cases a with h | h | h <;> rw [h] <;> rcases yN_cases b with h' | h' | h' <;> rw [h'] <;> rcases zN_cases c with h2 | h2 | h2 <;> rw [h2] <;> kernel_rfl
end Go.Proofs.YteniakfclkdlfaaDoor.Mf
end
section
set_option linter.unusedSimpArgs false
set_option linter.unusedVariables false
namespace Go.Proofs.YteniakfclkdlfaaDoor.Mf
open Go.RowKit Go.Lib Go.Shelf Go.Maps Go.Proofs.YteniakfclkdlfaaDoorW.PrintWords Go.Proofs.YteniakfclkdlfaaDoor.U Go.Proofs.YteniakfclkdlfaaDoor.Sc Go.Proofs.YteniakfclkdlfaaDoor.P Go.Proofs.YteniakfclkdlfaaDoor.MapV
theorem u8_nat {n : Int} (hw : (Lit.int .u8 n).wf = true) : ∃ m : Nat, n = (m : Int) ∧ m < 256 := by
  have h := hw
  simp [Lit.wf] at h
  have h1 : (0 : Int) ≤ n := h.1
  have h2 : n ≤ 255 := h.2
  exact ⟨n.toNat, by omega, by omega⟩
theorem xN_len (n : Nat) : (B (xN n)).size ≤ 5 := by rcases xN_cases n with h | h | h <;> rw [h] <;> decide
theorem yN_len (n : Nat) : (B (yN n)).size ≤ 5 := by rcases yN_cases n with h | h | h <;> rw [h] <;> decide
theorem zN_len (n : Nat) : (B (zN n)).size ≤ 5 := by rcases zN_cases n with h | h | h <;> rw [h] <;> decide
set_option maxRecDepth 100000 in
set_option maxHeartbeats 16000000 in
theorem scopes_walk (n0 n1 n2 : Int) (w : World) (hm : MaxCell w) (hw0 : (Lit.int .u8 n0).wf = true) (hw1 : (Lit.int .u8 n1).wf = true) (hw2 : (Lit.int .u8 n2).wf = true) : Calls Tryd.prog 5 #[.int .u8 n0, .int .u8 n1, .int .u8 n2] w fun e w' => e = .returned (.bool true) ∧ Below w.heap.size w w' := by
  have hu25 := Tryd.underlying25
  have hu31 := Tryd.underlying31
  have hMH := Lib.hid (fun W (hB : Below w.heap.size w W) => hm.below hB)
  have hAw := Lib.hid (fun W (hB : Below w.heap.size w W) => awake_C W (hm.below hB))
  clear hm
  obtain ⟨a, rfl, ha⟩ := u8_nat hw0
  obtain ⟨b, rfl, hb⟩ := u8_nat hw1
  obtain ⟨c, rfl, hc⟩ := u8_nat hw2
  clear hw0 hw1 hw2
  have hP := Lib.hid (parse_scopes a b c)
  go_enter Tryd.func5, Tryd.ntmps5
  go_upto_region 1 with (fail)
  go_cut [7] (fun s wx => s = .string (B (xN a)) ∧ Hid (Below w.heap.size w wx))
  case first =>
    have hr : a % 3 = 0 ∨ a % 3 = 1 ∨ a % 3 = 2 := by omega
    rcases hr with h | h | h
    · have hi : (a : Int) % 3 = 0 := by omega
      go_wp2_with fail
      go_meet
      exact ⟨by rw [show xN a = [111, 110, 101] from if_pos h], Lib.hid (by (repeat (first | exact Below.refl _ _ | refine Below.drew ?_ | refine Below.setCell ?_ (by simp <;> omega) _ | refine Below.alloc ?_ (by simp <;> omega) _)))⟩
    · have hi : (a : Int) % 3 = 1 := by omega
      go_wp2_with fail
      go_meet
      exact ⟨by rw [show xN a = [116, 119, 111] from (if_neg (by omega)).trans (if_pos h)], Lib.hid (by (repeat (first | exact Below.refl _ _ | refine Below.drew ?_ | refine Below.setCell ?_ (by simp <;> omega) _ | refine Below.alloc ?_ (by simp <;> omega) _)))⟩
    · have hi : (a : Int) % 3 = 2 := by omega
      go_wp2_with fail
      go_meet
      exact ⟨by rw [show xN a = [116, 104, 114, 101, 101] from (if_neg (by omega)).trans (if_neg (by omega))], Lib.hid (by (repeat (first | exact Below.refl _ _ | refine Below.drew ?_ | refine Below.setCell ?_ (by simp <;> omega) _ | refine Below.alloc ?_ (by simp <;> omega) _)))⟩
  case rest =>
    obtain ⟨rfl, hB1⟩ := hcut
    obtain ⟨w1, hw⟩ : ∃ w1, w1 = wc := ⟨_, rfl⟩
    subst hw
    go_upto_region 2 with (fail)
    go_cut [8] (fun s wx => s = .string (B (yN b)) ∧ Hid (Below w.heap.size w wx))
    case first =>
      have hr : b % 3 = 0 ∨ b % 3 = 1 ∨ b % 3 = 2 := by omega
      rcases hr with h | h | h
      · have hi : (b : Int) % 3 = 0 := by omega
        go_wp2_with fail
        go_meet
        exact ⟨by rw [show yN b = [102, 111, 117, 114] from if_pos h], Lib.hid (hB1.out.alloc hB1.out.size _)⟩
      · have hi : (b : Int) % 3 = 1 := by omega
        go_wp2_with fail
        go_meet
        exact ⟨by rw [show yN b = [102, 105, 118, 101] from (if_neg (by omega)).trans (if_pos h)], Lib.hid (hB1.out.alloc hB1.out.size _)⟩
      · have hi : (b : Int) % 3 = 2 := by omega
        go_wp2_with fail
        go_meet
        exact ⟨by rw [show yN b = [115, 105, 120] from (if_neg (by omega)).trans (if_neg (by omega))], Lib.hid (hB1.out.alloc hB1.out.size _)⟩
    case rest =>
      obtain ⟨rfl, hB2⟩ := hcut
      obtain ⟨w2, hw⟩ : ∃ w2, w2 = wc := ⟨_, rfl⟩
      subst hw
      go_upto_region 3 with (fail)
      go_cut [9] (fun s wx => s = .string (B (zN c)) ∧ Hid (Below w.heap.size w wx))
      case first =>
        have hr : c % 3 = 0 ∨ c % 3 = 1 ∨ c % 3 = 2 := by omega
        rcases hr with h | h | h
        · have hi : (c : Int) % 3 = 0 := by omega
          go_wp2_with fail
          go_meet
          exact ⟨by rw [show zN c = [115, 101, 118, 101, 110] from if_pos h], Lib.hid (hB2.out.alloc hB2.out.size _)⟩
        · have hi : (c : Int) % 3 = 1 := by omega
          go_wp2_with fail
          go_meet
          exact ⟨by rw [show zN c = [101, 105, 103, 104, 116] from (if_neg (by omega)).trans (if_pos h)], Lib.hid (hB2.out.alloc hB2.out.size _)⟩
        · have hi : (c : Int) % 3 = 2 := by omega
          go_wp2_with fail
          go_meet
          exact ⟨by rw [show zN c = [110, 105, 110, 101] from (if_neg (by omega)).trans (if_neg (by omega))], Lib.hid (hB2.out.alloc hB2.out.size _)⟩
      case rest =>
        obtain ⟨rfl, hB3⟩ := hcut
        obtain ⟨w3, hw⟩ : ∃ w3, w3 = wc := ⟨_, rfl⟩
        subst hw
        have hxs : (xN a).length ≤ 5 := by have := xN_len a; rwa [size_B] at this
        have hys : (yN b).length ≤ 5 := by have := yN_len b; rwa [size_B] at this
        have hzs : (zN c).length ≤ 5 := by have := zN_len c; rwa [size_B] at this
        generalize xN a = x at *
        generalize yN b = y at *
        generalize zN c = z at *
        obtain ⟨nx, hnx, bx⟩ : ∃ n, (B x).size = n ∧ n ≤ 5 := ⟨_, rfl, by rw [size_B]; exact hxs⟩
        obtain ⟨ny, hny, by_⟩ : ∃ n, (B y).size = n ∧ n ≤ 5 := ⟨_, rfl, by rw [size_B]; exact hys⟩
        obtain ⟨nz, hnz, bz⟩ : ∃ n, (B z).size = n ∧ n ≤ 5 := ⟨_, rfl, by rw [size_B]; exact hzs⟩
        go_upto_region 4 with (fail)
        obtain ⟨q0, hq0⟩ : ∃ q : ByteArray, q = ⟨#[118, 32, 61, 32]⟩ := ⟨_, rfl⟩
        rw [← hq0]
        have zq0 : q0.size = 4 := by rw [hq0]; rfl
        have eq0 : Hid (q0 = B s0) := hq0
        clear hq0
        obtain ⟨q1, hq1⟩ : ∃ q : ByteArray, q = ⟨#[10, 114, 117, 108, 101, 32, 114, 10, 32, 99, 111, 109, 109, 97, 110, 100, 32, 61, 32, 100, 111, 32, 36, 118, 32, 36, 119, 32, 36, 105, 110, 32, 62, 32, 36, 111, 117, 116, 10, 98, 117, 105, 108, 100, 32, 36, 118, 46, 111, 58, 32, 114, 32, 36, 118, 47, 105, 110, 10, 32, 119, 32, 61, 32]⟩ := ⟨_, rfl⟩
        rw [← hq1]
        have zq1 : q1.size = 64 := by rw [hq1]; rfl
        have eq1 : Hid (q1 = B s1) := hq1
        clear hq1
        obtain ⟨q2, hq2⟩ : ∃ q : ByteArray, q = ⟨#[36, 118, 10, 118, 32, 61, 32]⟩ := ⟨_, rfl⟩
        rw [← hq2]
        have zq2 : q2.size = 7 := by rw [hq2]; rfl
        have eq2 : Hid (q2 = B s2) := hq2
        clear hq2
        obtain ⟨q3, hq3⟩ : ∃ q : ByteArray, q = ⟨#[10, 98, 117, 105, 108, 100, 32, 36, 123, 118, 125, 46, 111, 58, 32, 114, 10, 32, 118, 32, 61, 32]⟩ := ⟨_, rfl⟩
        rw [← hq3]
        have zq3 : q3.size = 22 := by rw [hq3]; rfl
        have eq3 : Hid (q3 = B s3) := hq3
        clear hq3
        obtain ⟨q4, hq4⟩ : ∃ q : ByteArray, q = ⟨#[10, 100, 101, 102, 97, 117, 108, 116, 32, 36, 118, 46, 111, 10]⟩ := ⟨_, rfl⟩
        rw [← hq4]
        have zq4 : q4.size = 14 := by rw [hq4]; rfl
        have eq4 : Hid (q4 = B s4) := hq4
        clear hq4
        have ht : Hid (q0 ++ B x ++ q1 ++ B z ++ q2 ++ B y ++ q3 ++ B z ++ q4 = B (scT x y z)) := by
          show _ = _
          rw [eq0.out, eq1.out, eq2.out, eq3.out, eq4.out]
          simp only [B_append, scT, List.append_assoc]
        clear ha hb hc hxs hys hzs
        go_wp2_with fail
        refine (parse_C _ _ _ _ _ hP.out _ ht.out _ (hMH.out _ hB3.out)).mono ?_
        rintro e w4 ⟨A0, d0, A1, d1, rfl, l0, g0, l1, g1, hb4⟩
        clear zq0 zq1 zq2 zq3 zq4 eq0 eq1 eq2 eq3 eq4 ht
        obtain ⟨ad, a0, c0, a1, c1, a2, c2, a3, c3, rfl, k0, k1, k2, k3, k4, k5, m0, n0, _⟩ := edge_at g0 0 (by simp)
        obtain ⟨ad', b0, e0, b1, e1, b2, e2, b3, e3, had, j0, j1, j2, j3, j4, j5, o0, p0, _⟩ := edge_at g0 1 (by simp)
        obtain rfl : ad = ad' := Option.some.inj had
        obtain ⟨pa, rfl, t0⟩ := strC_at n0 0 (show 0 < 1 from Nat.zero_lt_one)
        obtain ⟨pb, rfl, t1⟩ := strC_at p0 0 (show 0 < 1 from Nat.zero_lt_one)
        obtain ⟨pd, rfl, t2⟩ := strC_at g1 0 (show 0 < 1 from Nat.zero_lt_one)
        rw [show ad.add (0 * 6) = ad from if_pos rfl] at k0 k1 k2 k3 k4 k5
        rw [show pa.add 0 = pa from if_pos rfl] at t0
        rw [show pb.add 0 = pb from if_pos rfl] at t1
        rw [show pd.add 0 = pd from if_pos rfl] at t2
        replace t0 : w4.cell? pa = some (.string (B (x ++ dot))) := t0
        replace t1 : w4.cell? pb = some (.string (B (y ++ dot))) := t1
        replace t2 : w4.cell? pd = some (.string (B (y ++ dot))) := t2
        replace k0 : w4.cell? ad = some (.slice (some pa) 1 c0) := k0
        replace k1 : w4.cell? ⟨ad.block, ad.off + 1, none⟩ = some (.slice a1 1 c1) := k1
        replace k2 : w4.cell? ⟨ad.block, ad.off + 2, none⟩ = some (.slice a2 0 c2) := k2
        replace k3 : w4.cell? ⟨ad.block, ad.off + 3, none⟩ = some (.slice a3 0 c3) := k3
        replace k4 : w4.cell? ⟨ad.block, ad.off + 4, none⟩ = some (.string (B (cmd1 x y z))) := k4
        replace k5 : w4.cell? ⟨ad.block, ad.off + 5, none⟩ = some (.string (B [])) := k5
        replace j0 : w4.cell? ⟨ad.block, ad.off + 6, none⟩ = some (.slice (some pb) 1 e0) := j0
        replace j1 : w4.cell? ⟨ad.block, ad.off + 6 + 1, none⟩ = some (.slice b1 0 e1) := j1
        replace j2 : w4.cell? ⟨ad.block, ad.off + 6 + 2, none⟩ = some (.slice b2 0 e2) := j2
        replace j3 : w4.cell? ⟨ad.block, ad.off + 6 + 3, none⟩ = some (.slice b3 0 e3) := j3
        replace j4 : w4.cell? ⟨ad.block, ad.off + 6 + 4, none⟩ = some (.string (B (cmd2 y z))) := j4
        replace j5 : w4.cell? ⟨ad.block, ad.off + 6 + 5, none⟩ = some (.string (B [])) := j5
        clear g0 g1 l0 l1 n0 p0 m0 o0 had
        simp only [List.length_map, List.length_cons, List.length_nil, Nat.zero_add] at *
        have hBw := Lib.hid (hB3.out.trans (hb4.mono hB3.out.size))
        clear hb4
        have hX1 : Hid (Below w4.heap.size w4 (w4.alloc (.cells #[.slice (some ad) 2 d0, .slice (some pd) 1 d1] 25))) := Lib.hid (by (repeat (first | exact Below.refl _ _ | refine Below.drew ?_ | refine Below.setCell ?_ (by simp <;> omega) _ | refine Below.alloc ?_ (by simp <;> omega) _)))
        have hM1 : Hid ((w4.alloc (.cells #[.slice (some ad) 2 d0, .slice (some pd) 1 d1] 25)).heap[w4.heap.size]? = some (.cells #[.slice (some ad) 2 d0, .slice (some pd) 1 d1] 25 (0, 0))) := heap_alloc_new _ _
        go_upto_region 7 with (fail)
        generalize w4.alloc (.cells #[.slice (some ad) 2 d0, .slice (some pd) 1 d1] 25) = w5 at *
        have hS : Hid (∀ X, Below w5.heap.size w5 X → (fun w' => w'.cell? ⟨w4.heap.size, 0, none⟩ = some (.slice (some ad) 2 d0) ∧ w'.cell? ad = some (.slice (some pa) 1 c0) ∧ w'.cell? ⟨ad.block, ad.off + 1, none⟩ = some (.slice a1 1 c1) ∧ w'.cell? ⟨ad.block, ad.off + 2, none⟩ = some (.slice a2 0 c2) ∧ w'.cell? ⟨ad.block, ad.off + 3, none⟩ = some (.slice a3 0 c3) ∧ w'.cell? ⟨ad.block, ad.off + 4, none⟩ = some (.string (B (cmd1 x y z))) ∧ w'.cell? ⟨ad.block, ad.off + 5, none⟩ = some (.string (B [])) ∧ w'.cell? ⟨ad.block, ad.off + 6, none⟩ = some (.slice (some pb) 1 e0) ∧ w'.cell? ⟨ad.block, ad.off + 6 + 1, none⟩ = some (.slice b1 0 e1) ∧ w'.cell? ⟨ad.block, ad.off + 6 + 2, none⟩ = some (.slice b2 0 e2) ∧ w'.cell? ⟨ad.block, ad.off + 6 + 3, none⟩ = some (.slice b3 0 e3) ∧ w'.cell? ⟨ad.block, ad.off + 6 + 4, none⟩ = some (.string (B (cmd2 y z))) ∧ w'.cell? ⟨ad.block, ad.off + 6 + 5, none⟩ = some (.string (B []))) X) := Lib.hid (fun X hX => ⟨(cell_of_heap (j := 0) ((hX.block _ (lt_blk hM1.out)).trans hM1.out)).trans rfl, below_cell (hX1.out.trans (hX.mono hX1.out.size)) k0, below_cell (hX1.out.trans (hX.mono hX1.out.size)) k1, below_cell (hX1.out.trans (hX.mono hX1.out.size)) k2, below_cell (hX1.out.trans (hX.mono hX1.out.size)) k3, below_cell (hX1.out.trans (hX.mono hX1.out.size)) k4, below_cell (hX1.out.trans (hX.mono hX1.out.size)) k5, below_cell (hX1.out.trans (hX.mono hX1.out.size)) j0, below_cell (hX1.out.trans (hX.mono hX1.out.size)) j1, below_cell (hX1.out.trans (hX.mono hX1.out.size)) j2, below_cell (hX1.out.trans (hX.mono hX1.out.size)) j3, below_cell (hX1.out.trans (hX.mono hX1.out.size)) j4, below_cell (hX1.out.trans (hX.mono hX1.out.size)) j5⟩)
        have hXX := Lib.hid (fun X (hX : Below w5.heap.size w5 X) => hX1.out.trans (hX.mono hX1.out.size))
        have hBX := Lib.hid (fun X (hX : Below w5.heap.size w5 X) => hBw.out.trans ((hXX.out X hX).mono hBw.out.size))
        have t0' := Lib.hid t0
        have t1' := Lib.hid t1
        have t2' := Lib.hid t2
        clear k0 k1 k2 k3 k4 k5 j0 j1 j2 j3 j4 j5 t0 t1 t2
        go_cut [13, 14] (fun s6 s7 wx => ∃ p q, s6 = at0' p ∧ s7 = at0' q ∧ Hid (wx.heap[p]? = some (.cells #[.slice (some pa) 1 c0, .slice a1 1 c1, .slice a2 0 c2, .slice a3 0 c3, .string (B (cmd1 x y z)), .string (B [])] 31 (0, 0))) ∧ Hid (wx.heap[q]? = some (.cells #[.slice (some pb) 1 e0, .slice b1 0 e1, .slice b2 0 e2, .slice b3 0 e3, .string (B (cmd2 y z)), .string (B [])] 31 (0, 0))) ∧ Hid (Below w5.heap.size w5 wx))
        case first =>
          refine RegP.regionT (fun w' => w'.cell? ⟨w4.heap.size, 0, none⟩ = some (.slice (some ad) 2 d0) ∧ w'.cell? ad = some (.slice (some pa) 1 c0) ∧ w'.cell? ⟨ad.block, ad.off + 1, none⟩ = some (.slice a1 1 c1) ∧ w'.cell? ⟨ad.block, ad.off + 2, none⟩ = some (.slice a2 0 c2) ∧ w'.cell? ⟨ad.block, ad.off + 3, none⟩ = some (.slice a3 0 c3) ∧ w'.cell? ⟨ad.block, ad.off + 4, none⟩ = some (.string (B (cmd1 x y z))) ∧ w'.cell? ⟨ad.block, ad.off + 5, none⟩ = some (.string (B [])) ∧ w'.cell? ⟨ad.block, ad.off + 6, none⟩ = some (.slice (some pb) 1 e0) ∧ w'.cell? ⟨ad.block, ad.off + 6 + 1, none⟩ = some (.slice b1 0 e1) ∧ w'.cell? ⟨ad.block, ad.off + 6 + 2, none⟩ = some (.slice b2 0 e2) ∧ w'.cell? ⟨ad.block, ad.off + 6 + 3, none⟩ = some (.slice b3 0 e3) ∧ w'.cell? ⟨ad.block, ad.off + 6 + 4, none⟩ = some (.string (B (cmd2 y z))) ∧ w'.cell? ⟨ad.block, ad.off + 6 + 5, none⟩ = some (.string (B []))) (.cons 0 0 (.cons 1 1 (.cons 0 2 (.cons 1 3 (.cons 0 4 (.cons 1 5 (.cons 0 6 (.cons 1 7 (.fork 8 (.cons 2 9 (.cons 2 10 (.cons 2 11 .nil))) 9 (.cons 2 8 (.cons 2 10 (.cons 2 11 .nil)))))))))))) (by kernel_rfl) (by kernel_rfl) (by kernel_rfl) (by exact hS.out _ (Below.refl _ _).drew) ?_
          refine RegP.pureT (by (simp only [List.getElem?_toArray, List.getElem?_cons_succ, List.getElem?_cons_zero]); rfl) (by exact fun _ _ _ h => h) (by rfl) (by intro w'; go_simp; try with_reducible rfl) ?_
          try simp only [Act.put, List.setIfInBounds_toArray, List.set_cons_zero, List.set_cons_succ]
          refine RegP.heldT (by (simp only [List.getElem?_toArray, List.getElem?_cons_succ, List.getElem?_cons_zero]); rfl) (by exact fun _ _ _ h => h) (by rfl) (by intro w' hS_; (try dsimp only at hS_); go_split_ands; go_simp; try with_reducible rfl) ?_
          try simp only [Act.put, List.setIfInBounds_toArray, List.set_cons_zero, List.set_cons_succ]
          refine RegP.pureT (by (simp only [List.getElem?_toArray, List.getElem?_cons_succ, List.getElem?_cons_zero]); rfl) (by exact fun _ _ _ h => h) (by rfl) (by intro w'; go_simp; try with_reducible rfl) ?_
          try simp only [Act.put, List.setIfInBounds_toArray, List.set_cons_zero, List.set_cons_succ]
          refine RegP.heldT (by (simp only [List.getElem?_toArray, List.getElem?_cons_succ, List.getElem?_cons_zero]); rfl) (by exact fun _ _ _ h => h) (by rfl) (by intro w' hS_; (try dsimp only at hS_); go_split_ands; go_simp; try with_reducible rfl) ?_
          try simp only [Act.put, List.setIfInBounds_toArray, List.set_cons_zero, List.set_cons_succ]
          refine RegP.pureT (by (simp only [List.getElem?_toArray, List.getElem?_cons_succ, List.getElem?_cons_zero]); rfl) (by exact fun _ _ _ h => h) (by rfl) (by intro w'; go_simp; try with_reducible rfl) ?_
          try simp only [Act.put, List.setIfInBounds_toArray, List.set_cons_zero, List.set_cons_succ]
          refine RegP.heldT (by (simp only [List.getElem?_toArray, List.getElem?_cons_succ, List.getElem?_cons_zero]); rfl) (by exact fun _ _ _ h => h) (by rfl) (by intro w' hS_; (try dsimp only at hS_); go_split_ands; go_simp; try with_reducible rfl) ?_
          try simp only [Act.put, List.setIfInBounds_toArray, List.set_cons_zero, List.set_cons_succ]
          refine RegP.pureT (by (simp only [List.getElem?_toArray, List.getElem?_cons_succ, List.getElem?_cons_zero]); rfl) (by exact fun _ _ _ h => h) (by rfl) (by intro w'; go_simp; try with_reducible rfl) ?_
          try simp only [Act.put, List.setIfInBounds_toArray, List.set_cons_zero, List.set_cons_succ]
          refine RegP.heldT (by (simp only [List.getElem?_toArray, List.getElem?_cons_succ, List.getElem?_cons_zero]); rfl) (by exact fun _ _ _ h => h) (by rfl) (by intro w' hS_; (try dsimp only at hS_); go_split_ands; go_simp; try with_reducible rfl) ?_
          try simp only [Act.put, List.setIfInBounds_toArray, List.set_cons_zero, List.set_cons_succ]
          refine RegP.forkT (by (simp only [List.getElem?_toArray, List.getElem?_cons_succ, List.getElem?_cons_zero]); rfl) (by (simp only [List.getElem?_toArray, List.getElem?_cons_succ, List.getElem?_cons_zero]); rfl) (fun K hK => ?_) (fun K hK => ?_)
          · go_simp
            refine hK.out _ _ ?_ (fun hHeld => ?_)
            · (try dsimp only); exact hS.out _ (by (repeat (first | exact Below.refl _ _ | refine Below.drew ?_ | refine Below.setCell ?_ (by simp <;> omega) _ | refine Below.alloc ?_ (by simp <;> omega) _)))
            clear hK K
            try simp only [Act.put, List.setIfInBounds_toArray, List.set_cons_zero, List.set_cons_succ]
            refine RegP.evT (by (simp only [List.getElem?_toArray, List.getElem?_cons_succ, List.getElem?_cons_zero]); rfl) (fun K hK => ?_)
            go_simp
            refine hK.out _ _ ?_ (fun hHeld => ?_)
            · (try dsimp only); exact hS.out _ (by (repeat (first | exact Below.refl _ _ | refine Below.drew ?_ | refine Below.setCell ?_ (by simp <;> omega) _ | refine Below.alloc ?_ (by simp <;> omega) _)))
            clear hK K
            try simp only [Act.put, List.setIfInBounds_toArray, List.set_cons_zero, List.set_cons_succ]
            refine RegP.evT (by (simp only [List.getElem?_toArray, List.getElem?_cons_succ, List.getElem?_cons_zero]); rfl) (fun K hK => ?_)
            go_simp
            refine hK.out _ _ ?_ (fun hHeld => ?_)
            · (try dsimp only); exact hS.out _ (by (repeat (first | exact Below.refl _ _ | refine Below.drew ?_ | refine Below.setCell ?_ (by simp <;> omega) _ | refine Below.alloc ?_ (by simp <;> omega) _)))
            clear hK K
            try simp only [Act.put, List.setIfInBounds_toArray, List.set_cons_zero, List.set_cons_succ]
            refine RegP.evT (by (simp only [List.getElem?_toArray, List.getElem?_cons_succ, List.getElem?_cons_zero]); rfl) (fun K hK => ?_)
            go_simp
            refine hK.out _ _ ?_ (fun hHeld => ?_)
            · (try dsimp only); exact hS.out _ (by (repeat (first | exact Below.refl _ _ | refine Below.drew ?_ | refine Below.setCell ?_ (by simp <;> omega) _ | refine Below.alloc ?_ (by simp <;> omega) _)))
            clear hK K
            try simp only [Act.put, List.setIfInBounds_toArray, List.set_cons_zero, List.set_cons_succ]
            refine RegP.doneT ?_
            clear hHeld
            try dsimp only
            go_wp2_with fail
            go_meet
            exact ⟨w5.heap.size, w5.heap.size + 1, rfl, rfl, Lib.hid (two_fst _ _ _), Lib.hid (two_snd _ _ _), Lib.hid (by (repeat (first | exact Below.refl _ _ | refine Below.drew ?_ | refine Below.setCell ?_ (by simp <;> omega) _ | refine Below.alloc ?_ (by simp <;> omega) _)))⟩
          · go_simp
            refine hK.out _ _ ?_ (fun hHeld => ?_)
            · (try dsimp only); exact hS.out _ (by (repeat (first | exact Below.refl _ _ | refine Below.drew ?_ | refine Below.setCell ?_ (by simp <;> omega) _ | refine Below.alloc ?_ (by simp <;> omega) _)))
            clear hK K
            try simp only [Act.put, List.setIfInBounds_toArray, List.set_cons_zero, List.set_cons_succ]
            refine RegP.evT (by (simp only [List.getElem?_toArray, List.getElem?_cons_succ, List.getElem?_cons_zero]); rfl) (fun K hK => ?_)
            go_simp
            refine hK.out _ _ ?_ (fun hHeld => ?_)
            · (try dsimp only); exact hS.out _ (by (repeat (first | exact Below.refl _ _ | refine Below.drew ?_ | refine Below.setCell ?_ (by simp <;> omega) _ | refine Below.alloc ?_ (by simp <;> omega) _)))
            clear hK K
            try simp only [Act.put, List.setIfInBounds_toArray, List.set_cons_zero, List.set_cons_succ]
            refine RegP.evT (by (simp only [List.getElem?_toArray, List.getElem?_cons_succ, List.getElem?_cons_zero]); rfl) (fun K hK => ?_)
            go_simp
            refine hK.out _ _ ?_ (fun hHeld => ?_)
            · (try dsimp only); exact hS.out _ (by (repeat (first | exact Below.refl _ _ | refine Below.drew ?_ | refine Below.setCell ?_ (by simp <;> omega) _ | refine Below.alloc ?_ (by simp <;> omega) _)))
            clear hK K
            try simp only [Act.put, List.setIfInBounds_toArray, List.set_cons_zero, List.set_cons_succ]
            refine RegP.evT (by (simp only [List.getElem?_toArray, List.getElem?_cons_succ, List.getElem?_cons_zero]); rfl) (fun K hK => ?_)
            go_simp
            refine hK.out _ _ ?_ (fun hHeld => ?_)
            · (try dsimp only); exact hS.out _ (by (repeat (first | exact Below.refl _ _ | refine Below.drew ?_ | refine Below.setCell ?_ (by simp <;> omega) _ | refine Below.alloc ?_ (by simp <;> omega) _)))
            clear hK K
            try simp only [Act.put, List.setIfInBounds_toArray, List.set_cons_zero, List.set_cons_succ]
            refine RegP.doneT ?_
            clear hHeld
            try dsimp only
            go_wp2_with fail
            go_meet
            exact ⟨w5.heap.size + 1, w5.heap.size, rfl, rfl, Lib.hid (two_snd _ _ _), Lib.hid (two_fst _ _ _), Lib.hid (by (repeat (first | exact Below.refl _ _ | refine Below.drew ?_ | refine Below.setCell ?_ (by simp <;> omega) _ | refine Below.alloc ?_ (by simp <;> omega) _)))⟩
        case rest =>
          obtain ⟨p, q, rfl, rfl, hp, hq, hB6⟩ := hcut
          have hBc := Lib.hid (hBX.out _ hB6.out)
          have hz5 := hX1.out.size
          replace t0 := below_cell (hXX.out _ hB6.out) t0'.out
          replace t1 := below_cell (hXX.out _ hB6.out) t1'.out
          replace t2 := below_cell (hXX.out _ hB6.out) t2'.out
          have mc0 := (cell_of_heap (j := 0) ((hB6.out.block _ (lt_blk hM1.out)).trans hM1.out)).trans rfl
          have mc1 := (cell_of_heap (j := 1) ((hB6.out.block _ (lt_blk hM1.out)).trans hM1.out)).trans rfl
          have p0 := (cell_of_heap (j := 0) hp.out).trans rfl
          have p4 := (cell_of_heap (j := 4) hp.out).trans rfl
          have r0 := (cell_of_heap (j := 0) hq.out).trans rfl
          have r4 := (cell_of_heap (j := 4) hq.out).trans rfl
          go_upto_region 8 with (fail)
          obtain ⟨q0, hq0⟩ : ∃ q : ByteArray, q = ⟨#[100, 111, 32]⟩ := ⟨_, rfl⟩
          rw [← hq0]
          have zq0 : q0.size = 3 := by rw [hq0]; rfl
          have eq0 : Hid (q0 = B [100, 111, 32]) := hq0
          clear hq0
          obtain ⟨q1, hq1⟩ : ∃ q : ByteArray, q = ⟨#[32]⟩ := ⟨_, rfl⟩
          rw [← hq1]
          have zq1 : q1.size = 1 := by rw [hq1]; rfl
          have eq1 : Hid (q1 = B [32]) := hq1
          clear hq1
          obtain ⟨q2, hq2⟩ : ∃ q : ByteArray, q = ⟨#[47, 105, 110, 32, 62, 32]⟩ := ⟨_, rfl⟩
          rw [← hq2]
          have zq2 : q2.size = 6 := by rw [hq2]; rfl
          have eq2 : Hid (q2 = B [47, 105, 110, 32, 62, 32]) := hq2
          clear hq2
          obtain ⟨q3, hq3⟩ : ∃ q : ByteArray, q = ⟨#[46, 111]⟩ := ⟨_, rfl⟩
          rw [← hq3]
          have zq3 : q3.size = 2 := by rw [hq3]; rfl
          have eq3 : Hid (q3 = B [46, 111]) := hq3
          clear hq3
          obtain ⟨q4, hq4⟩ : ∃ q : ByteArray, q = ⟨#[32, 32, 32, 62, 32]⟩ := ⟨_, rfl⟩
          rw [← hq4]
          have zq4 : q4.size = 5 := by rw [hq4]; rfl
          have eq4 : Hid (q4 = B [32, 32, 32, 62, 32]) := hq4
          clear hq4
          have hC1 : q0 ++ B y ++ q1 ++ B z ++ B x ++ q1 ++ B x ++ q2 ++ B x ++ q3 = B (cmd1 x y z) := by
            rw [eq0.out, eq1.out, eq2.out, eq3.out]
            simp only [B_append]
            exact congrArg B (by simp [cmd1, dot])
          have hC2 : B x ++ q3 = B (x ++ dot) := by rw [eq3.out]; exact B_append _ _
          have hC3 : q0 ++ B z ++ q4 ++ B y ++ q3 = B (cmd2 y z) := by
            rw [eq0.out, eq4.out, eq3.out]
            simp only [B_append]
            exact congrArg B (by simp [cmd2, dot])
          have hC4 : B y ++ q3 = B (y ++ dot) := by rw [eq3.out]; exact B_append _ _
          clear eq0 eq1 eq2 eq3 eq4
          go_wp2_with fail
          refine (hAw.out _ hBc.out).mono ?_
          rintro e w8 ⟨rfl, hb⟩
          have hB8 := Lib.hid (hBc.out.trans (hb.mono hBc.out.size))
          go_wp2_with fail
          go_ret
          exact ⟨rfl, hB8.out⟩
end Go.Proofs.YteniakfclkdlfaaDoor.Mf
end
section
set_option linter.unusedSimpArgs false
set_option linter.unusedVariables false
namespace Go.Proofs.YteniakfclkdlfaaDoor.Mf
open Go.RowKit Go.Lib Go.Shelf Go.Maps Go.Proofs.YteniakfclkdlfaaDoorW.PrintWords Go.Proofs.YteniakfclkdlfaaDoor.U Go.Proofs.YteniakfclkdlfaaDoor.Sc Go.Proofs.YteniakfclkdlfaaDoor.P Go.Proofs.YteniakfclkdlfaaDoor.MapV
def manyT (k : Nat) : Txt := textOf ([tRule, tCmd] ++ List.replicate k tBld)
theorem manyT_succ (k : Nat) : manyT (k + 1) = manyT k ++ [98, 117, 105, 108, 100, 32, 97, 58, 32, 114, 10] := by
  unfold manyT
  rw [List.replicate_succ', ← List.append_assoc, textOf_append]; rfl
theorem manyT_len : ∀ k, (manyT k).length = 20 + 11 * k
  | 0 => rfl
  | k + 1 => by rw [manyT_succ, List.length_append, manyT_len k]; simp; omega
set_option maxRecDepth 100000 in
set_option maxHeartbeats 8000000 in
theorem many_walk (n : Int) (w : World) (hm : MaxCell w) (hw : (Lit.int .u8 n).wf = true) : Calls Tryd.prog 6 #[.int .u8 n] w fun e w' => e = .returned (.bool true) ∧ Below w.heap.size w w' := by
  have hu25 := Tryd.underlying25
  have hMH := Lib.hid hm
  have hAw := Lib.hid (fun W (hB : Below w.heap.size w W) => awake_C W (hm.below hB))
  clear hm
  obtain ⟨m, rfl, hm1⟩ : ∃ m : Nat, n = (m : Int) ∧ m < 256 := by
    have h := hw
    simp [Lit.wf] at h
    have h1 : (0 : Int) ≤ n := h.1
    have h2 : n ≤ 255 := h.2
    exact ⟨n.toNat, by omega, by omega⟩
  clear hw
  obtain ⟨k, hk⟩ : ∃ k : Nat, (190 : Int) + (m : Int) % 20 = (k : Int) := ⟨190 + m % 20, by omega⟩
  have hk2 : k ≤ 1000 := by omega
  have hP := Lib.hid (parse_many k hk2)
  go_enter Tryd.func6, Tryd.ntmps6
  go_wp2_with fail
  go_loopg [4, 5] k (fun gk s4 s5 wr => ∃ i : Nat, s4 = .string (B (manyT i)) ∧ s5 = .int .i64 (i : Int) ∧ i + gk = k ∧ wr = w)
  case atStart => exact ⟨0, rfl, rfl, Nat.zero_add _, rfl⟩
  case round =>
    obtain ⟨i, rfl, rfl, hik, rfl⟩ := hrel
    cases gk with
    | zero =>
      obtain rfl : i = k := by omega
      have hlt : decide ((i : Int) < (i : Int)) = false := by simp
      by_cases h2 : i ≤ 200
      · have hp : parseL (manyT i) = (List.replicate i eoA, [], 0, 0) := hP.out.trans (if_pos h2)
        have hgt : decide ((i : Int) > 200) = false := by rw [decide_eq_false_iff_not]; omega
        go_wp2_with fail
        refine (parse_C _ _ _ _ _ hp _ rfl _ hMH.out).mono ?_
        rintro e w1 ⟨A0, c0, A1, c1, rfl, l0, g0, l1, g1, hb⟩
        simp only [List.length_map, List.length_replicate, List.length_nil] at *
        have hB1 := Lib.hid hb
        have hB2 := Lib.hid (hb.alloc hb.size (.cells #[.slice A0 i c0, .slice A1 0 c1] 25))
        clear g0 g1 l0 l1 hb
        go_wp2_with fail
        refine (hAw.out _ hB2.out).mono ?_
        rintro e w2 ⟨rfl, hb⟩
        have hB3 := Lib.hid (hB2.out.trans (hb.mono hB2.out.size))
        go_wp2_with fail
        go_ret
        exact ⟨rfl, hB3.out⟩
      · have hp : parseL (manyT i) = ([], [], 203, 3) := hP.out.trans (if_neg h2)
        have hgt : decide ((i : Int) > 200) = true := by rw [decide_eq_true_iff]; omega
        go_wp2_with fail
        refine (parse_C _ _ _ _ _ hp _ rfl _ hMH.out).mono ?_
        rintro e w1 ⟨A0, c0, A1, c1, rfl, l0, g0, l1, g1, hb⟩
        simp only [List.length_map, List.length_replicate, List.length_nil] at *
        have hB1 := Lib.hid hb
        have hB2 := Lib.hid (hb.alloc hb.size (.cells #[.slice A0 0 c0, .slice A1 0 c1] 25))
        clear g0 g1 l0 l1 hb
        go_wp2_with fail
        refine (hAw.out _ hB2.out).mono ?_
        rintro e w2 ⟨rfl, hb⟩
        have hB3 := Lib.hid (hB2.out.trans (hb.mono hB2.out.size))
        go_wp2_with fail
        go_ret
        exact ⟨rfl, hB3.out⟩
    | succ gk =>
      have hlt : decide ((i : Int) < (k : Int)) = true := by rw [decide_eq_true_iff]; omega
      have hlen := manyT_len i
      have hsz : (B (manyT i)).size = 20 + 11 * i := (size_B _).trans hlen
      go_wp2_with fail
      have happ : B (manyT i) ++ (⟨#[98, 117, 105, 108, 100, 32, 97, 58, 32, 114, 10]⟩ : ByteArray) = B (manyT (i + 1)) := by
        rw [manyT_succ]; exact B_append _ _
      rw [happ]
      go_roundg gk
      case measure => omega
      case rel => exact ⟨i + 1, rfl, by go_num, by omega, rfl⟩
end Go.Proofs.YteniakfclkdlfaaDoor.Mf
end
section
set_option linter.unusedSimpArgs false
set_option linter.unusedVariables false
namespace Go.Proofs.YteniakfclkdlfaaDoor.Mf
open Go.RowKit Go.Lib Go.Shelf Go.Maps Go.Proofs.YteniakfclkdlfaaDoorW.PrintWords Go.Proofs.YteniakfclkdlfaaDoor.U Go.Proofs.YteniakfclkdlfaaDoor.Sc Go.Proofs.YteniakfclkdlfaaDoor.P Go.Proofs.YteniakfclkdlfaaDoor.MapV
open Go.ChangeShapes Go.WideShapes Go.ChangeAt in
def U8At (W : World) (a : Option Addr) (len cap : Nat) (l : List Nat) : Prop := l.length = len ∧ len ≤ cap ∧ ∀ (j : Nat) (h : j < l.length), ∃ ad, a = some ad ∧ W.cell? (ad.add j) = some (.int .u8 (l[j] : Int)) ∧ l[j] < 256
theorem u8_ofInt {z : Int} (hw : (Lit.int .u8 z).wf = true) : (z.toNat : Int) = z ∧ z.toNat < 256 := by
  have h := hw
  simp [Lit.wf] at h
  have h1 : (0 : Int) ≤ z := h.1
  have h2 : z ≤ 255 := h.2
  omega
open Go.ChangeShapes Go.WideShapes Go.ChangeAt in
theorem u8_open {H : Type} {enc : TypeId × Value → H} {W : World} {a : Option Addr} {len cap : Nat} {d : DataW H} {ps : List MemPlace} (h : DataW.Trod enc Tryd.prog W 0 (fun _ => true) true 42 (.slice a len cap) d ps) : ∃ l : List Nat, U8At W a len cap l := by
  obtain ⟨fuel, hf⟩ := h
  rcases open_ints Tryd.underlying42 Tryd.underlying5 (by kernel_rfl) hf with ⟨hcs, _⟩ | ⟨x, l, c, zs, hcs, _, hl, hm, hz, _, hcell, hwz⟩
  · simp [Value.cells] at hcs
    obtain ⟨rfl, rfl, rfl⟩ := hcs
    exact ⟨[], rfl, Nat.le_refl _, fun j h => absurd h (by simp)⟩
  · simp [Value.cells] at hcs
    obtain ⟨rfl, rfl, rfl⟩ := hcs
    have hz' : zs.length = cap := by simpa using hz
    refine ⟨(zs.take len).map Int.toNat, by rw [List.length_map, List.length_take]; omega, hl, fun j hj => ⟨x, rfl, ?_⟩⟩
    have hj' : j < len := by rw [List.length_map, List.length_take] at hj; omega
    have h1 := hcell j (by omega)
    have h2 : zs.getD j 0 = zs[j]'(by omega) := by rw [List.getD_eq_getElem?_getD, List.getElem?_eq_getElem (by omega)]; rfl
    rw [h2] at h1
    obtain ⟨h3, h4⟩ := u8_ofInt (hwz (zs[j]'(by omega)) (List.getElem_mem _))
    rw [List.getElem_map, List.getElem_take, h3]
    exact ⟨h1, h4⟩
theorem str_new (w : World) (l : List ByteArray) (t : TypeId) (hl : l.length ≤ 1000) : Kd.C Kd.string (w.alloc (.cells (l.map Value.string).toArray t)) (some ⟨w.heap.size, 0, none⟩) l.length l := by
  refine ⟨rfl, by omega, fun _ => ⟨_, rfl, fun j p hj => ⟨[.string p], rfl, rfl, fun i u hu => ?_⟩⟩⟩
  cases i with
  | zero =>
    obtain rfl : Value.string p = u := by simpa using hu
    rw [show (⟨w.heap.size, 0, none⟩ : Addr).add (j * Kd.string.sz + 0) = ⟨w.heap.size, j, none⟩ by
      rw [show j * Kd.string.sz + 0 = j from Nat.mul_one j]
      unfold Addr.add
      split
      · rename_i h0; rw [h0]
      · simp]
    rw [cell_of_heap (heap_alloc_new w _)]
    simp [hj]
  | succ i => simp at hu
def defT (l : List Nat) : Txt := textOf ([tRule, tCmd, tB2] ++ l.map fun n => tDef ++ nmD n)
theorem defT_snoc (l : List Nat) (n : Nat) : defT (l ++ [n]) = defT l ++ (tDef ++ (nmD n ++ [10])) := by
  unfold defT
  rw [List.map_append, ← List.append_assoc, textOf_append]
  simp [textOf]
theorem defT_len (l : List Nat) : (defT l).length ≤ 44 + 15 * l.length := by
  have := len_D l
  unfold defT
  rw [textOf_append, List.length_append, show (textOf [tRule, tCmd, tB2]).length = 44 from rfl]; omega
set_option maxRecDepth 100000 in
set_option maxHeartbeats 16000000 in
theorem defs_walk (a : Option Addr) (len cap : Nat) (l : List Nat) (w : World) (hm : MaxCell w) (hU : U8At w a len cap l) : Calls Tryd.prog 7 #[.slice a len cap] w fun e w' => e = .returned (.bool true) ∧ Below w.heap.size w w' := by
  have hu25 := Tryd.underlying25
  have hu31 := Tryd.underlying31
  have hMH := Lib.hid (fun W (hB : Below w.heap.size w W) => hm.below hB)
  have hAw := Lib.hid (fun W (hB : Below w.heap.size w W) => awake_C W (hm.below hB))
  clear hm
  obtain ⟨rfl, hcap, hc⟩ := hU
  have hC := Lib.hid hc
  clear hc
  by_cases hl : 20 < l.length
  · have hgt : decide ((20 : Int) < (l.length : Int)) = true := by rw [decide_eq_true_iff]; omega
    go_enter Tryd.func7, Tryd.ntmps7
    go_wp2_with fail
    go_ret
    exact ⟨rfl, Below.refl _ _⟩
  have hgt : decide ((20 : Int) < (l.length : Int)) = false := by rw [decide_eq_false_iff_not]; omega
  have hP := Lib.hid (parse_defs l (by omega))
  go_enter Tryd.func7, Tryd.ntmps7
  go_wp2_with fail
  go_loopg [3, 4, 5] l.length (fun gk s3 s4 s5 wr => ∃ (i : Nat) (A : Option Addr) (c : Nat), s3 = .string (B (defT (l.take i))) ∧ s4 = .slice A i c ∧ s5 = .int .i64 (i : Int) ∧ i + gk = l.length ∧ Hid (wr.ownsRow w.heap.size 9 1 (.slice A i c) i (strs ((l.take i).map wtD))) ∧ Hid (Below w.heap.size w wr))
  case atStart => exact ⟨0, none, 0, rfl, rfl, rfl, Nat.zero_add _, World.ownsRow_nil _ _ _ _, Below.refl _ _⟩
  case round =>
    obtain ⟨i, A, c, rfl, rfl, rfl, hik, hO, hB⟩ := hrel
    cases gk with
    | zero =>
      obtain rfl : i = l.length := by omega
      have hlt : decide ((l.length : Int) < (l.length : Int)) = false := by simp
      rw [List.take_length] at hO ⊢
      go_wp2_with fail
      refine (parse_C (defT l) _ _ _ _ hP.out _ rfl _ (hMH.out _ hB.out)).mono ?_
      rintro e w1 ⟨A0, d0, A1, d1, rfl, l0, g0, l1, g1, hb⟩
      have hO1 : wr.ownsRow w.heap.size 9 1 (.slice A l.length c) (l.map wtD).length (strs (l.map wtD)) := by rw [List.length_map]; exact hO.out
      obtain ⟨A', c', he, lq, gq⟩ := row_C hO1
      injection he with q1 _ q3
      subst q1 q3
      obtain ⟨ad, a0, c0, a1, c1, a2, c2, a3, c3, rfl, k0, k1, k2, k3, k4, k5, m0, n0, m1, n1, m2, n2, m3, n3⟩ := edge_at g0 0 (by simp)
      rw [show ad.add (0 * 6) = ad from if_pos rfl] at k0 k1 k2 k3 k4 k5
      have hBw := Lib.hid (hB.out.trans (hb.mono hB.out.size))
      have hN := Lib.hid (fun W (hW : Below w1.heap.size w1 W) => names_C ((l.map wtD).map B) A1 A d1 c W l1 (Kd.C_below g1 hW) lq (Kd.C_below gq (hb.trans (hW.mono hb.size))))
      have hN1 := Lib.hid (fun W (hW : Below w1.heap.size w1 W) => names_C [B [97]] a1 (some ⟨W.heap.size, 0, none⟩) c1 1 (W.alloc (.cells #[.string ⟨#[97]⟩] 9)) m1 (Kd.C_below n1 (hW.alloc hW.size _)) (Nat.le_refl _) (str_new W [B [97]] 9 (by decide)))
      have hN2 := Lib.hid (fun W (hW : Below w1.heap.size w1 W) => names_C [B [98]] a2 (some ⟨W.heap.size, 0, none⟩) c2 1 (W.alloc (.cells #[.string ⟨#[98]⟩] 9)) m2 (Kd.C_below n2 (hW.alloc hW.size _)) (Nat.le_refl _) (str_new W [B [98]] 9 (by decide)))
      have hN3 := Lib.hid (fun W (hW : Below w1.heap.size w1 W) => names_C [B [99], B [100]] a3 (some ⟨W.heap.size, 0, none⟩) c3 2 (W.alloc (.cells #[.string ⟨#[99]⟩, .string ⟨#[100]⟩] 9)) m3 (Kd.C_below n3 (hW.alloc hW.size _)) (Nat.le_refl _) (str_new W [B [99], B [100]] 9 (by decide)))
      clear g0 g1 l0 l1 gq lq n0 n1 n2 n3 hb hO1 m0 m1 m2 m3
      replace k0 : w1.cell? ad = some (.slice a0 1 c0) := k0
      replace k1 : w1.cell? ⟨ad.block, ad.off + 1, none⟩ = some (.slice a1 1 c1) := k1
      replace k2 : w1.cell? ⟨ad.block, ad.off + 2, none⟩ = some (.slice a2 1 c2) := k2
      replace k3 : w1.cell? ⟨ad.block, ad.off + 3, none⟩ = some (.slice a3 2 c3) := k3
      replace k4 : w1.cell? ⟨ad.block, ad.off + 4, none⟩ = some (.string (B [99])) := k4
      replace k5 : w1.cell? ⟨ad.block, ad.off + 5, none⟩ = some (.string (B [])) := k5
      simp only [List.length_map, List.length_cons, List.length_nil, Nat.zero_add] at *
      have hzad := World.block_lt_of_cell? w1 _ k4
      have hzad2 : ad.block < w1.heap.size := hzad
      have hX1 : Hid (Below w1.heap.size w1 (w1.alloc (.cells #[.slice (some ad) 1 d0, .slice A1 l.length d1] 25))) := Lib.hid (by (repeat (first | exact Below.refl _ _ | refine Below.drew ?_ | refine Below.setCell ?_ (by simp <;> omega) _ | refine Below.alloc ?_ (by simp <;> omega) _)))
      have hM1 : Hid ((w1.alloc (.cells #[.slice (some ad) 1 d0, .slice A1 l.length d1] 25)).heap[w1.heap.size]? = some (.cells #[.slice (some ad) 1 d0, .slice A1 l.length d1] 25 (0, 0))) := heap_alloc_new _ _
      go_wp2_with fail
      refine (hN.out _ hX1.out).mono ?_
      rintro e w2 ⟨rfl, hb⟩
      have hX2 := Lib.hid (hX1.out.trans (hb.mono hX1.out.size))
      have hM2 := Lib.hid ((hb.block _ (lt_blk hM1.out)).trans hM1.out)
      have mm0 := (cell_of_heap (j := 0) hM2.out).trans rfl
      have mm1 := (cell_of_heap (j := 1) hM2.out).trans rfl
      replace k0 := below_cell hX2.out k0
      replace k1 := below_cell hX2.out k1
      replace k2 := below_cell hX2.out k2
      replace k3 := below_cell hX2.out k3
      replace k4 := below_cell hX2.out k4
      replace k5 := below_cell hX2.out k5
      clear hb
      have hX3 : Hid (Below w1.heap.size w1 (w2.alloc (.cells #[.slice a0 1 c0, .slice a1 1 c1, .slice a2 1 c2, .slice a3 2 c3, .string (B [99]), .string (B [])] 31))) := Lib.hid (hX2.out.alloc hX2.out.size _)
      have hM3 : Hid ((w2.alloc (.cells #[.slice a0 1 c0, .slice a1 1 c1, .slice a2 1 c2, .slice a3 2 c3, .string (B [99]), .string (B [])] 31)).heap[w2.heap.size]? = some (.cells #[.slice a0 1 c0, .slice a1 1 c1, .slice a2 1 c2, .slice a3 2 c3, .string (B [99]), .string (B [])] 31 (0, 0))) := heap_alloc_new _ _
      have hq := hN1.out _ hX3.out
      simp only [World.size_alloc] at hq
      go_wp2_with fail
      refine hq.mono ?_
      rintro e w3 ⟨rfl, hb⟩
      have hX4 : Hid (Below w1.heap.size w1 w3) := Lib.hid ((hX3.out.alloc hX3.out.size _).trans (hb.mono (by have := hX2.out.size; omega)))
      have hM4 := Lib.hid ((hb.block _ (by omega)).trans ((heapAt_lt (by rw [World.size_alloc]; omega)).trans hM3.out))
      clear hb
      have xx0 := (cell_of_heap (j := 0) hM4.out).trans rfl
      have xx1 := (cell_of_heap (j := 1) hM4.out).trans rfl
      have xx2 := (cell_of_heap (j := 2) hM4.out).trans rfl
      have xx3 := (cell_of_heap (j := 3) hM4.out).trans rfl
      have xx4 := (cell_of_heap (j := 4) hM4.out).trans rfl
      have xx5 := (cell_of_heap (j := 5) hM4.out).trans rfl
      have hq := hN2.out _ hX4.out
      simp only [World.size_alloc] at hq
      go_wp2_with fail
      refine hq.mono ?_
      rintro e w4 ⟨rfl, hb⟩
      have hX5 : Hid (Below w1.heap.size w1 w4) := Lib.hid ((hX4.out.alloc hX4.out.size _).trans (hb.mono (by have := hX4.out.size; omega)))
      have hM5 := Lib.hid ((hb.block _ (by have := lt_blk hM4.out; omega)).trans ((heapAt_lt (lt_blk hM4.out)).trans hM4.out))
      clear hb xx0 xx1 xx2 xx3 xx4 xx5
      have xx0 := (cell_of_heap (j := 0) hM5.out).trans rfl
      have xx1 := (cell_of_heap (j := 1) hM5.out).trans rfl
      have xx2 := (cell_of_heap (j := 2) hM5.out).trans rfl
      have xx3 := (cell_of_heap (j := 3) hM5.out).trans rfl
      have xx4 := (cell_of_heap (j := 4) hM5.out).trans rfl
      have xx5 := (cell_of_heap (j := 5) hM5.out).trans rfl
      have hq := hN3.out _ hX5.out
      simp only [World.size_alloc] at hq
      go_wp2_with fail
      refine hq.mono ?_
      rintro e w5 ⟨rfl, hb⟩
      have hX6 : Hid (Below w1.heap.size w1 w5) := Lib.hid ((hX5.out.alloc hX5.out.size _).trans (hb.mono (by have := hX5.out.size; omega)))
      have hM6 := Lib.hid ((hb.block _ (by have := lt_blk hM5.out; omega)).trans ((heapAt_lt (lt_blk hM5.out)).trans hM5.out))
      clear hb
      have hB6 := Lib.hid (hBw.out.trans (hX6.out.mono hBw.out.size))
      go_wp2_with fail
      refine (hAw.out _ hB6.out).mono ?_
      rintro e w6 ⟨rfl, hb⟩
      have hB7 := Lib.hid (hB6.out.trans (hb.mono hB6.out.size))
      go_wp2_with fail
      go_ret
      exact ⟨rfl, hB7.out⟩
    | succ gk =>
      have hi : i < l.length := by omega
      have hlt : decide ((i : Int) < (l.length : Int)) = true := by rw [decide_eq_true_iff]; omega
      have i1 : (0 : Int) ≤ (i : Int) := by omega
      have i2 : (i : Int) < (l.length : Int) := by omega
      obtain ⟨ad, rfl, e0, h256⟩ := hC.out i hi
      have htk : l.take (i + 1) = l.take i ++ [l[i]] := List.take_succ_eq_append_getElem hi
      have hT1 : Hid (defT (l.take (i + 1)) = defT (l.take i) ++ (tDef ++ (nmD l[i] ++ [10]))) := by show _ = _; rw [htk]; exact defT_snoc _ _
      have hW1 : Hid ((l.take (i + 1)).map wtD = (l.take i).map wtD ++ [wtD l[i]]) := by show _ = _; rw [htk, List.map_append]; rfl
      replace e0 := below_cell hB.out e0
      have hdl := defT_len (l.take i)
      rw [List.length_take, Nat.min_eq_left (by omega)] at hdl
      obtain ⟨nt, hnt⟩ : ∃ n, (B (defT (l.take i))).size = n := ⟨_, rfl⟩
      have hnt2 : nt ≤ 1000 := by rw [← hnt, size_B]; omega
      clear htk hdl
      generalize l[i] = z at *
      have hlt8 := World.block_lt_of_cell? _ _ e0
      have hr : z % 3 = 0 ∨ z % 3 = 1 ∨ z % 3 = 2 := by omega
      have hBw : Hid (Below w.heap.size w ((wr.alloc (.cells #[.string ⟨#[111]⟩, .string ⟨#[46, 47, 97]⟩, .string ⟨#[120, 47, 46, 46, 47, 98]⟩] 9)).alloc (.cells #[.string ⟨#[111]⟩, .string ⟨#[97]⟩, .string ⟨#[98]⟩] 9))) := Lib.hid ((hB.out.alloc hB.out.size _).alloc (Nat.le_trans hB.out.size (by simp)) _)
      have hOw : Hid (World.ownsRow ((wr.alloc (.cells #[.string ⟨#[111]⟩, .string ⟨#[46, 47, 97]⟩, .string ⟨#[120, 47, 46, 46, 47, 98]⟩] 9)).alloc (.cells #[.string ⟨#[111]⟩, .string ⟨#[97]⟩, .string ⟨#[98]⟩] 9)) w.heap.size 9 1 (.slice A i c) i (strs ((l.take i).map wtD))) := Lib.hid (own_move hO.out fun k hk => by
        have := own_lt hO.out k hk
        exact (heapAt_lt (by rw [World.size_alloc]; omega)).trans (heapAt_lt this))
      have hzw : w.heap.size ≤ (((wr.alloc (.cells #[.string ⟨#[111]⟩, .string ⟨#[46, 47, 97]⟩, .string ⟨#[120, 47, 46, 46, 47, 98]⟩] 9)).alloc (.cells #[.string ⟨#[111]⟩, .string ⟨#[97]⟩, .string ⟨#[98]⟩] 9))).heap.size := hBw.out.size
      generalize hXS : strs ((l.take i).map wtD) = XS at hOw
      rcases hr with h | h | h
      · have hi3 : (z : Int) % 3 = 0 := by omega
        have en : nmD z = [111] := if_pos h
        have ew : wtD z = [111] := if_pos h
        rw [en] at hT1
        rw [ew] at hW1
        have happ : B (defT (l.take i)) ++ (((⟨#[100, 101, 102, 97, 117, 108, 116, 32]⟩ : ByteArray) ++ ⟨#[111]⟩) ++ ⟨#[10]⟩) = B (defT (l.take (i + 1))) := by
          rw [hT1.out]; show B _ ++ ((B tDef ++ B [111]) ++ B [10]) = _
          simp only [B_append, List.append_assoc]
        go_wp2_with (at_builtin; go_must (refine print_append_cells (w0 := w) (W := ((wr.alloc (.cells #[.string ⟨#[111]⟩, .string ⟨#[46, 47, 97]⟩, .string ⟨#[120, 47, 46, 46, 47, 98]⟩] 9)).alloc (.cells #[.string ⟨#[111]⟩, .string ⟨#[97]⟩, .string ⟨#[98]⟩] 9))) w.heap.size rfl _ _ 23 9 (.string ⟨#[]⟩) 1 16 rfl Tryd.underlying23 infoStr rfl (by decide) (by decide) (.slice A i c) i _ [.string ⟨#[111]⟩] rfl (by simp only [World.size_alloc]; rfl) rfl (by intro u hu; rw [List.mem_singleton.1 hu]; rfl) hOw.out hBw.out hzw (by omega) ?_))
        intro v9 w9 ho9 hb9 _ _
        obtain ⟨A9, c9, rfl⟩ := own_row ho9
        have hB9 := Lib.hid hb9
        have hO9 : Hid (w9.ownsRow w.heap.size 9 1 (.slice A9 (i + 1) c9) (i + 1) (strs ((l.take (i + 1)).map wtD))) := by
          show World.ownsRow ..
          rw [hW1.out]
          rw [show strs ((l.take i).map wtD ++ [[111]]) = strs ((l.take i).map wtD) ++ [.string ⟨#[111]⟩] from List.map_append, hXS]
          exact ho9
        clear ho9 hb9
        go_wp2_with fail
        go_roundg gk
        case measure => omega
        case rel => exact ⟨i + 1, A9, c9, by rw [← happ], rfl, by go_num, by omega, hO9, hB9⟩
      · have hi3 : (z : Int) % 3 = 1 := by omega
        have en : nmD z = [46, 47, 97] := (if_neg (by omega)).trans (if_pos h)
        have ew : wtD z = [97] := (if_neg (by omega)).trans (if_pos h)
        rw [en] at hT1
        rw [ew] at hW1
        have happ : B (defT (l.take i)) ++ (((⟨#[100, 101, 102, 97, 117, 108, 116, 32]⟩ : ByteArray) ++ ⟨#[46, 47, 97]⟩) ++ ⟨#[10]⟩) = B (defT (l.take (i + 1))) := by
          rw [hT1.out]; show B _ ++ ((B tDef ++ B [46, 47, 97]) ++ B [10]) = _
          simp only [B_append, List.append_assoc]
        go_wp2_with (at_builtin; go_must (refine print_append_cells (w0 := w) (W := ((wr.alloc (.cells #[.string ⟨#[111]⟩, .string ⟨#[46, 47, 97]⟩, .string ⟨#[120, 47, 46, 46, 47, 98]⟩] 9)).alloc (.cells #[.string ⟨#[111]⟩, .string ⟨#[97]⟩, .string ⟨#[98]⟩] 9))) w.heap.size rfl _ _ 23 9 (.string ⟨#[]⟩) 1 16 rfl Tryd.underlying23 infoStr rfl (by decide) (by decide) (.slice A i c) i _ [.string ⟨#[97]⟩] rfl (by simp only [World.size_alloc]; rfl) rfl (by intro u hu; rw [List.mem_singleton.1 hu]; rfl) hOw.out hBw.out hzw (by omega) ?_))
        intro v9 w9 ho9 hb9 _ _
        obtain ⟨A9, c9, rfl⟩ := own_row ho9
        have hB9 := Lib.hid hb9
        have hO9 : Hid (w9.ownsRow w.heap.size 9 1 (.slice A9 (i + 1) c9) (i + 1) (strs ((l.take (i + 1)).map wtD))) := by
          show World.ownsRow ..
          rw [hW1.out]
          rw [show strs ((l.take i).map wtD ++ [[97]]) = strs ((l.take i).map wtD) ++ [.string ⟨#[97]⟩] from List.map_append, hXS]
          exact ho9
        clear ho9 hb9
        go_wp2_with fail
        go_roundg gk
        case measure => omega
        case rel => exact ⟨i + 1, A9, c9, by rw [← happ], rfl, by go_num, by omega, hO9, hB9⟩
      · have hi3 : (z : Int) % 3 = 2 := by omega
        have en : nmD z = [120, 47, 46, 46, 47, 98] := (if_neg (by omega)).trans (if_neg (by omega))
        have ew : wtD z = [98] := (if_neg (by omega)).trans (if_neg (by omega))
        rw [en] at hT1
        rw [ew] at hW1
        have happ : B (defT (l.take i)) ++ (((⟨#[100, 101, 102, 97, 117, 108, 116, 32]⟩ : ByteArray) ++ ⟨#[120, 47, 46, 46, 47, 98]⟩) ++ ⟨#[10]⟩) = B (defT (l.take (i + 1))) := by
          rw [hT1.out]; show B _ ++ ((B tDef ++ B [120, 47, 46, 46, 47, 98]) ++ B [10]) = _
          simp only [B_append, List.append_assoc]
        go_wp2_with (at_builtin; go_must (refine print_append_cells (w0 := w) (W := ((wr.alloc (.cells #[.string ⟨#[111]⟩, .string ⟨#[46, 47, 97]⟩, .string ⟨#[120, 47, 46, 46, 47, 98]⟩] 9)).alloc (.cells #[.string ⟨#[111]⟩, .string ⟨#[97]⟩, .string ⟨#[98]⟩] 9))) w.heap.size rfl _ _ 23 9 (.string ⟨#[]⟩) 1 16 rfl Tryd.underlying23 infoStr rfl (by decide) (by decide) (.slice A i c) i _ [.string ⟨#[98]⟩] rfl (by simp only [World.size_alloc]; rfl) rfl (by intro u hu; rw [List.mem_singleton.1 hu]; rfl) hOw.out hBw.out hzw (by omega) ?_))
        intro v9 w9 ho9 hb9 _ _
        obtain ⟨A9, c9, rfl⟩ := own_row ho9
        have hB9 := Lib.hid hb9
        have hO9 : Hid (w9.ownsRow w.heap.size 9 1 (.slice A9 (i + 1) c9) (i + 1) (strs ((l.take (i + 1)).map wtD))) := by
          show World.ownsRow ..
          rw [hW1.out]
          rw [show strs ((l.take i).map wtD ++ [[98]]) = strs ((l.take i).map wtD) ++ [.string ⟨#[98]⟩] from List.map_append, hXS]
          exact ho9
        clear ho9 hb9
        go_wp2_with fail
        go_roundg gk
        case measure => omega
        case rel => exact ⟨i + 1, A9, c9, by rw [← happ], rfl, by go_num, by omega, hO9, hB9⟩
end Go.Proofs.YteniakfclkdlfaaDoor.Mf
end
section
namespace Go.Proofs.YteniakfclkdlfaaDoor.Mf
open Go.RowKit
theorem laws_all : True := by
  have h0 := @clean_walk
  have h1 := @notes_walk
  have h2 := @scopes_walk
  have h3 := @many_walk
  have h4 := @defs_walk
  have h5 := @u8_open
  have h6 := @MaxCell.of_shaped
  have h7 := @handed_and_shaped
  trivial
end Go.Proofs.YteniakfclkdlfaaDoor.Mf
end
