/- ScopeHides: a scope below hides what stands above it. -/
import Derived.Test.YtlpjhpdgjeiioaaScopeAwake
set_option linter.unusedSimpArgs false
set_option linter.unusedVariables false
namespace Go.Proofs.Ytlpjhpdgjeiioaa.Sc
open Go.RowKit Go.Lib Go.Shelf Go.Proofs.YtlpjhpdgjeiioaaW.PrintWords Go.Proofs.Ytlpjhpdgjeiioaa.U Go.Proofs.Ytlpjhpdgjeiioaa.Idx Go.Proofs.Ytlpjhpdgjeiioaa.Bld

theorem Stored.cons {w w' : World} {s x : Lev} {k t : Txt} {L L' : List Lev} {v : Value} (h : Stored w w' s k t) (hC : Chain w (x :: L) v) (hL : ∀ up, Chain w L up → Chain w' L' up) (h1 : x.b ≠ s.bm) (h2 : x.bm ≠ s.bm) : Chain w' (x :: L') v := by
  obtain ⟨hv, up, hb, hm, hr⟩ := hC
  have hr' := hL up hr
  obtain ⟨w1, g1, g2, g3⟩ := h
  have hlt := (Array.getElem?_eq_some_iff.1 hb).1
  have hb1 := (g1.block _ hlt).trans hb
  have hb2 := (g2.block _ (Array.getElem?_eq_some_iff.1 hb1).1 (fun e => h1 (by injection e))).trans hb1
  have hm1 := hm.same (g1.block _ hm.lt)
  exact ⟨hv, up, hb2, hm1.kept g2 (fun e => h2 (by injection e)), hr'⟩
theorem Stored.below {w0 w w' : World} {s : Lev} {k t : Txt} (h : Stored w w' s k t) (hb : Below w0.heap.size w0 w) (hs : w0.heap.size ≤ s.bm) : Below w0.heap.size w0 w' := by
  obtain ⟨w1, g1, g2, _⟩ := h
  have h1 := hb.trans (g1.mono hb.size)
  exact h1.grown g2 h1.size (fun k hk => by injection hk with hk; subst hk; exact hs)

theorem nameB_not (b : UInt8) (h : nameB b = true) : b ≠ 36 ∧ b ≠ 125 := by
  constructor <;> (rintro rfl; revert h; decide)
theorem name_mem {nm : Txt} (h : nameL nm = true) : (36 : UInt8) ∉ nm ∧ (125 : UInt8) ∉ nm ∧ nm ≠ [] := by
  rw [nameL, Bool.and_eq_true] at h
  refine ⟨fun hm => ?_, fun hm => ?_, ?_⟩
  · exact (nameB_not _ (List.all_eq_true.1 h.2 _ hm)).1 rfl
  · exact (nameB_not _ (List.all_eq_true.1 h.2 _ hm)).2 rfl
  · rintro rfl; exact absurd h.1 (by decide)
theorem exp_name (L : List Lev) (nm : Txt) (h : nameL nm = true) (hl : (getL L nm).length ≤ 16384) : expandL L (36 :: 123 :: (nm ++ [125])) = (getL L nm, 0) := by
  obtain ⟨_, h2, _⟩ := name_mem h
  have c1 : cutL 36 (36 :: 123 :: (nm ++ [125])) = ([], 123 :: (nm ++ [125]), true) := by simp [cutL]
  have c2 : cutL 125 (nm ++ [125]) = (nm, [], true) := cutL_some 125 nm [] h2
  have d1 : dollarL L (123 :: (nm ++ [125])) = (getL L nm, [], true) := by
    rw [dollarL, if_neg (by decide), if_pos rfl, c2, h]; rfl
  have c3 : cutL 36 [] = ([], [], false) := rfl
  have d2 : dollarL L [] = ([], [], false) := rfl
  have hn : ¬ ((false = true) ∨ 16384 < (([] : Txt) ++ []).length + (getL L nm).length) := by simp; omega
  rw [expandL, List.length_cons, expGo_succ L _ _ _ _ c1 d1, if_neg (by simp), if_neg (by simp), if_neg hn, List.length_cons, expGo_succ L _ _ _ _ c3 d2, if_pos rfl]
  simp [finL]; omega

set_option maxRecDepth 100000 in
set_option maxHeartbeats 4000000 in
theorem hides_any (nm a b : Txt) (hn : nm.length ≤ 300) (ha : a.length ≤ 300) (hb : b.length ≤ 300) (w : World) :
    Calls Try.prog 5 #[.string (B nm), .string (B a), .string (B b)] w fun e w' => e = .returned (.bool true) ∧ Below w.heap.size w w' := by
  have hN := Lib.hid (fun (L : List Lev) (v : Value) (W : World) (hC : Chain W L v) => New_chain L v W hC)
  have hNm := Lib.hid (fun W => Name_any nm W)
  have hGet := Lib.hid (fun (L : List Lev) (v : Value) (W : World) (hC : Chain W L v) => Get_any L v nm (by unfold maxLen; omega) W hC)
  have hAw := Lib.hid awake_any
  have s1 : (B nm).size = nm.length := size_B nm
  have s2 : (B a).size = a.length := size_B a
  have s3 : (B b).size = b.length := size_B b
  have t1 : decide ((300 : Int) < (nm.length : Int)) = false := by rw [decide_eq_false_iff_not]; omega
  have t2 : decide ((300 : Int) < (a.length : Int)) = false := by rw [decide_eq_false_iff_not]; omega
  have t3 : decide ((300 : Int) < (b.length : Int)) = false := by rw [decide_eq_false_iff_not]; omega
  cases hk : nameL nm with
  | false =>
    rw [hk] at hNm
    have hBad := Lib.hid (fun (x : Addr) W => Set_bad x nm a hk W)
    go_enter Try.func5, Try.ntmps5
    go_wp2_with fail
    refine (hN.out [] (.pointer none) _ rfl).mono ?_
    rintro e w1 ⟨rfl, ⟨hc1, hb1⟩, hs1⟩
    have hU := Lib.hid hc1
    have hB1 := Lib.hid hb1
    clear hc1 hb1
    go_wp2_with fail
    refine (hN.out _ _ _ hU.out).mono ?_
    rintro e w2 ⟨rfl, ⟨hc2, hb2⟩, hs2⟩
    have hU2 := Lib.hid (hU.out.below hb2)
    have hB2 := Lib.hid (hB1.out.next hb2)
    clear hc2 hb2
    go_wp2_with fail
    refine (hN.out _ _ _ hU2.out).mono ?_
    rintro e w3 ⟨rfl, ⟨hc3, hb3⟩, hs3⟩
    have hU3 := Lib.hid (hU2.out.below hb3)
    have hB3 := Lib.hid (hB2.out.next hb3)
    clear hc3 hb3
    go_wp2_with fail
    refine (hNm.out _).mono ?_
    rintro e w4 ⟨rfl, hb4⟩
    have hU4 := Lib.hid (hU3.out.below hb4)
    have hB4 := Lib.hid (hB3.out.next hb4)
    clear hb4
    go_wp2_with fail
    refine (hBad.out _ _).mono ?_
    rintro e w5 ⟨rfl, hb5⟩
    have hU5 := Lib.hid (hU4.out.below hb5)
    have hB5 := Lib.hid (hB4.out.next hb5)
    clear hb5
    go_wp2_with fail
    have hg := hGet.out _ _ _ hU5.out
    simp only [getL, none0] at hg
    refine hg.mono ?_
    rintro e w6 ⟨rfl, rfl⟩
    clear hg
    go_wp2_with fail
    refine (hAw.out _).mono ?_
    rintro e w7 ⟨rfl, hb7⟩
    go_wp2_with fail
    go_ret
    exact ⟨rfl, hB5.out.next hb7⟩
  | true =>
    rw [hk] at hNm
    have hSet := Lib.hid (fun (s : Lev) (r : List Lev) (v : Value) (t : Txt) (ht : t.length ≤ 300) (h : s.n < 1000000) (W : World) (hC : Chain W (s :: r) v) => Set_ok s r v nm t hk (by unfold maxLen; omega) (by unfold maxLen; omega) h W hC)
    have hExp := Lib.hid (fun (L : List Lev) (v : Value) (hT : ∀ k, (getL L k).length < 1000000000) (W : World) (hC : Chain W L v) => Expand_any L v (36 :: 123 :: (nm ++ [125])) (by simp; omega) hT W hC)
    have e1 : (⟨#[36, 123]⟩ : ByteArray) ++ B nm = B (36 :: 123 :: nm) := by
      show B [36, 123] ++ B nm = _
      rw [B_append]; rfl
    have e2 : B (36 :: 123 :: nm) ++ (⟨#[125]⟩ : ByteArray) = B (36 :: 123 :: (nm ++ [125])) := by
      show B _ ++ B [125] = _
      rw [B_append]; rfl
    have E1 := Lib.hid e1
    have E2 := Lib.hid e2
    clear e1 e2
    go_enter Try.func5, Try.ntmps5
    go_wp2_with fail
    refine (hN.out [] (.pointer none) _ rfl).mono ?_
    rintro e w1 ⟨rfl, ⟨hc1, hb1⟩, hs1⟩
    have hU := Lib.hid hc1
    have hB1 := Lib.hid hb1
    clear hc1 hb1
    go_wp2_with fail
    refine (hN.out _ _ _ hU.out).mono ?_
    rintro e w2 ⟨rfl, ⟨hc2, hb2⟩, hs2⟩
    have hU2 := Lib.hid (hU.out.below hb2)
    have hL2 := Lib.hid hc2
    have hB2 := Lib.hid (hB1.out.next hb2)
    clear hc2 hb2
    go_wp2_with fail
    refine (hN.out _ _ _ hU2.out).mono ?_
    rintro e w3 ⟨rfl, ⟨hc3, hb3⟩, hs3⟩
    have hU3 := Lib.hid (hU2.out.below hb3)
    have hL3 := Lib.hid (hL2.out.below hb3)
    have hO3 := Lib.hid hc3
    have hB3 := Lib.hid (hB2.out.next hb3)
    clear hc3 hb3
    go_wp2_with fail
    refine (hNm.out _).mono ?_
    rintro e w4 ⟨rfl, hb4⟩
    have hU4 := Lib.hid (hU3.out.below hb4)
    have hL4 := Lib.hid (hL3.out.below hb4)
    have hO4 := Lib.hid (hO3.out.below hb4)
    have hB4 := Lib.hid (hB3.out.next hb4)
    clear hb4 hU hU2 hU3 hL2 hL3 hO3 hB1 hB2 hB3
    have hl2 : w1.heap.size = w.heap.size + 2 := hs1
    have ho2 : w2.heap.size = w.heap.size + 2 + 2 := by rw [hs2, hs1]
    rw [hl2] at hL4
    rw [ho2] at hO4
    clear hs1 hs2 hs3 hl2 ho2
    obtain ⟨u, hu⟩ : ∃ u, w.heap.size = u := ⟨_, rfl⟩
    rw [hu] at hU4 hL4 hO4
    have hB4' : Hid (Below w.heap.size w w4 ∧ w.heap.size = u) := ⟨hB4.out, hu⟩
    clear hB4
    go_wp2_with fail
    have hg := hGet.out _ _ _ hL4.out
    simp only [getL, none0] at hg
    refine hg.mono ?_
    rintro e w4' ⟨rfl, rfl⟩
    clear hg
    go_wp2_with fail
    refine (hSet.out _ _ _ a ha (by show 0 < 1000000; decide) _ hU4.out).mono ?_
    rintro e w5 ⟨rfl, hst⟩
    have hU5 := Lib.hid (hst.head hU4.out (by simp) (by simp))
    have hL5 := Lib.hid (hst.cons hL4.out (fun up h => hst.head h (by simp) (by simp)) (by show u + 2 + 1 ≠ u; omega) (by show u + 2 ≠ u; omega))
    have hO5 := Lib.hid (hst.cons hO4.out (fun up h => hst.head h (by simp) (by simp)) (by show u + 2 + 2 + 1 ≠ u; omega) (by show u + 2 + 2 ≠ u; omega))
    have hB5 : Hid (Below w.heap.size w w5) := hst.below hB4'.out.1 (Nat.le_of_eq hu)
    clear hst hU4 hL4 hO4
    go_wp2_with fail
    have hg := hGet.out _ _ _ hL5.out
    simp only [getL, none0, Lev.set, upd, if_true] at hg
    refine hg.mono ?_
    rintro e w5' ⟨rfl, rfl⟩
    clear hg
    go_wp2_with fail
    refine (hSet.out _ _ _ b hb (by show 0 < 1000000; decide) _ hL5.out).mono ?_
    rintro e w6 ⟨rfl, hst⟩
    have hL6 := Lib.hid (hst.head hL5.out (by simp [Lev.set]) (by simp))
    have hU6 := Lib.hid (hst.other hU5.out (by simp [Lev.set]))
    have hO6 := Lib.hid (hst.other hO5.out (by simp [Lev.set]))
    have hB6 : Hid (Below w.heap.size w w6) := hst.below hB5.out (by show w.heap.size ≤ u + 2; omega)
    clear hst hU5 hL5 hO5
    go_wp2_with fail
    rw [E1.out, E2.out]
    have hlen : ∀ (x y z : Nat) (k : Txt), (getL [Lev.set ⟨x, y, 0, none0⟩ nm b, Lev.set ⟨z, u, 0, none0⟩ nm a] k).length < 1000000000 := fun x y z k => by
      simp only [getL, Lev.set, upd, none0]
      by_cases h : k = nm
      · simp only [if_pos h]; omega
      · simp only [if_neg h]; simp
    have hX := hExp.out _ _ (hlen _ _ _) _ hL6.out
    rw [exp_name _ nm hk (by simp only [getL, Lev.set, upd, if_true]; omega)] at hX
    simp only [getL, Lev.set, upd, if_true] at hX
    refine hX.mono ?_
    rintro e w7 ⟨rfl, hb7⟩
    have hL7 := Lib.hid (hL6.out.below hb7)
    have hU7 := Lib.hid (hU6.out.below hb7)
    have hO7 := Lib.hid (hO6.out.below hb7)
    have hB7 := Lib.hid (hB6.out.next hb7)
    clear hX hlen hb7 hL6 hU6 hO6 hB6
    go_wp2_with fail
    have hg := hGet.out _ _ _ hL7.out
    simp only [getL, none0, Lev.set, upd, if_true] at hg
    refine hg.mono ?_
    rintro e w8 ⟨rfl, rfl⟩
    clear hg
    go_wp2_with fail
    have hg := hGet.out _ _ _ hU7.out
    simp only [getL, none0, Lev.set, upd, if_true] at hg
    refine hg.mono ?_
    rintro e w8 ⟨rfl, rfl⟩
    clear hg
    go_wp2_with fail
    have hg := hGet.out _ _ _ hO7.out
    simp only [getL, none0, Lev.set, upd, if_true] at hg
    refine hg.mono ?_
    rintro e w8 ⟨rfl, rfl⟩
    clear hg
    go_wp2_with fail
    refine (hAw.out _).mono ?_
    rintro e w9 ⟨rfl, hb9⟩
    go_wp2_with fail
    go_ret
    exact ⟨rfl, hB7.out.next hb9⟩
theorem hides_long (nm a b : Txt) (h : 300 < nm.length ∨ (nm.length ≤ 300 ∧ 300 < a.length) ∨ (nm.length ≤ 300 ∧ a.length ≤ 300 ∧ 300 < b.length)) (w : World) :
    Calls Try.prog 5 #[.string (B nm), .string (B a), .string (B b)] w fun e w' => e = .returned (.bool true) ∧ Below w.heap.size w w' := by
  have s1 : (B nm).size = nm.length := size_B nm
  have s2 : (B a).size = a.length := size_B a
  have s3 : (B b).size = b.length := size_B b
  rcases h with h | ⟨h1, h2⟩ | ⟨h1, h2, h3⟩
  · have t1 : decide ((300 : Int) < (nm.length : Int)) = true := by rw [decide_eq_true_iff]; omega
    go_enter Try.func5, Try.ntmps5
    go_wp2_with fail
    go_ret
    exact ⟨rfl, Below.refl _ _⟩
  · have t1 : decide ((300 : Int) < (nm.length : Int)) = false := by rw [decide_eq_false_iff_not]; omega
    have t2 : decide ((300 : Int) < (a.length : Int)) = true := by rw [decide_eq_true_iff]; omega
    go_enter Try.func5, Try.ntmps5
    go_wp2_with fail
    go_ret
    exact ⟨rfl, Below.refl _ _⟩
  · have t1 : decide ((300 : Int) < (nm.length : Int)) = false := by rw [decide_eq_false_iff_not]; omega
    have t2 : decide ((300 : Int) < (a.length : Int)) = false := by rw [decide_eq_false_iff_not]; omega
    have t3 : decide ((300 : Int) < (b.length : Int)) = true := by rw [decide_eq_true_iff]; omega
    go_enter Try.func5, Try.ntmps5
    go_wp2_with fail
    go_ret
    exact ⟨rfl, Below.refl _ _⟩
end Go.Proofs.Ytlpjhpdgjeiioaa.Sc
namespace Go.Proofs.Ytlpjhpdgjeiioaa.P
open Go.RowKit Go.Proofs.Ytlpjhpdgjeiioaa.U Go.Proofs.Ytlpjhpdgjeiioaa.Sc
def bellowslaw10_ScopeHides.Pure : Prop := True
theorem bellowslaw10_ScopeHides.walk (_ : bellowslaw10_ScopeHides.Pure) (a0 a1 a2 : ByteArray) (w : World) (w0 : a0.size ≤ 140737488351232) (w1 : a1.size ≤ 140737488351232) (w2 : a2.size ≤ 140737488351232) :
    Calls Try.prog 5 #[.string a0, .string a1, .string a2] w fun e w' => e = .returned (.bool true) ∧ Below w.heap.size w w' := by
  obtain ⟨nm, rfl⟩ := B_surj a0
  obtain ⟨a, rfl⟩ := B_surj a1
  obtain ⟨b, rfl⟩ := B_surj a2
  rcases (show (300 < nm.length ∨ (nm.length ≤ 300 ∧ 300 < a.length) ∨ (nm.length ≤ 300 ∧ a.length ≤ 300 ∧ 300 < b.length)) ∨ (nm.length ≤ 300 ∧ a.length ≤ 300 ∧ b.length ≤ 300) from by omega) with h | ⟨h1, h2, h3⟩
  · exact hides_long nm a b h w
  · exact hides_any nm a b h1 h2 h3 w
end Go.Proofs.Ytlpjhpdgjeiioaa.P
