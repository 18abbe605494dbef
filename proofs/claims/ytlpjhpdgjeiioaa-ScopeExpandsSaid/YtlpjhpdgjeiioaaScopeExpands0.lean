/- ScopeExpands walked: for every row of sets, every text and every name it answers true. -/
import Derived.Test.YtlpjhpdgjeiioaaScopeRows
set_option linter.unusedSimpArgs false
set_option linter.unusedVariables false
namespace Go.Proofs.Ytlpjhpdgjeiioaa.Sc
open Go.RowKit Go.Lib Go.Shelf Go.Maps Go.Proofs.YtlpjhpdgjeiioaaW.PrintWords Go.Proofs.Ytlpjhpdgjeiioaa.U Go.Proofs.Ytlpjhpdgjeiioaa.Idx Go.Proofs.Ytlpjhpdgjeiioaa.Bld Go.Proofs.Ytlpjhpdgjeiioaa.P

set_option maxRecDepth 100000 in
set_option maxHeartbeats 8000000 in
theorem expands_any (l : List SetT) (a : Option Addr) (cap : Nat) (ta nm : Txt) (w : World) (hA : SetsAt w a l) :
    Calls Try.prog 3 #[.slice a l.length cap, .string (B ta), .string (B nm)] w fun e w' => e = .returned (.bool true) ∧ Below w.heap.size w w' := by
  obtain ⟨n, hn⟩ : ∃ n, l.length = n := ⟨_, rfl⟩
  have hLi := Lib.hid (light_any l a cap w hA)
  have hAw := Lib.hid awake_any
  have z1 : (B ta).size = ta.length := size_B _
  have z2 : (B nm).size = nm.length := size_B _
  cases hlt0 : lightB l with
  | false =>
    rw [hlt0, hn] at hLi
    rw [hn]
    clear hA
    go_enter Try.func3, Try.ntmps3
    go_wp2_with fail
    refine hLi.out.mono ?_
    rintro e w1 ⟨rfl, rfl⟩
    go_wp2_with fail
    go_ret
    exact ⟨rfl, Below.refl _ _⟩
  | true =>
    obtain ⟨hn30, hsz⟩ := light_facts hlt0
    have hBt := Lib.hid (built_any l hn30 hsz a cap w hA)
    rw [hlt0, hn] at hLi
    by_cases h1 : ta.length ≤ 3000
    · have t1 : decide ((3000 : Int) < (ta.length : Int)) = false := by rw [decide_eq_false_iff_not]; omega
      by_cases h2 : nm.length ≤ 300
      · have t2 : decide ((300 : Int) < (nm.length : Int)) = false := by rw [decide_eq_false_iff_not]; omega
        have hT := Lib.hid (fun k => levs_small (M := 5000) (S := w.heap.size) (i := n) (built_small l (fun s hs => (hsz s hs).2)) k)
        have hI := Lib.hid (built_inv l)
        rw [hn] at hn30 hBt hI ⊢
        clear hA hsz
        generalize builtS l = st at *
        go_enter Try.func3, Try.ntmps3
        go_wp2_with fail
        refine hLi.out.mono ?_
        rintro e w1 ⟨rfl, rfl⟩
        go_wp2_with fail
        refine hBt.out.mono ?_
        rintro e w2 ⟨V, rfl, htri, hsix, hb2⟩
        have hC2 := Lib.hid htri.chain
        have hK2 := Lib.hid hsix.reads
        have hB2 := Lib.hid hb2
        have hRx := Lib.hid (fun W hC => refExpand_any (n := n) (S := w.heap.size) hI.out (by omega) (fun k => hT.out k) ta h1 W hC)
        have hRg := Lib.hid (fun W hC => refGet_any (n := n) (S := w.heap.size) hI.out (by omega) nm W hC)
        have hEx := Lib.hid (fun W hC => Expand_any (levs w.heap.size n st) (.pointer (some ⟨w.heap.size + 5, 0, none⟩)) ta (by omega) (fun k => Nat.lt_of_le_of_lt (hT.out k) (by omega)) W hC)
        have hG := Lib.hid (fun W hC => Get_any (levs w.heap.size n st) (.pointer (some ⟨w.heap.size + 5, 0, none⟩)) nm (by unfold maxLen; omega) W hC)
        have hEn := Lib.hid (fun W => Expand_any [] (.pointer none) ta (by omega) (fun k => by simp [getL]) W rfl)
        have hRn := Lib.hid (fun W => refExpand_none ta h1 W)
        have hGn := Lib.hid (fun W => Get_any [] (.pointer none) nm (by unfold maxLen; omega) W rfl)
        have hSn := Lib.hid (fun W => Set_nil nm ta W)
        have eN : getL [] nm = [] := rfl
        rw [eN] at hGn
        generalize expandL (levs w.heap.size n st) ta = ea at *
        generalize getL (levs w.heap.size n st) nm = eg at *
        generalize expandL [] ta = en at *
        obtain ⟨xa, na⟩ := ea
        obtain ⟨xn, nn⟩ := en
        clear hI hT htri hsix hb2 hLi hBt
        go_wp2_with fail
        refine (hEx.out _ hC2.out).mono ?_
        rintro e w3 ⟨rfl, hb3⟩
        have hC3 := Lib.hid (hC2.out.below hb3)
        have hK3 := Lib.hid (Kd.C_below hK2.out hb3)
        have hB3 := Lib.hid (hB2.out.next hb3)
        clear hC2 hK2 hB2 hb3
        go_wp2_with fail
        refine (hRx.out _ hK3.out).mono ?_
        rintro e w4 ⟨rfl, hb4⟩
        have hC4 := Lib.hid (hC3.out.below hb4)
        have hK4 := Lib.hid (Kd.C_below hK3.out hb4)
        have hB4 := Lib.hid (hB3.out.next hb4)
        clear hC3 hK3 hB3 hb4
        go_wp2_with fail
        refine (hEn.out _).mono ?_
        rintro e w5 ⟨rfl, hb5⟩
        have hC5 := Lib.hid (hC4.out.below hb5)
        have hK5 := Lib.hid (Kd.C_below hK4.out hb5)
        have hB5 := Lib.hid (hB4.out.next hb5)
        clear hC4 hK4 hB4 hb5
        go_wp2_with fail
        refine (hRn.out _).mono ?_
        rintro e w6 ⟨rfl, hb6⟩
        have hC6 := Lib.hid (hC5.out.below hb6)
        have hK6 := Lib.hid (Kd.C_below hK5.out hb6)
        have hB6 := Lib.hid (hB5.out.next hb6)
        clear hC5 hK5 hB5 hb6
        go_wp2_with fail
        refine (hG.out _ hC6.out).mono ?_
        rintro e w7 ⟨rfl, rfl⟩
        go_wp2_with fail
        refine (hRg.out _ hK6.out).mono ?_
        rintro e w8 ⟨rfl, hb8⟩
        have hB8 := Lib.hid (hB6.out.next hb8)
        clear hC6 hK6 hB6 hb8
        go_wp2_with fail
        refine (hGn.out _).mono ?_
        rintro e w9 ⟨rfl, rfl⟩
        go_wp2_with fail
        refine (hSn.out _).mono ?_
        rintro e w10 ⟨rfl, rfl⟩
        go_wp2_with fail
        refine (hAw.out _).mono ?_
        rintro e w11 ⟨rfl, hb11⟩
        go_wp2_with fail
        go_ret
        exact ⟨rfl, hB8.out.next hb11⟩
      · have t2 : decide ((300 : Int) < (nm.length : Int)) = true := by rw [decide_eq_true_iff]; omega
        rw [hn]
        clear hA hsz
        go_enter Try.func3, Try.ntmps3
        go_wp2_with fail
        refine hLi.out.mono ?_
        rintro e w1 ⟨rfl, rfl⟩
        go_wp2_with fail
        go_ret
        exact ⟨rfl, Below.refl _ _⟩
    · have t1 : decide ((3000 : Int) < (ta.length : Int)) = true := by rw [decide_eq_true_iff]; omega
      rw [hn]
      clear hA hsz
      go_enter Try.func3, Try.ntmps3
      go_wp2_with fail
      refine hLi.out.mono ?_
      rintro e w1 ⟨rfl, rfl⟩
      go_wp2_with fail
      go_ret
      exact ⟨rfl, Below.refl _ _⟩
end Go.Proofs.Ytlpjhpdgjeiioaa.Sc
namespace Go.Proofs.Ytlpjhpdgjeiioaa.P
open Go.RowKit Go.Proofs.Ytlpjhpdgjeiioaa.U Go.Proofs.Ytlpjhpdgjeiioaa.Sc
theorem bellowslaw10_ScopeExpands.walk (a : Option Addr) (len cap : Nat) (l : List SetT) (a1 a2 : ByteArray) (w : World) (h : l.length = len ∧ len ≤ cap ∧ SetsAt w a l) (w1 : a1.size ≤ 140737488351232) (w2 : a2.size ≤ 140737488351232) :
    Calls Try.prog 3 #[.slice a len cap, .string a1, .string a2] w fun e w' => e = .returned (.bool true) ∧ Below w.heap.size w w' := by
  obtain ⟨ta, rfl⟩ := B_surj a1
  obtain ⟨tb, rfl⟩ := B_surj a2
  obtain ⟨rfl, _, hA⟩ := h
  exact expands_any l a cap ta tb w hA
end Go.Proofs.Ytlpjhpdgjeiioaa.P
