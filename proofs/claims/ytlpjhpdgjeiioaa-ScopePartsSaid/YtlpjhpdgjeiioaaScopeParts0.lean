/- ScopeParts walked: for every row of sets and every two texts it answers true. -/
import Derived.Test.YtlpjhpdgjeiioaaScopeLight
import Derived.Test.YtlpjhpdgjeiioaaScopeE
set_option linter.unusedSimpArgs false
set_option linter.unusedVariables false
namespace Go.Proofs.Ytlpjhpdgjeiioaa.Sc
open Go.RowKit Go.Lib Go.Shelf Go.Maps Go.Proofs.YtlpjhpdgjeiioaaW.PrintWords Go.Proofs.Ytlpjhpdgjeiioaa.U Go.Proofs.Ytlpjhpdgjeiioaa.Idx Go.Proofs.Ytlpjhpdgjeiioaa.Bld

set_option maxRecDepth 100000 in
set_option maxHeartbeats 8000000 in
theorem parts_any (l : List SetT) (a : Option Addr) (cap : Nat) (ta tb : Txt) (w : World) (hA : SetsAt w a l) :
    Calls Try.prog 4 #[.slice a l.length cap, .string (B ta), .string (B tb)] w fun e w' => e = .returned (.bool true) ∧ Below w.heap.size w w' := by
  obtain ⟨n, hn⟩ : ∃ n, l.length = n := ⟨_, rfl⟩
  have hLi := Lib.hid (light_any l a cap w hA)
  have hAw := Lib.hid awake_any
  have hAH := Lib.hid hA
  have z1 : (B ta).size = ta.length := size_B _
  have z2 : (B tb).size = tb.length := size_B _
  cases hlt0 : lightB l with
  | false =>
    rw [hlt0, hn] at hLi
    rw [hn]
    clear hA hAH
    go_enter Try.func4, Try.ntmps4
    go_wp2_with fail
    refine hLi.out.mono ?_
    rintro e w1 ⟨rfl, rfl⟩
    go_wp2_with fail
    go_ret
    exact ⟨rfl, Below.refl _ _⟩
  | true =>
    obtain ⟨hn30, hsz⟩ := light_facts hlt0
    have hBt := Lib.hid (fun hs => built_any l hn30 hs a cap w hA)
    have hsz' := Lib.hid hsz
    rw [hlt0, hn] at hLi
    rw [hn] at hn30 hBt ⊢
    clear hA hsz
    by_cases h1 : ta.length ≤ 100
    · have t1 : decide ((100 : Int) < (ta.length : Int)) = false := by rw [decide_eq_false_iff_not]; omega
      by_cases h2 : tb.length ≤ 100
      · have t2 : decide ((100 : Int) < (tb.length : Int)) = false := by rw [decide_eq_false_iff_not]; omega
        go_enter Try.func4, Try.ntmps4
        go_wp2_with fail
        refine hLi.out.mono ?_
        rintro e w1 ⟨rfl, rfl⟩
        go_wp2_with fail
        go_loopg [7] n (fun gk s7 wr => ∃ i : Nat, s7 = .int .i64 (i : Int) ∧ i + gk = n ∧ Hid (∀ s ∈ l.take i, s.text.length ≤ 100) ∧ w = wr)
        case atStart => exact ⟨0, rfl, Nat.zero_add _, fun s hs => by simp at hs, rfl⟩
        case round =>
          obtain ⟨i, rfl, hik, hP, rfl⟩ := hrel
          cases gk with
          | zero =>
            obtain rfl : i = n := by omega
            have hlt : decide ((i : Int) < (i : Int)) = false := by simp
            have hall : ∀ s ∈ l, s.text.length ≤ 100 := by have := hP.out; rwa [List.take_of_length_le (by omega)] at this
            have hT := Lib.hid (fun S i k => levs_small (S := S) (i := i) (built_small l hall) k)
            clear hall
            go_wp2_with fail
            refine (hBt.out hsz'.out).mono ?_
            rintro e w2 ⟨V, rfl, htri, hsix, hb2⟩
            have hC2 := Lib.hid htri.chain
            have hB2 := Lib.hid hb2
            have hlt5 := htri.lt
            generalize builtS l = st at *
            have hL := parts_law (L := levs w.heap.size i st) (fun k => hT.out _ _ k) ta tb h1 h2
            generalize hLe : levs w.heap.size i st = L at *
            have hTT : ∀ k, (getL L k).length < 1000000000 := fun k => by have := hT.out w.heap.size i k; rw [hLe] at this; omega
            have hEx := Lib.hid (fun (t : Txt) (ht : t.length < 1000000000) (W : World) (hC : Chain W L _) => Expand_any L (.pointer (some ⟨w.heap.size + 5, 0, none⟩)) t ht hTT W hC)
            clear htri hsix hb2 hT hTT hLe
            rcases hL with ea | ⟨x, hx, ea, hL⟩
            · have hEa := Lib.hid (fun W hC => hEx.out ta (by omega) W hC)
              have hEb := Lib.hid (fun W hC => hEx.out tb (by omega) W hC)
              rw [ea] at hEa
              clear ea hEx
              generalize expandL L tb = eb at *
              go_wp2_with fail
              refine (hEa.out _ hC2.out).mono ?_
              rintro e w3 ⟨rfl, hb3⟩
              have hC3 := Lib.hid (hC2.out.below hb3)
              have hB3 := Lib.hid (hB2.out.next hb3)
              go_wp2_with fail
              refine (hEb.out _ hC3.out).mono ?_
              rintro e w4 ⟨rfl, hb4⟩
              have hB4 := Lib.hid (hB3.out.next hb4)
              go_wp2_with fail
              refine (hAw.out _).mono ?_
              rintro e w5 ⟨rfl, hb5⟩
              go_wp2_with fail
              go_ret
              exact ⟨rfl, hB4.out.next hb5⟩
            · have hEa := Lib.hid (fun W hC => hEx.out ta (by omega) W hC)
              have hEb := Lib.hid (fun W hC => hEx.out tb (by omega) W hC)
              have hEz := Lib.hid (fun W hC => hEx.out (ta ++ 32 :: tb) (by simp; omega) W hC)
              have e1 : B ta ++ (⟨#[32]⟩ : ByteArray) = B (ta ++ [32]) := B_append ta [32]
              have e2 : B (ta ++ [32]) ++ B tb = B (ta ++ 32 :: tb) := by rw [B_append]; simp
              have e3 : B x ++ (⟨#[32]⟩ : ByteArray) = B (x ++ [32]) := B_append x [32]
              have z3 : (B x).size = x.length := size_B _
              have z4 : (B (x ++ [32])).size = x.length + 1 := by rw [size_B]; simp
              have z5 : (B (ta ++ [32])).size = ta.length + 1 := by rw [size_B]; simp
              rw [ea] at hEa
              rcases hL with ⟨eb, ez⟩ | ⟨y, hy, eb, ez⟩
              · rw [eb] at hEb
                rw [ez] at hEz
                have E1 := Lib.hid e1
                have E2 := Lib.hid e2
                clear ea eb ez hEx e1 e2 e3
                go_wp2_with fail
                refine (hEa.out _ hC2.out).mono ?_
                rintro e w3 ⟨rfl, hb3⟩
                have hC3 := Lib.hid (hC2.out.below hb3)
                have hB3 := Lib.hid (hB2.out.next hb3)
                go_wp2_with fail
                refine (hEb.out _ hC3.out).mono ?_
                rintro e w4 ⟨rfl, hb4⟩
                have hC4 := Lib.hid (hC3.out.below hb4)
                have hB4 := Lib.hid (hB3.out.next hb4)
                go_wp2_with fail
                rw [E1.out, E2.out]
                refine (hEz.out _ hC4.out).mono ?_
                rintro e w5 ⟨rfl, hb5⟩
                have hB5 := Lib.hid (hB4.out.next hb5)
                go_wp2_with fail
                refine (hAw.out _).mono ?_
                rintro e w6 ⟨rfl, hb6⟩
                go_wp2_with fail
                go_ret
                exact ⟨rfl, hB5.out.next hb6⟩
              · rw [eb] at hEb
                rw [ez] at hEz
                have e4 : B (x ++ [32]) ++ B y = B (x ++ 32 :: y) := by rw [B_append]; simp
                have z6 : (B y).size = y.length := size_B _
                have E1 := Lib.hid e1
                have E2 := Lib.hid e2
                have hq : B (x ++ 32 :: y) = B x ++ (⟨#[32]⟩ : ByteArray) ++ B y := by rw [e3, e4]
                have HQ := Lib.hid hq
                clear ea eb ez hEx e1 e2 e3 e4 hq
                go_wp2_with fail
                refine (hEa.out _ hC2.out).mono ?_
                rintro e w3 ⟨rfl, hb3⟩
                have hC3 := Lib.hid (hC2.out.below hb3)
                have hB3 := Lib.hid (hB2.out.next hb3)
                go_wp2_with fail
                refine (hEb.out _ hC3.out).mono ?_
                rintro e w4 ⟨rfl, hb4⟩
                have hC4 := Lib.hid (hC3.out.below hb4)
                have hB4 := Lib.hid (hB3.out.next hb4)
                go_wp2_with fail
                rw [E1.out, E2.out]
                refine (hEz.out _ hC4.out).mono ?_
                rintro e w5 ⟨rfl, hb5⟩
                have hB5 := Lib.hid (hB4.out.next hb5)
                rw [HQ.out]
                go_wp2_with fail
                refine (hAw.out _).mono ?_
                rintro e w6 ⟨rfl, hb6⟩
                go_wp2_with fail
                go_ret
                exact ⟨rfl, hB5.out.next hb6⟩
          | succ gk =>
            have hin : i < l.length := by omega
            have hlt : decide ((i : Int) < (n : Int)) = true := by rw [decide_eq_true_iff]; omega
            obtain ⟨s, hs⟩ : ∃ s, l[i] = s := ⟨_, rfl⟩
            obtain ⟨x, rfl, hxb, d0, d1, d2, hv0, hv1⟩ := hAH.out i hin
            rw [hs] at d0 d1 d2 hv0 hv1
            have htk : l.take (i + 1) = l.take i ++ [s] := by rw [List.take_succ_eq_append_getElem hin, hs]
            have z3 : (B s.text).size = s.text.length := size_B _
            by_cases h3 : s.text.length ≤ 100
            · have t3 : decide ((100 : Int) < (s.text.length : Int)) = false := by rw [decide_eq_false_iff_not]; omega
              have hP2 : Hid (∀ s ∈ l.take (i + 1), s.text.length ≤ 100) := by
                intro q hq
                rw [htk, List.mem_append] at hq
                rcases hq with hq | hq
                · exact hP.out q hq
                · obtain rfl : q = s := by simpa using hq
                  exact h3
              clear htk hs
              go_wp2_with fail
              go_roundg gk
              case measure => omega
              case rel => exact ⟨i + 1, by first | rfl | simp, by omega, hP2, rfl⟩
            · have t3 : decide ((100 : Int) < (s.text.length : Int)) = true := by rw [decide_eq_true_iff]; omega
              clear htk hs
              go_wp2_with fail
              go_ret
              exact ⟨rfl, Below.refl _ _⟩
      · have t2 : decide ((100 : Int) < (tb.length : Int)) = true := by rw [decide_eq_true_iff]; omega
        go_enter Try.func4, Try.ntmps4
        go_wp2_with fail
        refine hLi.out.mono ?_
        rintro e w1 ⟨rfl, rfl⟩
        go_wp2_with fail
        go_ret
        exact ⟨rfl, Below.refl _ _⟩
    · have t1 : decide ((100 : Int) < (ta.length : Int)) = true := by rw [decide_eq_true_iff]; omega
      go_enter Try.func4, Try.ntmps4
      go_wp2_with fail
      refine hLi.out.mono ?_
      rintro e w1 ⟨rfl, rfl⟩
      go_wp2_with fail
      go_ret
      exact ⟨rfl, Below.refl _ _⟩
end Go.Proofs.Ytlpjhpdgjeiioaa.Sc
namespace Go.Proofs.Ytlpjhpdgjeiioaa.P
open Go.RowKit Go.Proofs.Ytlpjhpdgjeiioaa.U Go.Proofs.Ytlpjhpdgjeiioaa.Sc
theorem bellowslaw10_ScopeParts.walk (a : Option Addr) (len cap : Nat) (l : List SetT) (a1 a2 : ByteArray) (w : World) (h : l.length = len ∧ len ≤ cap ∧ SetsAt w a l) (w1 : a1.size ≤ 140737488351232) (w2 : a2.size ≤ 140737488351232) :
    Calls Try.prog 4 #[.slice a len cap, .string a1, .string a2] w fun e w' => e = .returned (.bool true) ∧ Below w.heap.size w w' := by
  obtain ⟨ta, rfl⟩ := B_surj a1
  obtain ⟨tb, rfl⟩ := B_surj a2
  obtain ⟨rfl, _, hA⟩ := h
  exact parts_any l a cap ta tb w hA
end Go.Proofs.Ytlpjhpdgjeiioaa.P
