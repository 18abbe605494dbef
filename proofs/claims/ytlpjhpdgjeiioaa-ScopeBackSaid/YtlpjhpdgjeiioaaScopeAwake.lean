/- The chapter's example. -/
import Derived.Test.YtlpjhpdgjeiioaaScopeD
set_option linter.unusedSimpArgs false
set_option linter.unusedVariables false
namespace Go.Proofs.Ytlpjhpdgjeiioaa.Sc
open Go.RowKit Go.Lib Go.Shelf Go.Proofs.YtlpjhpdgjeiioaaW.PrintWords Go.Proofs.Ytlpjhpdgjeiioaa.U Go.Proofs.Ytlpjhpdgjeiioaa.Idx Go.Proofs.Ytlpjhpdgjeiioaa.Bld

theorem awake_exp (b bm : Nat) : expandL [⟨b, bm, 1, upd none0 [120] [49, 32, 50]⟩] [97, 36, 120, 36, 36, 36, 123, 120, 125, 98] = ([97, 49, 32, 50, 36, 49, 32, 50, 98], 0) := by kernel_rfl
theorem awake_get (b bm : Nat) (k : Txt) : (getL [⟨b, bm, 1, upd none0 [120] [49, 32, 50]⟩] k).length < 1000000000 := by
  simp only [getL, upd, none0]
  split
  · rename_i h
    split at h
    · cases h; decide
    · cases h
  · decide
set_option maxRecDepth 100000 in
set_option maxHeartbeats 2000000 in
theorem awake_any (w : World) : Calls Try.prog 16 #[] w fun e w' => e = .returned (.bool true) ∧ Below w.heap.size w w' := by
  have hNew := Lib.hid (fun W => New_chain [] (.pointer none) W rfl)
  have hSet := Lib.hid (fun (s : Lev) (v : Value) (h : s.n < 1000000) (W : World) (hC : Chain W [s] v) => Set_ok s [] v [120] [49, 32, 50] rfl (by decide) (by decide) h W hC)
  have hExp := Lib.hid (fun (L : List Lev) (v : Value) (hT : ∀ k, (getL L k).length < 1000000000) (W : World) (hC : Chain W L v) => Expand_any L v [97, 36, 120, 36, 36, 36, 123, 120, 125, 98] (by decide) hT W hC)
  go_enter Try.func16, Try.ntmps16
  go_wp2_with fail
  refine (hNew.out _).mono ?_
  rintro e w1 ⟨rfl, ⟨hc1, hb1⟩, hs1⟩
  have hC1 := Lib.hid hc1
  clear hc1
  go_wp2_with fail
  refine (hSet.out _ _ (by show 0 < 1000000; decide) _ hC1.out).mono ?_
  rintro e w2 ⟨rfl, hst⟩
  have hc2 : Chain w2 [⟨w.heap.size + 1, w.heap.size, 1, upd none0 [120] [49, 32, 50]⟩] (.pointer (some ⟨w.heap.size + 1, 0, none⟩)) := hst.head hC1.out (by simp) (by simp)
  have hC2 := Lib.hid hc2
  clear hc2
  have hB2 : Below w.heap.size w w2 := by
    obtain ⟨w', h1, h2, _⟩ := hst
    exact (hb1.next h1).grown h2 (by have := h1.size; omega) (fun k hk => by injection hk with hk; subst hk; exact Nat.le_refl _)
  clear hst
  go_wp2_with fail
  have hX := hExp.out _ _ (awake_get _ _) _ hC2.out
  rw [awake_exp] at hX
  refine hX.mono ?_
  rintro e w3 ⟨rfl, hb3⟩
  go_wp2_with fail
  go_ret
  exact ⟨rfl, hB2.next hb3⟩
end Go.Proofs.Ytlpjhpdgjeiioaa.Sc
