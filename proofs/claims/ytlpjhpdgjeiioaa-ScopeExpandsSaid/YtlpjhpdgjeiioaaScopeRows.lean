/- The rows that built leaves are read as the reference reads its scopes. -/
import Derived.Test.YtlpjhpdgjeiioaaScopeRefE
import Derived.Test.YtlpjhpdgjeiioaaWRepsOne
import Derived.Test.YtlpjhpdgjeiioaaScopeLight
set_option linter.unusedSimpArgs false
set_option linter.unusedVariables false
namespace Go.Proofs.Ytlpjhpdgjeiioaa.Sc
open Go.RowKit Go.Lib Go.Shelf Go.Maps Go.Proofs.YtlpjhpdgjeiioaaW.PrintWords Go.Proofs.Ytlpjhpdgjeiioaa.U Go.Proofs.Ytlpjhpdgjeiioaa.Idx Go.Proofs.Ytlpjhpdgjeiioaa.P

theorem reps_map (w : World) : ∀ l : List Txt, Reps (Kd.string.K w) 1 (l.map B) (l.map fun t => Value.string (B t))
  | [] => Reps.none _ _
  | t :: l => by rw [List.map_cons, List.map_cons]; exact Reps.one (show Kd.string.K w (B t) [.string (B t)] from rfl) (reps_map w l)
theorem row_reads {w : World} {b : Nat} {e : TypeId} {v : Value} {l : List Txt} (h : w.ownsRow b e 1 v l.length (l.map fun t => Value.string (B t))) :
    ∃ A c, v = .slice A (l.map B).length c ∧ (l.map B).length ≤ c ∧ Kd.string.C w A (l.map B).length (l.map B) := by
  have h0 : OwnRow (Kd.string.K w) e 1 w b v (l.map B) := ⟨_, by rw [List.length_map]; exact h, reps_map w l⟩
  exact h0.reads
theorem Six.reads {S : Nat} {st : St} {V : Nat → Value} {w : World} (h : Six S st V w) : Kd.C k50 w (some ⟨S + 7, 0, none⟩) 3 ((rowsS st).map toS) := by
  refine ⟨rfl, by decide, fun _ => ⟨⟨S + 7, 0, none⟩, rfl, fun j p hj => ?_⟩⟩
  have hj3 : j < 3 := by
    have := (List.getElem?_eq_some_iff.1 hj).1
    simpa [rowsS] using this
  obtain ⟨A0, c0, e0, l0, g0⟩ := row_reads (h.own (2 * j) (by omega))
  obtain ⟨A1, c1, e1, l1, g1⟩ := row_reads (h.own (2 * j + 1) (by omega))
  have d0 := h.cell (2 * j) (by omega)
  have d1 := h.cell (2 * j + 1) (by omega)
  rw [e0] at d0
  rw [e1] at d1
  have r0 : rowOf st (2 * j) = st.ns j := by unfold rowOf; rw [if_pos (by omega)]; congr 1; omega
  have r1 : rowOf st (2 * j + 1) = st.ts j := by unfold rowOf; rw [if_neg (by omega)]; congr 1; omega
  rw [r0] at d0 l0 g0
  rw [r1] at d1 l1 g1
  have hp : p = toS (st.ns j, st.ts j) := by
    rcases (show j = 0 ∨ j = 1 ∨ j = 2 by omega) with rfl | rfl | rfl <;> simpa [rowsS] using hj.symm
  subst hp
  refine ⟨_, rfl, k50_mk w (toS (st.ns j, st.ts j)) l0 g0 l1 g1, fun i u hi => ?_⟩
  have hi2 : i = 0 ∨ i = 1 := by
    have := (List.getElem?_eq_some_iff.1 hi).1
    simp at this; omega
  have ha : ∀ q : Nat, (⟨S + 7, 0, none⟩ : Addr).add q = ⟨S + 7, q, none⟩ := fun q => by unfold Addr.add; by_cases hq : q = 0 <;> simp [hq]
  rw [ha]
  rcases hi2 with rfl | rfl
  · have hu : u = .slice A0 ((st.ns j).map B).length c0 := (Option.some.inj hi).symm
    rw [hu, show j * k50.sz + 0 = 2 * j by show j * 2 + 0 = 2 * j; omega]
    exact d0.1
  · have hu : u = .slice A1 ((st.ts j).map B).length c1 := (Option.some.inj hi).symm
    rw [hu, show j * k50.sz + 1 = 2 * j + 1 by show j * 2 + 1 = 2 * j + 1; omega]
    exact d1.1
/-- The reference's Expand and Get, called on what built leaves. -/
theorem refExpand_any {M S n : Nat} {st : St} (hI : St.Inv M st) (hM : M < 1000000000) (hT : ∀ k, (getL (levs S n st) k).length ≤ 5000) (text : Txt) (ht : text.length ≤ 3000) (W : World)
    (hC : Kd.C k50 W (some ⟨S + 7, 0, none⟩) 3 ((rowsS st).map toS)) :
    Calls Try.prog 12 #[.slice (some ⟨S + 7, 0, none⟩) 3 3, .string (B text)] W fun e w' => e = .returned (.tuple #[.string (B (expandL (levs S n st) text).1), .int .i64 (expandL (levs S n st) text).2]) ∧ Below W.heap.size W w' := by
  obtain ⟨K, hK⟩ := ref_expand (fun nm => ref_get_built hI hM S n nm) hT text (by omega)
  exact (bellowsref10_Expand.calls K (some ⟨S + 7, 0, none⟩) 3 ((rowsS st).map toS) (B text) _ _ W hC (Nat.le_refl _) (hK K (Nat.le_refl _))).mono fun e w' h => ⟨h.1, h.2.below⟩
theorem refGet_any {M S n : Nat} {st : St} (hI : St.Inv M st) (hM : M < 1000000000) (nm : Txt) (W : World)
    (hC : Kd.C k50 W (some ⟨S + 7, 0, none⟩) 3 ((rowsS st).map toS)) :
    Calls Try.prog 14 #[.slice (some ⟨S + 7, 0, none⟩) 3 3, .string (B nm)] W fun e w' => e = .returned (.string (B (getL (levs S n st) nm))) ∧ Below W.heap.size W w' := by
  obtain ⟨K, hK⟩ := ref_get_built hI hM S n nm
  exact (bellowsref10_Get.calls K (some ⟨S + 7, 0, none⟩) 3 ((rowsS st).map toS) (B nm) _ W hC (Nat.le_refl _) (hK K (Nat.le_refl _))).mono fun e w' h => ⟨h.1, h.2.below⟩
theorem refExpand_none (text : Txt) (ht : text.length ≤ 3000) (W : World) :
    Calls Try.prog 12 #[.slice none 0 0, .string (B text)] W fun e w' => e = .returned (.tuple #[.string (B (expandL [] text).1), .int .i64 (expandL [] text).2]) ∧ Below W.heap.size W w' := by
  have hg : ∀ nm, Ev (fun k => bellowsref10_Get.f k [] (B nm)) (B (getL [] nm)) := fun nm => by
    have := ref_get_f [] nm (by simp) (by simp)
    exact this
  obtain ⟨K, hK⟩ := ref_expand hg (fun k => by simp [getL]) text (by omega)
  have hC : Kd.C k50 W none 0 [] := ⟨rfl, by decide, fun h => absurd h (by decide)⟩
  exact (bellowsref10_Expand.calls K none 0 [] (B text) _ _ W hC (Nat.le_refl _) (hK K (Nat.le_refl _))).mono fun e w' h => ⟨h.1, h.2.below⟩
end Go.Proofs.Ytlpjhpdgjeiioaa.Sc
