/- bellowsref10.short and Name: the printed functions answer as shortR and nameL do. -/
import Derived.Test.YtlpjhpdgjeiioaaScopeBuiltA
set_option linter.unusedSimpArgs false
set_option linter.unusedVariables false
namespace Go.Proofs.Ytlpjhpdgjeiioaa.Sc
open Go.RowKit Go.Lib Go.Shelf Go.Maps Go.Proofs.YtlpjhpdgjeiioaaW.PrintWords Go.Proofs.Ytlpjhpdgjeiioaa.U Go.Proofs.Ytlpjhpdgjeiioaa.Idx Go.Proofs.Ytlpjhpdgjeiioaa.P

theorem ref_short_all : ∀ n : Nat, n < 256 → bellowsref10_short.f (n : Int) = some (shortR n) := by decide +kernel
theorem ref_short (c : UInt8) : bellowsref10_short.f (c.toNat : Int) = some (shortR c.toNat) := ref_short_all _ c.toNat_lt
theorem nameB_all : ∀ n : Nat, n < 256 → nameR n = (shortR n || n == 46) := by decide +kernel
theorem nameB_eq (c : UInt8) : nameB c = (shortR c.toNat || c.toNat == 46) := nameB_all _ c.toNat_lt
theorem ref_name_go (r : List UInt8) : ∀ (p : List UInt8), (p ++ r).length < 4611686018427387903 →
    Ev (fun k => bellowsref10_Name.l0 k (B (p ++ r)) (p.length : Int)) (decide ((p ++ r).length > 0) && r.all nameB) := by
  induction r with
  | nil =>
    intro p hp
    refine Ev.unroll (Ev.some fun k => ?_)
    rw [bellowsref10_Name.l0, size_B, if_neg (by simp)]
    simp
  | cons c r ih =>
    intro p hp
    have ih := ih (p ++ [c]) (by simpa using hp)
    simp only [List.append_assoc, List.singleton_append] at ih
    have hp' : p.length < 4611686018427387903 := by simp at hp; omega
    have hw := wrapH p.length (by omega)
    have hlen : ((p ++ [c]).length : Int) = ((p.length + 1 : Nat) : Int) := by simp
    rw [hlen] at ih
    refine Ev.unroll ?_
    have e : (fun k => bellowsref10_Name.l0 (k + 1) (B (p ++ c :: r)) (p.length : Int)) = fun k => if shortR c.toNat = true then bellowsref10_Name.l0 k (B (p ++ c :: r)) ((p.length + 1 : Nat) : Int) else if (c.toNat : Int) = 46 then bellowsref10_Name.l0 k (B (p ++ c :: r)) ((p.length + 1 : Nat) : Int) else some false := by
      funext k
      rw [bellowsref10_Name.l0, size_B, if_pos (by simp; omega), if_pos (by omega), bt_mid, ref_short, hw.out]
      rfl
    rw [e]
    have hsplit : (decide ((p ++ c :: r).length > 0) && (c :: r).all nameB) = (nameB c && (decide ((p ++ c :: r).length > 0) && r.all nameB)) := by
      simp [List.all_cons, Bool.and_left_comm]
    rw [hsplit, nameB_eq]
    by_cases h1 : shortR c.toNat = true
    · simp only [h1, if_true, Bool.true_or, Bool.true_and]
      exact ih
    · simp only [h1, if_false, Bool.false_or]
      by_cases h2 : c.toNat = 46
      · have h2' : (c.toNat : Int) = 46 := by omega
        have h3 : (c.toNat == 46) = true := by simp [h2]
        simp only [h2', if_true, h3, Bool.true_and]
        exact ih
      · have h2' : ¬ (c.toNat : Int) = 46 := by omega
        have h3 : (c.toNat == 46) = false := by simp [h2]
        simp only [h2', if_false, h3, Bool.false_and]
        simp only [Bool.false_eq_true, if_false]
        exact Ev.some fun _ => rfl
theorem ref_name (l : List UInt8) (hl : l.length < 4611686018427387903) : Ev (fun k => bellowsref10_Name.f k (B l)) (nameL l) := by
  have h := ref_name_go l [] (by simpa using hl)
  refine Ev.eqn h ?_
  cases l <;> simp [nameL]
theorem refName_any (l : Txt) (hl : l.length ≤ 300) (W : World) : Calls Try.prog 21 #[.string (B l)] W fun e w' => e = .returned (.bool (nameL l)) ∧ Below W.heap.size W w' := by
  obtain ⟨K, hK⟩ := ref_name l (by omega)
  exact (bellowsref10_Name.calls K (B l) (nameL l) W (hK K (Nat.le_refl _))).mono fun e w' h => ⟨h.1, h.2.below⟩

section
variable {S i : Nat} {st : St} {X : Nat → List Txt} {V : Nat → Value} {w0 w : World}
theorem built_leaf {st2 : St} {k : Nat} (hk : k < 3) {nm tx : Txt} {va vb : Value}
    (h : Pre S i st2 (updR (updR (rowOf st) (2 * k) nm) (2 * k + 1) tx) (updV (updV V (2 * k) va) (2 * k + 1) vb) V w0 w) (he : st2 = st.put k nm tx) :
    ∃ V', Tri S i st2 ((w.setCell ⟨S + 7, 2 * k, none⟩ va).setCell ⟨S + 7, 2 * k + 1, none⟩ vb) ∧ Six S st2 V' ((w.setCell ⟨S + 7, 2 * k, none⟩ va).setCell ⟨S + 7, 2 * k + 1, none⟩ vb) ∧
      Below S w0 ((w.setCell ⟨S + 7, 2 * k, none⟩ va).setCell ⟨S + 7, 2 * k + 1, none⟩ vb) ∧
      ((w.setCell ⟨S + 7, 2 * k, none⟩ va).setCell ⟨S + 7, 2 * k + 1, none⟩ vb).heap[S + 6]? = some (.cells #[.pointer (some ⟨S + 5, 0, none⟩), .pointer (some ⟨S + 3, 0, none⟩), .pointer (some ⟨S + 1, 0, none⟩)] 24 (0, 0)) := by
  have h2 := (h.store (2 * k) (by omega) va).store (2 * k + 1) (by omega) vb
  refine ⟨updV (updV V (2 * k) va) (2 * k + 1) vb, h2.tri, ⟨h2.blk, fun j hj => ?_, h2.apart⟩, h2.bel, h2.al⟩
  have := h2.own j hj
  rw [he, put_rows]
  exact this
end
end Go.Proofs.Ytlpjhpdgjeiioaa.Sc
