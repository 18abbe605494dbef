/- bellowsref10.Get over the rows that built kept answers as getL over the scopes does. No program in sight. -/
import Derived.Test.YtlpjhpdgjeiioaaScopeRefN
import Derived.Test.YtlpjhpdgjeiioaaPBellowsref10Get0
set_option linter.unusedSimpArgs false
set_option linter.unusedVariables false
namespace Go.Proofs.Ytlpjhpdgjeiioaa.Sc
open Go.RowKit Go.Lib Go.Shelf Go.Maps Go.Proofs.YtlpjhpdgjeiioaaW.PrintWords Go.Proofs.Ytlpjhpdgjeiioaa.U Go.Proofs.Ytlpjhpdgjeiioaa.Idx Go.Proofs.Ytlpjhpdgjeiioaa.P

/-- The last text of a name among the first k rows. -/
def lastOf (ns ts : List Txt) (nm : Txt) : Nat → Option Txt
  | 0 => none
  | k + 1 => if ns.getD k [] = nm then some (ts.getD k []) else lastOf ns ts nm k
def getR : List (List Txt × List Txt) → Txt → Txt
  | [], _ => []
  | x :: r, nm => match lastOf x.1 x.2 nm x.1.length with
    | some t => t
    | none => getR r nm
def toS (x : List Txt × List Txt) : S50 := ⟨x.1.map B, x.2.map B⟩
theorem rdOf_map (l : List Txt) (i : Nat) (h : i < l.length) : rdOf ByteArray.empty (l.map B) (i : Int) = B (l.getD i []) := by
  rw [rdOf_B _ _ (by simpa using h)]; simp [List.getD_eq_getElem?_getD, h]
theorem rd_mid (p : List (List Txt × List Txt)) (x : List Txt × List Txt) (r : List (List Txt × List Txt)) : rd_T50 ((p ++ x :: r).map toS) (p.length : Int) = toS x := by
  unfold rd_T50; simp [List.getD_eq_getElem?_getD]
theorem ref_get_row (p : List (List Txt × List Txt)) (x : List Txt × List Txt) (r : List (List Txt × List Txt)) (nm : Txt) (hx : x.1.length = x.2.length) (hm : x.1.length < 1000000000)
    (res : Txt) (hnext : Ev (fun k => bellowsref10_Get.l0 k ((p ++ x :: r).map toS) (B nm) (wrap64 ((p.length : Int) + 1))) (B res)) :
    ∀ (q : Nat), q ≤ x.1.length → Ev (fun k => bellowsref10_Get.l1 k ((p ++ x :: r).map toS) (B nm) (p.length : Int) ((q : Int) - 1)) (match lastOf x.1 x.2 nm q with | some t => B t | none => B res) := by
  intro q
  induction q with
  | zero =>
    intro _
    refine Ev.unroll (Ev.congr (fun k => ?_) hnext)
    rw [bellowsref10_Get.l1, if_neg (by omega)]
  | succ q ih =>
    intro hq
    have ih := ih (by omega)
    have e1 : ((q + 1 : Nat) : Int) - 1 = (q : Int) := by omega
    have e2 : wrap64 ((q : Int) - 1) = (q : Int) - 1 := wrap_id _ (by omega) (by omega)
    rw [e1]
    have l1 : (((toS x).f0).length : Int) = (x.1.length : Int) := by simp [toS]
    have l2 : (((toS x).f1).length : Int) = (x.1.length : Int) := by simp [toS, hx]
    have g1 : rdOf ByteArray.empty (toS x).f0 (q : Int) = B (x.1.getD q []) := rdOf_map _ _ (by omega)
    have g2 : rdOf ByteArray.empty (toS x).f1 (q : Int) = B (x.2.getD q []) := rdOf_map _ _ (by omega)
    have hpl : (p.length : Int) < (((p ++ x :: r).map toS).length : Int) := by simp; omega
    have step : ∀ k, bellowsref10_Get.l1 (k + 1) ((p ++ x :: r).map toS) (B nm) (p.length : Int) (q : Int) =
        if x.1.getD q [] = nm then some (B (x.2.getD q [])) else bellowsref10_Get.l1 k ((p ++ x :: r).map toS) (B nm) (p.length : Int) ((q : Int) - 1) := by
      intro k
      rw [bellowsref10_Get.l1, if_pos (by omega), if_pos (by omega), if_pos hpl, if_pos (by omega), rd_mid, l1, if_pos (by omega), g1, toList_B, toList_B, l2, g2, e2, if_pos (show (q : Int) < (x.1.length : Int) by omega)]
    refine Ev.unroll (Ev.congr step ?_)
    rw [lastOf]
    by_cases h : x.1.getD q [] = nm
    · simp only [h, if_true]; exact Ev.now _
    · simp only [h, if_false]; exact ih
theorem ref_get (nm : Txt) : ∀ (r p : List (List Txt × List Txt)), (∀ x ∈ r, x.1.length = x.2.length ∧ x.1.length < 1000000000) → (p ++ r).length < 1000000000 →
    Ev (fun k => bellowsref10_Get.l0 k ((p ++ r).map toS) (B nm) (p.length : Int)) (B (getR r nm)) := by
  intro r
  induction r with
  | nil =>
    intro p _ _
    refine Ev.unroll (Ev.some fun k => ?_)
    rw [bellowsref10_Get.l0, if_neg (by simp)]; rfl
  | cons x r ih =>
    intro p hx hp
    have ih := ih (p ++ [x]) (fun y hy => hx y (by simp [hy])) (by simpa using hp)
    rw [List.append_assoc, List.singleton_append, List.length_append, List.length_singleton] at ih
    obtain ⟨hx1, hx2⟩ := hx x (by simp)
    have hpl : p.length < 1000000000 := by simp at hp; omega
    have hrow := ref_get_row p x r nm hx1 hx2 (getR r nm) (by rw [wrap_succ _ (by omega)]; exact ih) x.1.length (Nat.le_refl _)
    refine Ev.unroll (Ev.congr (fun k => ?_) (Ev.eqn hrow ?_))
    · rw [bellowsref10_Get.l0, if_pos (by simp; omega), if_pos (by omega), rd_mid]
      congr 1
      rw [show (((toS x).f0).length : Int) = (x.1.length : Int) by simp [toS]]
      exact wrap_id _ (by omega) (by omega)
    · rw [getR]
      split <;> rfl
theorem ref_get_f (l : List (List Txt × List Txt)) (nm : Txt) (h : ∀ x ∈ l, x.1.length = x.2.length ∧ x.1.length < 1000000000) (hl : l.length < 1000000000) : Ev (fun k => bellowsref10_Get.f k (l.map toS) (B nm)) (B (getR l nm)) :=
  ref_get nm l [] h (by simpa using hl)

/-! What built keeps: the scopes' maps are the last texts of the rows. -/
theorem lastOf_app (ns ts : List Txt) (a b nm : Txt) (h : ns.length = ts.length) : ∀ k, k ≤ ns.length → lastOf (ns ++ [a]) (ts ++ [b]) nm k = lastOf ns ts nm k := by
  intro k
  induction k with
  | zero => intro _; rfl
  | succ k ih =>
    intro hk
    rw [lastOf, lastOf, ih (by omega)]
    simp only [List.getD_eq_getElem?_getD]
    rw [List.getElem?_append_left (by omega), List.getElem?_append_left (by omega)]
structure St.Inv (M : Nat) (st : St) : Prop where
  len : ∀ j, (st.ns j).length = (st.ts j).length
  few : ∀ j, (st.ns j).length ≤ M
  eq : ∀ j nm, st.m j nm = lastOf (st.ns j) (st.ts j) nm (st.ns j).length
theorem St.Inv.step {M : Nat} {st : St} (h : St.Inv M st) (s : SetT) : St.Inv (M + 1) (st.step s) := by
  unfold St.step
  split
  · refine ⟨fun j => ?_, fun j => ?_, fun j nm => ?_⟩
    · unfold St.put
      simp only
      by_cases hj : j = kOf s
      · subst hj; simp [h.len]
      · simp [hj, h.len]
    · unfold St.put
      simp only
      have h0 := h.few j
      by_cases hj : j = kOf s
      · subst hj; simpa using h0
      · simp [hj]; omega
    · unfold St.put
      simp only
      by_cases hj : j = kOf s
      · subst hj
        simp only [if_true, List.length_append, List.length_singleton]
        rw [lastOf, lastOf_app _ _ _ _ _ (h.len _) _ (Nat.le_refl _)]
        have e1 : (st.ns (kOf s) ++ [s.name]).getD (st.ns (kOf s)).length [] = s.name := by simp [List.getD_eq_getElem?_getD]
        have e2 : (st.ts (kOf s) ++ [s.text]).getD (st.ns (kOf s)).length [] = s.text := by rw [h.len]; simp [List.getD_eq_getElem?_getD]
        rw [e1, e2, upd, h.eq]
        by_cases hn : nm = s.name
        · subst hn; simp
        · rw [if_neg hn, if_neg (fun e => hn e.symm)]
      · simp [hj, h.eq]
  · exact ⟨h.len, fun j => Nat.le_succ_of_le (h.few j), h.eq⟩
theorem built_inv (l : List SetT) : St.Inv l.length (builtS l) := by
  have go : ∀ (l : List SetT) (M : Nat) (st : St), St.Inv M st → St.Inv (M + l.length) (l.foldl St.step st) := by
    intro l
    induction l with
    | nil => intro M st h; exact h
    | cons s l ih => intro M st h; rw [List.foldl_cons, List.length_cons, show M + (l.length + 1) = M + 1 + l.length by omega]; exact ih _ _ (h.step s)
  have := go l 0 St.init ⟨fun _ => rfl, fun _ => by simp [St.init], fun _ _ => rfl⟩
  rwa [Nat.zero_add] at this
def rowsS (st : St) : List (List Txt × List Txt) := [(st.ns 0, st.ts 0), (st.ns 1, st.ts 1), (st.ns 2, st.ts 2)]
theorem getR_rows {M : Nat} {st : St} (h : St.Inv M st) (S i : Nat) (nm : Txt) : getR (rowsS st) nm = getL (levs S i st) nm := by
  unfold rowsS levs
  simp only [getR, getL, ← h.eq]
  cases st.m 0 nm <;> cases st.m 1 nm <;> cases st.m 2 nm <;> rfl
theorem ref_get_built {M : Nat} {st : St} (h : St.Inv M st) (hM : M < 1000000000) (S i : Nat) (nm : Txt) : Ev (fun k => bellowsref10_Get.f k ((rowsS st).map toS) (B nm)) (B (getL (levs S i st) nm)) := by
  rw [← getR_rows h S i]
  refine ref_get_f _ _ (fun x hx => ?_) (by simp [rowsS])
  have h0 := h.few 0
  have h1 := h.few 1
  have h2 := h.few 2
  simp only [rowsS, List.mem_cons, List.not_mem_nil, or_false] at hx
  rcases hx with rfl | rfl | rfl
  · exact ⟨h.len _, by simp; omega⟩
  · exact ⟨h.len _, by simp; omega⟩
  · exact ⟨h.len _, by simp; omega⟩
end Go.Proofs.Ytlpjhpdgjeiioaa.Sc
