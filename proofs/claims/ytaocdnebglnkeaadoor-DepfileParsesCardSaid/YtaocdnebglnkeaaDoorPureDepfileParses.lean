/- DepfileParses: what depfile.Parse tells is what the document's Parse tells; for every text (of more than 3000 bytes the law says nothing). -/
import Derived.Test.YtaocdnebglnkeaaDoorDepRefP
import Derived.Test.YtaocdnebglnkeaaDoorPBellowslaw14DepfileParses0
set_option linter.unusedSimpArgs false
set_option linter.unusedVariables false
namespace Go.Proofs.YtaocdnebglnkeaaDoor.Pure
open Go.RowKit Go.Lib Go.Proofs.YtaocdnebglnkeaaDoor.P Go.Proofs.YtaocdnebglnkeaaDoorW.PrintWords Go.Proofs.YtaocdnebglnkeaaDoorW.PrintLast Go.Proofs.YtaocdnebglnkeaaDoor.U Go.Proofs.YtaocdnebglnkeaaDoor.Dp

theorem deps_few (L : List Txt) : ∀ acc ds, depsF L acc = some ds → ds.length ≤ acc.length + L.length := by
  induction L with
  | nil => intro acc ds h; rw [depsF] at h; cases h; simp
  | cons p L ih =>
    intro acc ds h
    rw [depsF] at h
    split at h
    · cases h
    · split at h
      · have := ih _ _ h; simp; omega
      · have := ih _ _ h; simp at this ⊢; omega
theorem parse_few (text : Txt) : (parseL text).2.1.length ≤ text.length + 1 := by
  unfold parseL
  split
  · simp
  · split
    · split
      · simp
      · cases hd : depsF (restL (lineL text).1) [] with
        | none => simp [ansL]
        | some ds =>
          have h1 := deps_few _ _ _ hd
          have h2 := Fld.fieldsGo_len (cut (lineL text).1 [58]).2.1 []
          have h3 := (cut_len (lineL text).1).2
          have h4 := lineL_len text
          have h5 : (restL (lineL text).1).length ≤ (cut (lineL text).1 [58]).2.1.length + 1 := h2
          show ds.length ≤ _
          simp at h1
          omega
    · simp
theorem ref_f (l : List UInt8) : bellowsref14_Parse.f (B l) = some (B (refL l).1, (refL l).2.1.map B, (refL l).2.2) := rfl
theorem DepfileParses : bellowslaw14_DepfileParses.Pure := by
  intro a0 _
  obtain ⟨l, rfl⟩ := B_surj a0
  refine Ev.rounds (g := fun k => bellowslaw14_DepfileParses.f k (B l)) ?_
  by_cases h : 3000 < l.length
  · refine Ev.some fun k => ?_
    rw [bellowslaw14_DepfileParses.f, size_B, if_pos (by omega)]
  · obtain ⟨h1, h2⟩ := ref_same l
    have hf := parse_few l
    have hn : ((parseL l).2.1.map B).length < 100000 := by rw [List.length_map]; omega
    have e1 := parse_f l
    have e2 := ref_f l
    rw [h1] at e2
    generalize parseL l = pr at *
    obtain ⟨o, ds, e⟩ := pr
    simp only at e1 e2 h2 hn
    have hns := names_self (ds.map B) hn
    have hc : ((e == 0) == decide (e = 0)) = true := by rcases h2 with h | h <;> subst h <;> rfl
    have e3 : (fun k => bellowslaw14_DepfileParses.f k (B l)) = fun k => (bellowsref11_Names.f k (ds.map B) (ds.map B)).bind fun t => if t = true then (if decide (e = 0) = true then (bellowslaw14_awake.f k).bind fun t => some t else if e = 14 then (bellowslaw14_awake.f k).bind fun t => some t else some false) else some false := by
      funext k
      rw [bellowslaw14_DepfileParses.f, size_B, if_neg (by omega), e1, e2]
      simp only [Option.bind_some, if_true, hc]
    rw [e3]
    refine Ev.bind hns ?_
    simp only [if_true]
    rcases h2 with h | h
    · subst h
      simp only [decide_true, if_true]
      exact Ev.bind awake_true (Ev.now _)
    · subst h
      have : decide ((14 : Int) = 0) = false := by decide
      simp only [this, Bool.false_eq_true, if_false, if_true]
      exact Ev.bind awake_true (Ev.now _)
end Go.Proofs.YtaocdnebglnkeaaDoor.Pure
