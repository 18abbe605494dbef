/- PathAgain: a cleaned way cleans to itself, is right, and its dir and base join to it. -/
import Derived.Test.YtdnjfjcedcdlnaaDoorPathFs
import Derived.Test.YtdnjfjcedcdlnaaDoorPBellowslaw03PathAgain0
set_option linter.unusedSimpArgs false
set_option linter.unusedVariables false
namespace Go.Proofs.YtdnjfjcedcdlnaaDoor.Pure
open Go.RowKit Go.Proofs.YtdnjfjcedcdlnaaDoor.P Go.Proofs.YtdnjfjcedcdlnaaDoorW.PrintWords Go.Proofs.YtdnjfjcedcdlnaaDoorW.PrintLast Go.Proofs.YtdnjfjcedcdlnaaDoor.U Go.Proofs.YtdnjfjcedcdlnaaDoor.PTh Go.Proofs.YtdnjfjcedcdlnaaDoor.Rng

theorem PathAgain : bellowslaw03_PathAgain.Pure := by
  intro a0 _
  obtain ⟨s, rfl⟩ := B_surj a0
  refine Ev.rounds ?_
  by_cases h : ((B s).size : Int) > 300
  · simp only [bellowslaw03_PathAgain.f, if_pos h]; exact Ev.now _
  · simp only [bellowslaw03_PathAgain.f, if_neg h, Clean_f, Option.bind_some]
    cases hc : cleanL s with
    | mk c e =>
    simp only
    by_cases he : e = 0
    · subst he
      obtain ⟨ps, hi⟩ := clean_is hc
      have hl := hi.len
      have hag := hi.again
      simp only [if_true, hag]
      rcases last_cases c with hn | ⟨d, b, hdb, hb⟩
      · refine Ev.bind (dir_none c (by omega) hn) ?_
        refine Ev.bind (base_none c (by omega) hn) ?_
        simp only [Join_f [] c (by rw [List.length_nil]; omega), if_true, hag, Option.bind_some, Right_f, decide_true, awake_f]
        exact Ev.now _
      · have hd : d ≠ [] := by
          rintro rfl
          exact hi.head (by rw [hdb]; rfl)
        have hlen : d.length + b.length < 1000000 := by
          have : c.length = d.length + (b.length + 1) := by rw [hdb]; simp
          omega
        have q1 := dir_some d b (by rw [← hdb]; omega) hb
        have q2 := base_some d b (by rw [← hdb]; omega) hb
        rw [← hdb] at q1 q2
        refine Ev.bind q1 ?_
        refine Ev.bind q2 ?_
        simp only [Join_f d b hlen, if_neg hd, ← hdb, if_true, hag, Option.bind_some, Right_f, decide_true, awake_f]
        exact Ev.now _
    · have hc0 := clean_err hc he
      subst hc0
      have hr : decide (cleanL s = (s, 0)) = false := by
        rw [decide_eq_false_iff_not, hc]
        intro e'; exact he (congrArg Prod.snd e')
      simp only [if_neg he, toList_B, if_true, Right_f, hr, Option.bind_some, Bool.false_eq_true, if_false, awake_f]
      exact Ev.now _
end Go.Proofs.YtdnjfjcedcdlnaaDoor.Pure
