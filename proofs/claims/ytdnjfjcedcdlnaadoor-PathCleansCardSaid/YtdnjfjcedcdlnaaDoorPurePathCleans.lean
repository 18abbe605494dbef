/- PathCleans: Clean and Right tell what the references tell. -/
import Derived.Test.YtdnjfjcedcdlnaaDoorPathRef
import Derived.Test.YtdnjfjcedcdlnaaDoorPBellowslaw03PathCleans0
set_option linter.unusedSimpArgs false
set_option linter.unusedVariables false
namespace Go.Proofs.YtdnjfjcedcdlnaaDoor.Pure
open Go.RowKit Go.Proofs.YtdnjfjcedcdlnaaDoor.P Go.Proofs.YtdnjfjcedcdlnaaDoorW.PrintWords Go.Proofs.YtdnjfjcedcdlnaaDoorW.PrintLast Go.Proofs.YtdnjfjcedcdlnaaDoor.U Go.Proofs.YtdnjfjcedcdlnaaDoor.PTh Go.Proofs.YtdnjfjcedcdlnaaDoor.Rng

theorem PathCleans : bellowslaw03_PathCleans.Pure := by
  intro a0 _
  obtain ⟨s, rfl⟩ := B_surj a0
  refine Ev.rounds ?_
  by_cases h : ((B s).size : Int) > 1100
  · simp only [bellowslaw03_PathCleans.f, if_pos h]; exact Ev.now _
  · simp only [bellowslaw03_PathCleans.f, if_neg h, Clean_f, Option.bind_some]
    refine Ev.bind (ref_Clean s) ?_
    simp only [if_true, Right_f, Option.bind_some]
    refine Ev.bind (ref_Right s) ?_
    simp only [BEq.rfl, if_true, awake_f, Option.bind_some]
    exact Ev.now _
end Go.Proofs.YtdnjfjcedcdlnaaDoor.Pure
