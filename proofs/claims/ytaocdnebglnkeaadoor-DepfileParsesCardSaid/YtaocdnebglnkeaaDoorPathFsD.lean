/- The printed functions about ways: Right. -/
import Derived.Test.YtaocdnebglnkeaaDoorPathTh
import Derived.Test.YtaocdnebglnkeaaDoorPPathRight0
set_option linter.unusedSimpArgs false
set_option linter.unusedVariables false
namespace Go.Proofs.YtaocdnebglnkeaaDoor.PTh
open Go.RowKit Go.Proofs.YtaocdnebglnkeaaDoorW.PrintWords Go.Proofs.YtaocdnebglnkeaaDoor.U Go.Proofs.YtaocdnebglnkeaaDoor.P Go.Proofs.YtaocdnebglnkeaaDoor.Rng

theorem Clean_f (l : List UInt8) : path_Clean.f (B l) = some (B (cleanL l).1, (cleanL l).2) := rfl
theorem Right_f (l : List UInt8) : path_Right.f (B l) = some (decide (cleanL l = (l, 0))) := by
  rw [path_Right.f, Clean_f, Option.bind_some]
  simp only [toList_B]
  by_cases h : (cleanL l).2 = 0
  · rw [if_pos h]
    congr 1
    rw [Bool.eq_iff_iff, beq_iff_eq, decide_eq_true_iff]
    exact ⟨fun e => Prod.ext e h, fun e => by rw [e]⟩
  · rw [if_neg h]
    congr 1
    symm
    rw [decide_eq_false_iff_not]
    intro e; rw [e] at h; exact h rfl
end Go.Proofs.YtaocdnebglnkeaaDoor.PTh
