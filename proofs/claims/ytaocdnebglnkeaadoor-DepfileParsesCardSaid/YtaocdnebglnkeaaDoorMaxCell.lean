/- The world's cell that strings.Index and its kin read: it holds some number. -/
import Derived.Test.YtaocdnebglnkeaaDoorShaped
import Derived.Test.YtaocdnebglnkeaaDoorShelf
import Derived.Below
set_option linter.unusedVariables false
namespace Go.Proofs.YtaocdnebglnkeaaDoor
open Go.RowKit
/-- The cell of internal/bytealg.MaxLen holds some number. -/
def MaxCell (w : World) : Prop := ∃ m, w.cell? ⟨0, 0, none⟩ = some (.int .i64 m)
theorem MaxCell.below {w w' : World} (h : MaxCell w) (hb : Below w.heap.size w w') : MaxCell w' := by
  obtain ⟨m, hm⟩ := h
  refine ⟨m, (hb.cell (p := ⟨0, 0, none⟩) ?_).trans hm⟩
  show 0 < w.heap.size
  rcases Nat.eq_zero_or_pos w.heap.size with h0 | h0
  · have : w.heap[0]? = none := by simp [h0]
    simp [World.cell?, this] at hm
  · exact h0
theorem MaxCell.of_shaped {w : World} (h : w.ShapedOpen Tryd.prog) : MaxCell w := Go.Proofs.cell_of_shapedOpen_int (zero := #[.int .i64 0]) (t := 3) h (of_decide_eq_true (by kernel_rfl)) (by kernel_rfl) rfl (by kernel_rfl) (by kernel_rfl) Tryd.underlying3
end Go.Proofs.YtaocdnebglnkeaaDoor
