/- sync.Once.Do, the first time. -/
import Derived.Test.YtlpjhpdgjeiioaaOnce
set_option linter.unusedVariables false
namespace Go.Proofs.Ytlpjhpdgjeiioaa.Rep
set_option maxRecDepth 100000 in
set_option maxHeartbeats 1600000 in
theorem do_any (b : Nat) (pl : Value) (R : World → Prop) (w : World)
    (h0 : w.cell? ⟨b, 0, none⟩ = some (.int .u32 0)) (h1 : w.cell? ⟨b, 1, none⟩ = some (.int .i32 0)) (f0 : w.frozen? ⟨b, 0, none⟩ = false) (f1 : w.frozen? ⟨b, 1, none⟩ = false)
    (hF : Calls Try.prog 39 #[pl] (w.setCell ⟨b, 1, none⟩ (.int .i32 1)) fun e W => e = .returned (.tuple #[]) ∧ R W ∧ Keeps b W) :
    Calls Try.prog 38 #[.pointer (some ⟨b, 0, none⟩), .func (.func 39) #[pl] #[]] w fun e w' => e = .returned (.tuple #[]) ∧
      ∃ W, R W ∧ Keeps b W ∧ w' = (W.drew.setCell ⟨b, 0, none⟩ (.int .u32 1)).setCell ⟨b, 1, none⟩ (.int .i32 0) := by
  have hnot : ∀ (x : Bool) (w : World), (Op.unary .not (.bool x)).run Try.prog w = .ok (.bool (!x)) w := fun _ _ => rfl
  go_enter Try.func38, Try.ntmps38
  go_wp2_with (first | (go_at_call 45; refine (slow_any b _ pl R w rfl h0 h1 f0 f1 hF).mono ?_; rintro e w' ⟨rfl, hW⟩) | (go_at_call 44; refine (load_zero ⟨b, 0, none⟩ _ h0).mono ?_; rintro e w' ⟨rfl, rfl⟩))
  go_end0
  exact ⟨rfl, hW⟩
end Go.Proofs.Ytlpjhpdgjeiioaa.Rep
