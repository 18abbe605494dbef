/- lex.Lines in the print's own shape; the world's cell that strings.Split reads. -/
import Derived.Test.YtahejhkphceajaaDoorLines
import Derived.Test.YtahejhkphceajaaDoorP0
set_option linter.unusedVariables false
namespace Go.Proofs.YtahejhkphceajaaDoor
open Go.RowKit
/-- The cell of internal/bytealg.MaxLen holds some number. -/
def MaxCell (w : World) : Prop := ∃ m, w.cell? ⟨0, 0, none⟩ = some (.int .i64 m)
theorem MaxCell.below {w w' : World} (h : MaxCell w) (hb : Below w.heap.size w w') : MaxCell w' := by
  obtain ⟨m, hm⟩ := h
  refine ⟨m, (hb.cell (p := ⟨0, 0, none⟩) ?_).trans hm⟩
  show 0 < w.heap.size
  rcases Nat.eq_zero_or_pos w.heap.size with h0 | h0
  · have : w.heap[0]? = none := by simp [h0]
    simp [World.cell?, this] at hm
  · exact h0
theorem MaxCell.of_shaped {w : World} (h : w.ShapedOpen Tryd.prog) : MaxCell w := Go.Proofs.cell_of_shapedOpen_int (zero := #[.int .i64 0]) (t := 3) h (of_decide_eq_true (by kernel_rfl)) (by kernel_rfl) rfl (by kernel_rfl) (by kernel_rfl) Tryd.underlying3
end Go.Proofs.YtahejhkphceajaaDoor
namespace Go.Proofs.YtahejhkphceajaaDoor.P
open Go.RowKit Go.Lib Go.Proofs.YtahejhkphceajaaDoorW.PrintWords Go.Proofs.YtahejhkphceajaaDoorW.PrintLast Go.Proofs.YtahejhkphceajaaDoorW.PrintMore Go.Proofs.YtahejhkphceajaaDoor.U
def lineS (o : Ln.LineT) : S35 := ⟨o.inner, B o.text, (o.num : Int)⟩
def lex_Lines.f (a0 : ByteArray) : Option (List S35 × Int × Int) := some ((Ln.linesL a0.data.toList).1.map lineS, ((Ln.linesL a0.data.toList).2.1 : Int), (Ln.linesL a0.data.toList).2.2)
theorem lines_R {w : World} {base : Nat} {v : Value} {l : List Ln.LineT} (h : w.ownsRow base 35 3 v l.length (l.flatMap Ln.lcells)) : Kd.R k35 35 w base (fun _ => True) v (l.map lineS) := by
  refine ⟨fun _ _ => trivial, l.flatMap Ln.lcells, ?_, ?_⟩
  · rw [List.length_map]; exact h
  · clear h
    refine ⟨?_, ?_⟩
    · show _ = _ * 3
      induction l with
      | nil => rfl
      | cons o l ih => simp [Ln.lcells] at ih ⊢; omega
    · intro j p hj
      show Kd.M k35 w base _ p (((l.flatMap Ln.lcells).drop (j * 3)).take 3)
      have : ((l.flatMap Ln.lcells).drop (j * 3)).take 3 = [.bool p.f0, .string p.f1, .int .i64 p.f2] := by
        induction l generalizing j with
        | nil => simp at hj
        | cons o l ih =>
          cases j with
          | zero => simp at hj; subst hj; simp [Ln.lcells, lineS]
          | succ j =>
            have h3 : (j + 1) * 3 = 3 + j * 3 := by omega
            rw [List.flatMap_cons, h3, ← List.drop_drop]
            exact ih j (by simpa using hj)
      rw [this]
      exact k35_mkM _ _ _ _
theorem lex_Lines.calls (a0 : ByteArray) (t0 : List S35) (t1 t2 : Int) (w : World) (hm : MaxCell w) (h : lex_Lines.f a0 = some (t0, t1, t2)) :
    Calls Tryd.prog 6 #[.string a0] w fun e w' => ∃ v0_ : Value, e = .returned (.tuple #[v0_, .int .i64 t1, .int .i64 t2]) ∧ Kd.R k35 35 w' w.heap.size (fun _ => True) v0_ t0 ∧ Below w.heap.size w w' := by
  obtain ⟨l, rfl⟩ := B_surj a0
  have h' := Option.some.inj h
  have e1 : (Ln.linesL l).1.map lineS = t0 := congrArg (·.1) h'
  have e2 : ((Ln.linesL l).2.1 : Int) = t1 := congrArg (·.2.1) h'
  have e3 : (Ln.linesL l).2.2 = t2 := congrArg (·.2.2) h'
  subst e1 e2 e3
  by_cases hl : l.length ≤ 16384
  · refine (Ln.Lines_any l hl w hm).mono ?_
    rintro e w' ⟨v, rfl, hb, ho⟩
    exact ⟨v, rfl, Kd.R_lower (lines_R ho) (Nat.le_succ _), hb⟩
  · have e0 : Ln.linesL l = ([], 0, 3) := by rw [Ln.linesL, if_pos (by omega)]
    refine (Ln.Lines_long l (by omega) w).mono ?_
    rintro e w' ⟨rfl, rfl⟩
    rw [e0]
    exact ⟨_, rfl, Kd.R_nil _ _ _ _ _, Below.refl _ _⟩
end Go.Proofs.YtahejhkphceajaaDoor.P
