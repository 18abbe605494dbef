/- strings.NewReplacer at the four pairs of scope.Escape. -/
import Derived.Test.YtlpjhpdgjeiioaaOnceDo
import Derived.Test.YtlpjhpdgjeiioaaRepF
import Derived.Test.YtlpjhpdgjeiioaaWWords
import Derived.OwnWalk
import Derived.Laws.AppendOwn
import Derived.Deep.AppendLies
set_option linter.unusedSimpArgs false
set_option linter.unusedVariables false
namespace Go.Proofs.Ytlpjhpdgjeiioaa.Rep
open Go.RowKit Go.Lib Go.Shelf Go.Proofs.YtlpjhpdgjeiioaaW.PrintWords Go.Proofs.Ytlpjhpdgjeiioaa.U
abbrev Txt := List UInt8
def pairs : List Txt := [[36], [36, 36], [32], [36, 32], [58], [36, 58], [124], [36, 124]]
theorem infoStr : (Try.prog.info? 9).map (fun i => (i.zero, i.size, i.bytes)) = some (some (.string ⟨#[]⟩), 1, 16) := by kernel_rfl
/-- The row of the pairs, in a block of its own. -/
def RowAt (w : World) (g : Nat) : Prop := ∃ cur, w.heap[g]? = some (.cells cur 9 (0, 0)) ∧ cur.toList.take 8 = pairs.map fun t => Value.string (B t)
theorem RowAt.same {w w' : World} {g : Nat} (h : RowAt w g) (e : w'.heap[g]? = w.heap[g]?) : RowAt w' g := by
  obtain ⟨cur, h1, h2⟩ := h
  exact ⟨cur, e.trans h1, h2⟩
theorem RowAt.lt {w : World} {g : Nat} (h : RowAt w g) : g < w.heap.size := by
  obtain ⟨cur, h1, h2⟩ := h
  exact (Array.getElem?_eq_some_iff.1 h1).1
theorem RowAt.cell {w : World} {g : Nat} (h : RowAt w g) (i : Nat) (hi : i < 8) : w.cell? ⟨g, i, none⟩ = some (.string (B (pairs.getD i []))) := by
  obtain ⟨cur, h1, h2⟩ := h
  rw [cell_of_heap h1]
  have h3 : (cur.toList.take 8)[i]? = some (.string (B (pairs.getD i []))) := by
    rw [h2, List.getElem?_map, List.getD_eq_getElem?_getD, List.getElem?_eq_getElem (show i < pairs.length from hi)]; rfl
  rw [List.getElem?_take_of_lt hi] at h3
  simpa using h3
theorem reps_str {R : ByteArray → List Value → Prop} (hR : ∀ x c, R x c → c = [Value.string x]) : ∀ (ps : List ByteArray) (cs : List Value), Reps R 1 ps cs → cs = ps.map Value.string := by
  intro ps cs h
  refine List.ext_getElem? fun j => ?_
  have hl := h.1
  rw [Nat.mul_one] at hl
  by_cases hj : j < ps.length
  · have h1 := hR _ _ (h.2 j _ (List.getElem?_eq_getElem hj))
    rw [Nat.mul_one] at h1
    have h2 : ((cs.drop j).take 1)[0]? = some (.string ps[j]) := by rw [h1]; rfl
    rw [List.getElem?_take_of_lt (by omega), List.getElem?_drop, Nat.add_zero] at h2
    rw [h2, List.getElem?_map, List.getElem?_eq_getElem hj]; rfl
  · rw [List.getElem?_eq_none (by omega), List.getElem?_eq_none (by simp; omega)]
/-- A Replacer that has not built yet. -/
structure Fresh (w : World) (b g q n : Nat) : Prop where
  blk : w.heap[b]? = some (.cells #[.int .u32 0, .int .i32 n, .int .u32 0, .nilIface, .slice (some ⟨g, 0, none⟩) 8 q] 90 (0, 0))
  row : RowAt w g
  ne : g ≠ b
def NewPost (w : World) (e : Ending) (w' : World) : Prop := ∃ b g q, e = .returned (.pointer (some ⟨b, 0, none⟩)) ∧ w.heap.size ≤ b ∧ Fresh w' b g q 0 ∧ Below w.heap.size w w'
set_option maxRecDepth 100000 in
set_option maxHeartbeats 4000000 in
theorem NewReplacer_any (A : Option Addr) (c : Nat) (w : World) (hC : Kd.C Kd.string w A 8 (pairs.map B)) :
    Calls Try.prog 31 #[.slice A 8 c] w (NewPost w) := by
  have hCH := Lib.hid hC
  clear hC
  go_enter Try.func31, Try.ntmps31
  go_wp2_with (at_builtin; refine Kd.R_append_row (w0 := w) Value.string ByteArray.empty (h1 := fun _ => rfl) w.heap.size rfl _ _ 48 9 (.string ⟨#[]⟩) 16 rfl Try.underlying48 infoStr rfl (by decide) _ [] (pairs.map B) A 8 c (fun _ => True) rfl rfl (fun _ _ => trivial) (Kd.R_nil _ _ _ _ _) hCH.out (Below.refl _ w) (Nat.le_refl _) (by decide) ?_)
  intro v1 w1 hR hb1 _ _
  have hR1 := hR
  obtain ⟨_, inner, hown, hreps⟩ := hR1
  have hin := reps_str (fun _ _ h => h) _ _ hreps
  rcases hown.2 with ⟨_, h0⟩ | ⟨g, cap, cur, rfl, hg, hh, _, _, _, htk⟩
  · exact absurd h0 (by simp [pairs])
  have hrow : Hid (RowAt w1 g) := ⟨cur, hh, by
    rw [hin] at htk
    exact htk⟩
  have hB1 := Lib.hid hb1
  have hG := Lib.hid hg
  clear hR hb1 hown hreps hin hh htk hg
  go_wp2_with fail
  go_ret
  have hsz := hB1.out.size
  have hgl := hrow.out.lt
  exact ⟨w1.heap.size, g, cap, rfl, hsz, ⟨heap_alloc_new w1 _, hrow.out.same (Below.heap_alloc _ _ _ hgl), by omega⟩, hB1.out.alloc hsz _⟩
end Go.Proofs.Ytlpjhpdgjeiioaa.Rep
