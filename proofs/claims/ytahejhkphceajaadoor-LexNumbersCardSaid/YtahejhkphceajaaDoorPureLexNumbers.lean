/- LexNumbers: lines that do not count are counted in the numbers of those behind them; for every row of numbers (of more than 50 the law says nothing). -/
import Derived.Test.YtahejhkphceajaaDoorLexLawD
import Derived.Test.YtahejhkphceajaaDoorLinesF
import Derived.Test.YtahejhkphceajaaDoorPBellowslaw09LexNumbers0
set_option linter.unusedSimpArgs false
set_option linter.unusedVariables false
namespace Go.Proofs.YtahejhkphceajaaDoor.Pure
open Go.RowKit Go.Proofs.YtahejhkphceajaaDoor.P Go.Proofs.YtahejhkphceajaaDoorW.PrintWords Go.Proofs.YtahejhkphceajaaDoorW.PrintLast Go.Proofs.YtahejhkphceajaaDoor.U Go.Proofs.YtahejhkphceajaaDoor.Lex Go.Proofs.YtahejhkphceajaaDoor.Ln

namespace LexNumbers
def piece : Nat → Txt
  | 0 => [10] | 1 => [35, 32, 97, 10] | 2 => [98, 10] | 3 => [32, 99, 32, 100, 10] | _ => [101, 32, 36, 10, 32, 102, 10]
def pl : Nat → List Txt
  | 0 => [[]] | 1 => [[35, 32, 97]] | 2 => [[98]] | 3 => [[32, 99, 32, 100]] | _ => [[101, 32, 36], [32, 102]]
def lineOf (c : Nat) : Nat → List LineT
  | 0 => [] | 1 => [] | 2 => [⟨false, [98], c + 1⟩] | 3 => [⟨true, [99, 32, 100], c + 1⟩] | _ => [⟨false, [101, 32, 102], c + 1⟩]
def cnt : Nat → Nat
  | 0 => 1 | 1 => 1 | 2 => 1 | 3 => 1 | _ => 2
theorem five {k : Nat} (h : k < 5) : k = 0 ∨ k = 1 ∨ k = 2 ∨ k = 3 ∨ k = 4 := by omega
theorem pl_len (k : Nat) (h : k < 5) : (pl k).length = cnt k := by rcases five h with rfl | rfl | rfl | rfl | rfl <;> rfl
theorem spl_piece (k : Nat) (h : k < 5) (tail : Txt) : spl 10 (piece k ++ tail) = pl k ++ spl 10 tail := by
  rcases five h with rfl | rfl | rfl | rfl | rfl
  · exact spl_at 10 [] tail (by decide)
  · exact spl_at 10 [35, 32, 97] tail (by decide)
  · exact spl_at 10 [98] tail (by decide)
  · exact spl_at 10 [32, 99, 32, 100] tail (by decide)
  · have e : piece 4 ++ tail = [101, 32, 36] ++ 10 :: ([32, 102] ++ 10 :: tail) := rfl
    rw [e, spl_at 10 [101, 32, 36] _ (by decide), spl_at 10 [32, 102] tail (by decide)]; rfl
theorem go_piece (k : Nat) (h : k < 5) (total c : Nat) (rest : List Txt) (out : List LineT) (hc : c + cnt k < total) :
    linesGo total (pl k ++ rest) c out none = linesGo total rest (c + cnt k) (out ++ lineOf c k) none := by
  rcases five h with rfl | rfl | rfl | rfl | rfl
  · show linesGo total ([] :: rest) c out none = linesGo total rest (c + 1) (out ++ []) none
    rw [linesGo, if_neg (by decide +kernel), if_pos ⟨rfl, by decide +kernel⟩, List.append_nil]
  · show linesGo total ([35, 32, 97] :: rest) c out none = linesGo total rest (c + 1) (out ++ []) none
    rw [linesGo, if_neg (by decide +kernel), if_pos ⟨rfl, by decide +kernel⟩, List.append_nil]
  · show linesGo total ([98] :: rest) c out none = linesGo total rest (c + 1) (out ++ [⟨false, [98], c + 1⟩]) none
    rw [linesGo, if_neg (by decide +kernel), if_neg (fun q => absurd q.2 (by decide +kernel)), if_neg (by decide +kernel)]
    have e : trimmedL [98] = [98] := by decide +kernel
    simp only [opened]
    rw [e]; rfl
  · show linesGo total ([32, 99, 32, 100] :: rest) c out none = linesGo total rest (c + 1) (out ++ [⟨true, [99, 32, 100], c + 1⟩]) none
    rw [linesGo, if_neg (by decide +kernel), if_neg (fun q => absurd q.2 (by decide +kernel)), if_neg (by decide +kernel)]
    have e : trimmedL [32, 99, 32, 100] = [99, 32, 100] := by decide +kernel
    simp only [opened]
    rw [e]; rfl
  · have hc' : c + 2 < total := hc
    show linesGo total ([101, 32, 36] :: [32, 102] :: rest) c out none = linesGo total rest (c + 2) (out ++ [⟨false, [101, 32, 102], c + 1⟩]) none
    rw [linesGo, if_neg (by decide +kernel), if_neg (fun q => absurd q.2 (by decide +kernel)), if_pos (by decide +kernel), if_neg (by omega)]
    rw [linesGo, if_neg (by decide +kernel), if_neg (fun q => by cases q.1), if_neg (by decide +kernel)]
    have e : trimmedL ([101, 32] ++ trimL 32 [32, 102]) = [101, 32, 102] := by decide +kernel
    have e2 : ([101, 32, 36] : Txt).dropLast = [101, 32] := rfl
    simp only [opened, e2]
    rw [e]; rfl
structure Inv (T : Txt) (out : List LineT) (c : Nat) : Prop where
  ex : ∃ ps : List Txt, ps.length = c ∧ (∀ tail, spl 10 (T ++ tail) = ps ++ spl 10 tail) ∧ ∀ total rest, c < total → linesGo total (ps ++ rest) 0 [] none = linesGo total rest c out none
theorem Inv.zero : Inv [] [] 0 := ⟨[], rfl, fun _ => rfl, fun _ _ _ => rfl⟩
theorem Inv.step {T : Txt} {out : List LineT} {c : Nat} (h : Inv T out c) (k : Nat) (hk : k < 5) : Inv (T ++ piece k) (out ++ lineOf c k) (c + cnt k) := by
  obtain ⟨ps, h1, h2, h3⟩ := h.ex
  refine ⟨ps ++ pl k, by rw [List.length_append, h1, pl_len k hk], fun tail => ?_, fun total rest hc => ?_⟩
  · rw [List.append_assoc, h2, spl_piece k hk, List.append_assoc]
  · have : 0 < cnt k := by rcases five hk with rfl | rfl | rfl | rfl | rfl <;> decide
    rw [List.append_assoc, h3 total _ (by omega), go_piece k hk total c rest out hc]
theorem Inv.lines {T : Txt} {out : List LineT} {c : Nat} (h : Inv T out c) (tail : Txt) (hl : (T ++ tail).length ≤ 16384) (hn : (10 : UInt8) ∉ tail) : linesL (T ++ tail) = resL (linesGo (c + 1) [tail] c out none) := by
  obtain ⟨ps, h1, h2, h3⟩ := h.ex
  rw [linesL, if_neg (by omega), h2, spl_none 10 tail hn]
  have : (ps ++ [tail]).length = c + 1 := by simp [h1]
  rw [this, h3 _ _ (by omega)]
theorem Inv.all {T : Txt} {out : List LineT} {c : Nat} (h : Inv T out c) (hl : T.length ≤ 16000) :
    linesL T = (out, 0, 0) ∧ linesL (T ++ [103, 32, 36]) = ([], c + 1, 10) ∧ linesL (T ++ [9]) = ([], c + 1, 10) := by
  refine ⟨?_, ?_, ?_⟩
  · have := h.lines [] (by simp; omega) (by decide)
    rw [List.append_nil] at this
    rw [this, linesGo, if_neg (by decide +kernel), if_pos ⟨rfl, by decide +kernel⟩]; rfl
  · rw [h.lines _ (by simp; omega) (by decide), linesGo, if_neg (by decide +kernel), if_neg (fun q => absurd q.2 (by decide +kernel)), if_pos (by decide +kernel), if_pos rfl]; rfl
  · rw [h.lines _ (by simp; omega) (by decide), linesGo, if_pos (by decide +kernel)]; rfl
def nums (out : List LineT) : List Int := out.map fun o => (o.num : Int)
theorem loop1 {T : Txt} {out : List LineT} {c : Nat} (h : Inv T out c) (hl : T.length ≤ 16000) (ho : out.length ≤ 1000) (d : Nat) : ∀ i : Nat, i + d = out.length →
    Ev (fun k => bellowslaw09_LexNumbers.l1 k (B T) (nums out) ((c + 1 : Nat) : Int) (out.map lineS) (i : Int)) true := by
  obtain ⟨a1, a2, a3⟩ := h.all hl
  induction d with
  | zero =>
    intro i hi
    refine Ev.unroll ?_
    have h1 : ¬ (i : Int) < ((nums out).length : Int) := by simp [nums]; omega
    have h2 : (B T).size + 3 ≤ 9223372036854775807 := by rw [size_B]; omega
    have h3 : (B T).size + 1 ≤ 9223372036854775807 := by rw [size_B]; omega
    have e1 : B T ++ (⟨#[103, 32, 36]⟩ : ByteArray) = B (T ++ [103, 32, 36]) := B_append T [103, 32, 36]
    have e2 : B T ++ (⟨#[9]⟩ : ByteArray) = B (T ++ [9]) := B_append T [9]
    simp only [bellowslaw09_LexNumbers.l1, if_neg h1, if_pos h2, if_pos h3, e1, e2, lex_Lines.f, Option.bind_some]
    rw [a2, a3]
    simp only [if_true]
    exact Ev.bind awake_true (Ev.now _)
  | succ d ih =>
    intro i hi
    refine Ev.unroll ?_
    have hlt : i < out.length := by omega
    have h1 : (i : Int) < ((nums out).length : Int) := by simp [nums]; omega
    have h2 : (0 : Int) ≤ (i : Int) := by omega
    have h3 : (i : Int) < ((out.map lineS).length : Int) := by simp; omega
    have hr := ih (i + 1) (by omega)
    have hw := wrap_succ i (by omega)
    have h4 : (rd_T35 (out.map lineS) (i : Int)).f2 = rd (nums out) (i : Int) := by
      simp [rd_T35, rd, nums, lineS, hlt]
    simp only [bellowslaw09_LexNumbers.l1, if_pos h1, if_pos h2, if_pos h3, if_pos h4, hw]
    exact hr
theorem loop0 (x0 : List Int) (hx : x0.length ≤ 50) (hwf : ∀ x ∈ x0, 0 ≤ x ∧ x ≤ 255) (d : Nat) : ∀ (i : Nat) (T : Txt) (out : List LineT) (c : Nat), i + d = x0.length → Inv T out c → T.length ≤ 7 * i → out.length ≤ i → c ≤ 2 * i →
    Ev (fun k => bellowslaw09_LexNumbers.l0 k x0 (B T) (nums out) ((c + 1 : Nat) : Int) (i : Int)) true := by
  induction d with
  | zero =>
    intro i T out c hi h hT ho hc
    refine Ev.unroll ?_
    have h1 : ¬ (i : Int) < (x0.length : Int) := by omega
    obtain ⟨a1, _, _⟩ := h.all (by omega)
    simp only [bellowslaw09_LexNumbers.l0, if_neg h1, lex_Lines.f, Option.bind_some]
    rw [a1]
    have h5 : (((out.map lineS).length : Int) != ((nums out).length : Int)) = false := by simp [nums]
    simp only [if_true, h5]
    refine Ev.unroll ?_
    simp only [bellowslaw09_LexNumbers.j1, Bool.false_eq_true, if_false]
    exact loop1 h (by omega) (by omega) _ 0 (Nat.zero_add _)
  | succ d ih =>
    intro i T out c hi h hT ho hc
    refine Ev.unroll ?_
    have hlt : i < x0.length := by omega
    have h1 : (i : Int) < (x0.length : Int) := by omega
    have h2 : (0 : Int) ≤ (i : Int) := by omega
    have hw := wrap_succ i (by omega)
    have w1 := wrap_succ (c + 1) (by omega)
    have w2 := wrap_succ (c + 1 + 1) (by omega)
    obtain ⟨k, hk, hv⟩ : ∃ k : Nat, k < 5 ∧ Int.tmod (wrap64 (rd x0 (i : Int))) 5 = (k : Int) := by
      have hb := hwf x0[i] (List.getElem_mem hlt)
      have e : rd x0 (i : Int) = x0[i] := by simp [rd, hlt]
      rw [e, wrap_id _ (by omega) (by omega)]
      have t1 := Int.tmod_nonneg 5 hb.1
      have t2 := Int.tmod_lt_of_pos x0[i] (show (0 : Int) < 5 by decide)
      exact ⟨(Int.tmod x0[i] 5).toNat, by omega, by omega⟩
    have hr := ih (i + 1) (T ++ piece k) (out ++ lineOf c k) (c + cnt k) (by omega) (h.step k hk)
      (by have : (piece k).length ≤ 7 := by rcases five hk with rfl | rfl | rfl | rfl | rfl <;> decide
          rw [List.length_append]; omega)
      (by have : (lineOf c k).length ≤ 1 := by rcases five hk with rfl | rfl | rfl | rfl | rfl <;> simp [lineOf]
          rw [List.length_append]; omega)
      (by have : cnt k ≤ 2 := by rcases five hk with rfl | rfl | rfl | rfl | rfl <;> decide
          omega)
    have hk0 : (0 : Int) ≤ (k : Int) := by omega
    have hk5 : (k : Int) < (([(⟨#[10]⟩ : ByteArray), (⟨#[35, 32, 97, 10]⟩ : ByteArray), (⟨#[98, 10]⟩ : ByteArray), (⟨#[32, 99, 32, 100, 10]⟩ : ByteArray), (⟨#[101, 32, 36, 10, 32, 102, 10]⟩ : ByteArray)] : List ByteArray).length : Int) := by
      show (k : Int) < 5; omega
    have hp : rdOf ByteArray.empty ([(⟨#[10]⟩ : ByteArray), (⟨#[35, 32, 97, 10]⟩ : ByteArray), (⟨#[98, 10]⟩ : ByteArray), (⟨#[32, 99, 32, 100, 10]⟩ : ByteArray), (⟨#[101, 32, 36, 10, 32, 102, 10]⟩ : ByteArray)] : List ByteArray) (k : Int) = B (piece k) := by
      rcases five hk with rfl | rfl | rfl | rfl | rfl <;> rfl
    have hpl : (piece k).length ≤ 7 := by rcases five hk with rfl | rfl | rfl | rfl | rfl <;> decide
    have h6 : (B T).size + (B (piece k)).size ≤ 9223372036854775807 := by rw [size_B, size_B]; omega
    have h7 : (nums out).length < 17592186044416 := by simp [nums]; omega
    have hn1 : nums (out ++ lineOf c k) = if (k : Int) ≥ 2 then nums out ++ [((c + 1 : Nat) : Int)] else nums out := by
      rcases five hk with rfl | rfl | rfl | rfl | rfl <;> simp [nums, lineOf]
    rw [hn1] at hr
    simp only [bellowslaw09_LexNumbers.l0, if_pos h1, if_pos h2, hv, Option.bind_some, if_pos hk0, if_pos hk5, hp, if_pos h6, if_pos h7, hw, B_append, w1, w2]
    rcases five hk with rfl | rfl | rfl | rfl | rfl <;> exact hr
end LexNumbers
open LexNumbers in
theorem LexNumbers : bellowslaw09_LexNumbers.Pure := by
  intro l0 _ _ hwf
  refine Ev.rounds ?_
  by_cases h : (l0.length : Int) > 50
  · simp only [bellowslaw09_LexNumbers.f, if_pos h]; exact Ev.now _
  · simp only [bellowslaw09_LexNumbers.f, if_neg h]
    exact loop0 l0 (by omega) (fun x hx => by have := hwf x hx; simp [Lit.wf] at this; exact ⟨this.1, this.2⟩) _ 0 [] [] 0 (Nat.zero_add _) Inv.zero (by simp) (by simp) (by simp)
end Go.Proofs.YtahejhkphceajaaDoor.Pure
