/- DepfilePrints: the text of any output and names that are paths, or that one is none; for every text and names (of an output of more than 200 bytes, of more than 50 names, of a name of more than 200 bytes the law says nothing). -/
import Derived.Test.YtaocdnebglnkeaaDoorDepLaw
import Derived.Test.YtaocdnebglnkeaaDoorPathRefD
import Derived.Test.YtaocdnebglnkeaaDoorDepPrint
import Derived.Test.YtaocdnebglnkeaaDoorPBellowslaw14DepfilePrints0
set_option linter.unusedSimpArgs false
set_option linter.unusedVariables false
namespace Go.Proofs.YtaocdnebglnkeaaDoor.Pure
open Go.RowKit Go.Lib Go.Proofs.YtaocdnebglnkeaaDoor.P Go.Proofs.YtaocdnebglnkeaaDoorW.PrintWords Go.Proofs.YtaocdnebglnkeaaDoorW.PrintLast Go.Proofs.YtaocdnebglnkeaaDoor.U Go.Proofs.YtaocdnebglnkeaaDoor.Dp Go.Proofs.YtaocdnebglnkeaaDoor.PTh

namespace DepfilePrints
theorem joinS_flat (xs : List (List UInt8)) : ∀ p, joinS (p :: xs) = p ++ xs.flatMap (fun x => 32 :: x) := by
  induction xs with
  | nil => intro p; simp [joinS, List.intercalate]
  | cons x xs ih =>
    intro p
    have := ih x
    simp only [joinS, List.intercalate] at this ⊢
    simp [List.intersperse] at this ⊢
    cases xs with
    | nil => simp
    | cons y ys => simp at this ⊢; exact this
def tail (xs : List (List UInt8)) : List UInt8 := xs.flatMap (fun x => 32 :: x)
theorem tail_len (xs : List (List UInt8)) (h : ∀ x ∈ xs, x.length ≤ 200) : (tail xs).length ≤ 201 * xs.length := by
  induction xs with
  | nil => simp [tail]
  | cons x xs ih =>
    have h1 := h x (by simp)
    have h2 := ih (fun y hy => h y (by simp [hy]))
    simp only [tail, List.flatMap_cons, List.length_append, List.length_cons] at h2 ⊢
    omega
theorem ref_loop (xs : List (List UInt8)) (hn : xs.length ≤ 1000) (hs : ∀ x ∈ xs, x.length ≤ 200) (out : List UInt8) (ho : out.length ≤ 1000) (d : Nat) : ∀ i : Nat, i + d = xs.length →
    Ev (fun k => bellowsref14_Print.l0 k (xs.map B) (B (out ++ tail (xs.take i))) (i : Int)) (B (out ++ tail xs ++ [10])) := by
  have hlen : ∀ i, (tail (xs.take i)).length ≤ 201000 := fun i => by
    have h1 := tail_len (xs.take i) (fun x hx => hs x (List.mem_of_mem_take hx))
    have h2 : (xs.take i).length ≤ xs.length := by rw [List.length_take]; omega
    omega
  induction d with
  | zero =>
    intro i hi
    refine Ev.unroll ?_
    have h1 : ¬ (i : Int) < ((xs.map B).length : Int) := by rw [List.length_map]; omega
    have e : xs.take i = xs := List.take_of_length_le (by omega)
    have hl := hlen i
    rw [e] at hl
    have h2 : (B (out ++ tail xs)).size + 1 ≤ 9223372036854775807 := by rw [size_B, List.length_append]; omega
    simp only [bellowsref14_Print.l0, if_neg h1, e, if_pos h2]
    rw [show B (out ++ tail xs) ++ (⟨#[10]⟩ : ByteArray) = B (out ++ tail xs ++ [10]) from B_append _ [10]]
    exact Ev.now _
  | succ d ih =>
    intro i hi
    refine Ev.unroll ?_
    have hlt : i < xs.length := by omega
    have h1 : (i : Int) < ((xs.map B).length : Int) := by rw [List.length_map]; omega
    have h2 : (0 : Int) ≤ (i : Int) := by omega
    have hw := wrap_succ i (by omega)
    have hr := ih (i + 1) (by omega)
    have hrd : rdOf ByteArray.empty (xs.map B) (i : Int) = B xs[i] := by rw [rdOf_B _ _ (by simpa using hlt)]; simp
    have hx := hs xs[i] (List.getElem_mem hlt)
    have hl := hlen i
    have e0 : (⟨#[32]⟩ : ByteArray) ++ B xs[i] = B (32 :: xs[i]) := B_append [32] _
    have h3 : 1 + (B xs[i]).size ≤ 9223372036854775807 := by rw [size_B]; omega
    have h4 : (B (out ++ tail (xs.take i))).size + (B (32 :: xs[i])).size ≤ 9223372036854775807 := by rw [size_B, size_B, List.length_append, List.length_cons]; omega
    have e1 : out ++ tail (xs.take i) ++ (32 :: xs[i]) = out ++ tail (xs.take (i + 1)) := by
      rw [List.take_succ_eq_append_getElem hlt]
      simp only [tail, List.flatMap_append, List.flatMap_cons, List.flatMap_nil, List.append_nil, List.append_assoc]
    simp only [bellowsref14_Print.l0, if_pos h1, if_pos h2, hrd, if_pos h3, e0, if_pos h4, B_append, e1, hw]
    exact hr
theorem ref_print (out : List UInt8) (xs : List (List UInt8)) (ho : out.length ≤ 200) (hn : xs.length ≤ 1000) (hs : ∀ x ∈ xs, x.length ≤ 200) :
    Ev (fun k => bellowsref14_Print.f k (B out) (xs.map B)) (B (joinS ((out ++ [58]) :: xs) ++ [10])) := by
  have h1 : (B out).size + 1 ≤ 9223372036854775807 := by rw [size_B]; omega
  have e : B out ++ (⟨#[58]⟩ : ByteArray) = B (out ++ [58]) := B_append _ [58]
  simp only [bellowsref14_Print.f, if_pos h1, e]
  have := ref_loop xs hn hs (out ++ [58]) (by rw [List.length_append, List.length_singleton]; omega) xs.length 0 (Nat.zero_add _)
  rw [joinS_flat]
  simpa [tail] using this
theorem print_f (out : List UInt8) (xs : List (List UInt8)) (hn : xs.length ≤ 1000) : depfile_Print.f (B out) (xs.map B) = some (B (printL out xs).1, (printL out xs).2) := by
  unfold depfile_Print.f
  rw [List.length_map, if_pos hn]
  have e : ((xs.map B).map fun x => x.data.toList) = xs := by simp [Function.comp_def]
  rw [e]
theorem loop (out : List UInt8) (ho : out.length ≤ 200) (xs : List (List UInt8)) (hn : xs.length ≤ 50) (d : Nat) : ∀ i : Nat, i + d = xs.length → (∀ x ∈ xs.take i, x.length ≤ 200) →
    Ev (fun k => bellowslaw14_DepfilePrints.l0 k (B out) (xs.map B) (rightL out && (xs.take i).all rightL) (i : Int)) true := by
  induction d with
  | zero =>
    intro i hi hs
    refine Ev.unroll ?_
    have h1 : ¬ (i : Int) < ((xs.map B).length : Int) := by rw [List.length_map]; omega
    have e : xs.take i = xs := List.take_of_length_le (by omega)
    rw [e] at hs
    have h2 : ([] : List ByteArray).length + (xs.map B).length < 8796093022208 := by rw [List.length_map, List.length_nil]; omega
    have hR := ref_print out xs ho (by omega) hs
    simp only [bellowslaw14_DepfilePrints.l0, if_neg h1, e, Option.bind_some, if_pos h2, List.nil_append, print_f out xs (by omega), toList_B]
    have hall : (rightL out && xs.all rightL) = (out :: xs).all rightL := by simp
    rw [hall, printL]
    cases hq : (out :: xs).all rightL with
    | true =>
      simp only [if_true]
      refine Ev.bind hR ?_
      simp only [toList_B, if_true]
      exact Ev.bind awake_true (Ev.now _)
    | false =>
      simp only [Bool.false_eq_true, if_false, if_true]
      exact Ev.bind awake_true (Ev.now _)
  | succ d ih =>
    intro i hi hs
    refine Ev.unroll ?_
    have hlt : i < xs.length := by omega
    have h1 : (i : Int) < ((xs.map B).length : Int) := by rw [List.length_map]; omega
    have h2 : (0 : Int) ≤ (i : Int) := by omega
    have hw := wrap_succ i (by omega)
    have hrd : rdOf ByteArray.empty (xs.map B) (i : Int) = B xs[i] := by rw [rdOf_B _ _ (by simpa using hlt)]; simp
    have ht := List.take_succ_eq_append_getElem hlt
    simp only [bellowslaw14_DepfilePrints.l0, if_pos h1, if_pos h2, hrd, hw]
    by_cases hx : ((B xs[i]).size : Int) > 200
    · simp only [if_pos hx]; exact Ev.now _
    · have hxl : xs[i].length ≤ 200 := by rw [size_B] at hx; omega
      have hr := ih (i + 1) (by omega) (fun x hx' => by
        rw [ht] at hx'
        rcases List.mem_append.1 hx' with hx' | hx'
        · exact hs x hx'
        · rw [List.mem_singleton.1 hx']; exact hxl)
      simp only [if_neg hx]
      have e2 : (rightL out && (xs.take (i + 1)).all rightL) = ((rightL out && (xs.take i).all rightL) && rightL xs[i]) := by
        rw [ht, List.all_append]; simp [Bool.and_assoc]
      rw [e2] at hr
      cases hq : (rightL out && (xs.take i).all rightL) with
      | true =>
        rw [hq, Bool.true_and] at hr
        simp only [if_true]
        exact Ev.bind (ref_Right xs[i]) hr
      | false =>
        rw [hq, Bool.false_and] at hr
        simp only [Bool.false_eq_true, if_false]
        exact hr
theorem pure (out : List UInt8) (xs : List (List UInt8)) : ∃ k, bellowslaw14_DepfilePrints.f k (B out) (xs.map B) = some true := by
  refine Ev.rounds ?_
  by_cases ho : ((B out).size : Int) > 200
  · simp only [bellowslaw14_DepfilePrints.f, if_pos ho]
    refine Ev.unroll ?_
    simp only [bellowslaw14_DepfilePrints.j0, if_true]
    exact Ev.now _
  · have hol : out.length ≤ 200 := by rw [size_B] at ho; omega
    simp only [bellowslaw14_DepfilePrints.f, if_neg ho]
    refine Ev.unroll ?_
    by_cases hn : ((xs.map B).length : Int) > 50
    · simp only [bellowslaw14_DepfilePrints.j0, decide_eq_true hn, if_true]
      exact Ev.now _
    · simp only [bellowslaw14_DepfilePrints.j0, decide_eq_false hn, Bool.false_eq_true, if_false]
      refine Ev.bind (ref_Right out) ?_
      have := loop out hol xs (by rw [List.length_map] at hn; omega) xs.length 0 (Nat.zero_add _) (by simp)
      simpa [rightL] using this
end DepfilePrints
theorem DepfilePrints_walk (a0 : ByteArray) (A1 : Option Addr) (len1 c1 : Nat) (l1 : List ByteArray) (w : World) (hm : MaxCell w) (h0 : a0.size ≤ 140737488351232) (h1 : l1.length = len1 ∧ len1 ≤ c1 ∧ Kd.C Kd.string w A1 l1.length l1) :
    Calls Tryd.prog 5 #[.string a0, .slice A1 len1 c1] w fun e w' => e = .returned (.bool true) ∧ Below w.heap.size w w' := by
  obtain ⟨rfl, hc, hC⟩ := h1
  obtain ⟨out, rfl⟩ := B_surj a0
  have em : (l1.map fun x => x.data.toList).map B = l1 := by
    rw [List.map_map]
    conv => rhs; rw [← List.map_id l1]
    exact List.map_congr_left fun x _ => (B_of x).symm
  obtain ⟨k, hk⟩ := DepfilePrints.pure out (l1.map fun x => x.data.toList)
  rw [em] at hk
  exact bellowslaw14_DepfilePrints.calls k (B out) A1 c1 l1 true w hm hC hc hk
end Go.Proofs.YtaocdnebglnkeaaDoor.Pure
