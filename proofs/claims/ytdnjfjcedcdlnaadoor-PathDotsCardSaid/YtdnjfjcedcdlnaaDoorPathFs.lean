/- The printed functions about ways: awake, Right, Join, cut, Dir, Base. -/
import Derived.Test.YtdnjfjcedcdlnaaDoorPathTh
import Derived.Test.YtdnjfjcedcdlnaaDoorPPathRight0
import Derived.Test.YtdnjfjcedcdlnaaDoorPPathJoin0
import Derived.Test.YtdnjfjcedcdlnaaDoorPPathBase0
import Derived.Test.YtdnjfjcedcdlnaaDoorPPathDir0
import Derived.Test.YtdnjfjcedcdlnaaDoorPBellowslaw03Awake0
set_option linter.unusedSimpArgs false
set_option linter.unusedVariables false
namespace Go.Proofs.YtdnjfjcedcdlnaaDoor.PTh
open Go.RowKit Go.Proofs.YtdnjfjcedcdlnaaDoorW.PrintWords Go.Proofs.YtdnjfjcedcdlnaaDoor.U Go.Proofs.YtdnjfjcedcdlnaaDoor.P Go.Proofs.YtdnjfjcedcdlnaaDoor.Rng

theorem Clean_f (l : List UInt8) : path_Clean.f (B l) = some (B (cleanL l).1, (cleanL l).2) := rfl
theorem awake_f : bellowslaw03_awake.f = some true := by
  have e1 : cleanL [97, 47, 46, 47, 98, 47, 46, 46, 47, 99, 47, 47, 100] = ([97, 47, 99, 47, 100], 0) := by decide +kernel
  have e2 : cleanL [97, 47, 46, 46] = ([], 5) := by decide +kernel
  have f1 := Clean_f [97, 47, 46, 47, 98, 47, 46, 46, 47, 99, 47, 47, 100]
  have f2 := Clean_f [97, 47, 46, 46]
  rw [e1] at f1
  rw [e2] at f2
  show (path_Clean.f (B [97, 47, 46, 47, 98, 47, 46, 46, 47, 99, 47, 47, 100])).bind _ = _
  rw [f1, Option.bind_some]
  show (path_Clean.f (B [97, 47, 46, 46])).bind _ = _
  rw [f2, Option.bind_some]
  simp only [toList_B, if_true]
  rfl
theorem Right_f (l : List UInt8) : path_Right.f (B l) = some (decide (cleanL l = (l, 0))) := by
  rw [path_Right.f, Clean_f, Option.bind_some]
  simp only [toList_B]
  by_cases h : (cleanL l).2 = 0
  · rw [if_pos h]
    congr 1
    rw [Bool.eq_iff_iff, beq_iff_eq, decide_eq_true_iff]
    exact ⟨fun e => Prod.ext e h, fun e => by rw [e]⟩
  · rw [if_neg h]
    congr 1
    symm
    rw [decide_eq_false_iff_not]
    intro e; rw [e] at h; exact h rfl
theorem Join_f (a b : List UInt8) (hl : a.length + b.length < 1000000) : path_Join.f (B a) (B b) = some (B (cleanL (if a = [] then b else a ++ 47 :: b)).1, (cleanL (if a = [] then b else a ++ 47 :: b)).2) := by
  rw [path_Join.f]
  simp only [toList_B]
  by_cases h : a = []
  · rw [if_pos h, if_pos h, Clean_f]; rfl
  · have e : (B a ++ (⟨#[47]⟩ : ByteArray)) ++ B b = B (a ++ 47 :: b) := by
      show (B a ++ B [47]) ++ B b = _
      rw [B_append, B_append]; simp
    have s1 : (B a).size + 1 ≤ 9223372036854775807 := by rw [size_B]; omega
    have s2 : (B a ++ (⟨#[47]⟩ : ByteArray)).size + (B b).size ≤ 9223372036854775807 := by
      show (B a ++ B [47]).size + (B b).size ≤ _
      rw [B_append, size_B, size_B, List.length_append, List.length_singleton]; omega
    rw [if_neg h, if_pos s1, if_pos s2, e, Clean_f, if_neg h]; rfl

theorem li_end (T : List UInt8) : Ev (fun k => bytealg_LastIndexByteString.l0 k (B T) 47 (-1)) (-1) := by
  refine Ev.unroll ?_
  have h : ¬ (-1 : Int) ≥ 0 := by omega
  simp only [bytealg_LastIndexByteString.l0, if_neg h]
  exact Ev.now _
theorem li_step (T d r : List UInt8) (x : UInt8) (hT : T = d ++ x :: r) (hx : x ≠ 47) (hl : T.length < 1000000) (v : Int)
    (h : Ev (fun k => bytealg_LastIndexByteString.l0 k (B T) 47 ((d.length : Int) - 1)) v) : Ev (fun k => bytealg_LastIndexByteString.l0 k (B T) 47 (d.length : Int)) v := by
  refine Ev.unroll ?_
  subst hT
  rw [List.length_append, List.length_cons] at hl
  have h1 : (d.length : Int) ≥ 0 := by omega
  have h2 : (d.length : Int) < ((B (d ++ x :: r)).size : Int) := by rw [size_B]; simp; omega
  have h3 : ¬ (x.toNat : Int) = 47 := byte_ne (d := 47) hx
  have h4 : wrap64 ((d.length : Int) - 1) = (d.length : Int) - 1 := wrap_id _ (by omega) (by omega)
  simp only [bytealg_LastIndexByteString.l0, if_pos h1, if_pos (show 0 ≤ (d.length : Int) from h1), if_pos h2, bt_mid, if_neg h3, h4]
  exact h
theorem li_back (T : List UInt8) (hl : T.length < 1000000) (v : Int) (b : List UInt8) : ∀ d r : List UInt8, T = d ++ (b ++ r) → (47 : UInt8) ∉ b →
    Ev (fun k => bytealg_LastIndexByteString.l0 k (B T) 47 ((d.length : Int) - 1)) v → Ev (fun k => bytealg_LastIndexByteString.l0 k (B T) 47 (((d.length + b.length : Nat) : Int) - 1)) v := by
  induction b with
  | nil => intro d r _ _ h; simpa using h
  | cons x b ih =>
    intro d r hT hb h
    have hx : x ≠ 47 := fun e => hb (by simp [e])
    have h1 := li_step T d (b ++ r) x (by rw [hT]; simp) hx hl v h
    have := ih (d ++ [x]) r (by rw [hT]; simp) (fun e => hb (by simp [e])) (by
      have e : (((d ++ [x]).length : Nat) : Int) - 1 = (d.length : Int) := by rw [List.length_append, List.length_singleton]; omega
      rw [e]; exact h1)
    have e : ((d ++ [x]).length + b.length : Nat) = d.length + (x :: b).length := by simp; omega
    rw [e] at this
    exact this
theorem li_none (l : List UInt8) (hl : l.length < 1000000) (h : (47 : UInt8) ∉ l) : Ev (fun k => strings_LastIndexByte.f k (B l) 47) (-1) := by
  have := li_back l hl (-1) l [] [] (by simp) h (li_end l)
  have e : wrap64 (((B l).size : Int) - 1) = (([] : List UInt8).length + l.length : Nat) - 1 := by
    rw [size_B, wrap_id _ (by omega) (by omega)]; simp
  simp only [strings_LastIndexByte.f, bytealg_LastIndexByteString.f, e]
  exact Ev.bind this (Ev.now _)
theorem li_some (d b : List UInt8) (hl : (d ++ 47 :: b).length < 1000000) (h : (47 : UInt8) ∉ b) : Ev (fun k => strings_LastIndexByte.f k (B (d ++ 47 :: b)) 47) (d.length : Int) := by
  have hl' := hl
  rw [List.length_append, List.length_cons] at hl'
  have h0 : Ev (fun k => bytealg_LastIndexByteString.l0 k (B (d ++ 47 :: b)) 47 (d.length : Int)) (d.length : Int) := by
    refine Ev.unroll ?_
    have h1 : (d.length : Int) ≥ 0 := by omega
    have h2 : (d.length : Int) < ((B (d ++ 47 :: b)).size : Int) := by rw [size_B]; simp; omega
    simp only [bytealg_LastIndexByteString.l0, if_pos h1, if_pos (show 0 ≤ (d.length : Int) from h1), if_pos h2, bt_mid, show ((47 : UInt8).toNat : Int) = 47 from rfl, if_true]
    exact Ev.now _
  have := li_back (d ++ 47 :: b) hl (d.length : Int) b (d ++ [47]) [] (by simp) h (by
    have e : (((d ++ [47]).length : Nat) : Int) - 1 = (d.length : Int) := by rw [List.length_append, List.length_singleton]; omega
    rw [e]; exact h0)
  have e : wrap64 (((B (d ++ 47 :: b)).size : Int) - 1) = (((d ++ [47]).length + b.length : Nat) : Int) - 1 := by
    rw [size_B, wrap_id _ (by omega) (by omega)]; simp; omega
  simp only [strings_LastIndexByte.f, bytealg_LastIndexByteString.f, e]
  exact Ev.bind this (Ev.now _)
theorem cut_none (l : List UInt8) (hl : l.length < 1000000) (h : (47 : UInt8) ∉ l) : Ev (fun k => path_cut.f k (B l)) (B [], B l) := by
  simp only [path_cut.f]
  refine Ev.bind (li_none l hl h) ?_
  rw [if_pos (show (-1 : Int) < 0 by omega)]
  exact Ev.now _
theorem cut_some (d b : List UInt8) (hl : (d ++ 47 :: b).length < 1000000) (h : (47 : UInt8) ∉ b) : Ev (fun k => path_cut.f k (B (d ++ 47 :: b))) (B d, B b) := by
  have hl' := hl
  rw [List.length_append, List.length_cons] at hl'
  simp only [path_cut.f]
  refine Ev.bind (li_some d b hl h) ?_
  have h1 : ¬ (d.length : Int) < 0 := by omega
  have h2 : (0 : Int) ≤ (d.length : Int) := by omega
  have h3 : (d.length : Int) ≤ ((B (d ++ 47 :: b)).size : Int) := by rw [size_B]; simp; omega
  have h4 : wrap64 ((d.length : Int) + 1) = ((d.length + 1 : Nat) : Int) := wrap_succ _ (by omega)
  have h5 : (0 : Int) ≤ ((d.length + 1 : Nat) : Int) := by omega
  have h6 : ((d.length + 1 : Nat) : Int) ≤ ((B (d ++ 47 :: b)).size : Int) := by rw [size_B]; simp; omega
  have e1 : (B (d ++ 47 :: b)).extract 0 (d.length : Int).toNat = B d := by rw [extract_B, Int.toNat_natCast]; simp
  have e2 : (B (d ++ 47 :: b)).extract ((d.length + 1 : Nat) : Int).toNat (B (d ++ 47 :: b)).size = B b := by
    rw [extract_B, Int.toNat_natCast, size_B, List.take_length]
    have : d ++ 47 :: b = (d ++ [47]) ++ b := by simp
    rw [this, List.drop_left' (by simp)]
  simp only [if_neg h1, if_pos h2, if_pos h3, h4, if_pos h5, if_pos h6, e1, e2]
  exact Ev.now _
theorem dir_none (l : List UInt8) (hl : l.length < 1000000) (h : (47 : UInt8) ∉ l) : Ev (fun k => path_Dir.f k (B l)) (B []) := by
  simp only [path_Dir.f]; exact Ev.bind (cut_none l hl h) (Ev.now _)
theorem base_none (l : List UInt8) (hl : l.length < 1000000) (h : (47 : UInt8) ∉ l) : Ev (fun k => path_Base.f k (B l)) (B l) := by
  simp only [path_Base.f]; exact Ev.bind (cut_none l hl h) (Ev.now _)
theorem dir_some (d b : List UInt8) (hl : (d ++ 47 :: b).length < 1000000) (h : (47 : UInt8) ∉ b) : Ev (fun k => path_Dir.f k (B (d ++ 47 :: b))) (B d) := by
  simp only [path_Dir.f]; exact Ev.bind (cut_some d b hl h) (Ev.now _)
theorem base_some (d b : List UInt8) (hl : (d ++ 47 :: b).length < 1000000) (h : (47 : UInt8) ∉ b) : Ev (fun k => path_Base.f k (B (d ++ 47 :: b))) (B b) := by
  simp only [path_Base.f]; exact Ev.bind (cut_some d b hl h) (Ev.now _)
end Go.Proofs.YtdnjfjcedcdlnaaDoor.PTh
