/- PathParts: Dir and Base part a way at its last sign 47; Join cleans the two joined. -/
import Derived.Test.YtdnjfjcedcdlnaaDoorPathRef
import Derived.Test.YtdnjfjcedcdlnaaDoorPBellowslaw03PathParts0
set_option linter.unusedSimpArgs false
set_option linter.unusedVariables false
namespace Go.Proofs.YtdnjfjcedcdlnaaDoor.Pure
open Go.RowKit Go.Proofs.YtdnjfjcedcdlnaaDoor.P Go.Proofs.YtdnjfjcedcdlnaaDoorW.PrintWords Go.Proofs.YtdnjfjcedcdlnaaDoorW.PrintLast Go.Proofs.YtdnjfjcedcdlnaaDoor.U Go.Proofs.YtdnjfjcedcdlnaaDoor.PTh Go.Proofs.YtdnjfjcedcdlnaaDoor.Rng

namespace PathParts
theorem stepOther (T p r : List UInt8) (x1 : ByteArray) (x : UInt8) (v : Int) (hT : T = p ++ x :: r) (hx : x ≠ 47) (hl : T.length < 1000000)
    (h : Ev (fun k => bellowslaw03_PathParts.l0 k (B T) x1 v ((p.length + 1 : Nat) : Int)) true) : Ev (fun k => bellowslaw03_PathParts.l0 k (B T) x1 v (p.length : Int)) true := by
  refine Ev.unroll ?_
  have hTl : T.length = p.length + (r.length + 1) := by rw [hT]; simp
  have h1 : (p.length : Int) < ((B T).size : Int) := by rw [size_B]; omega
  have h2 : (0 : Int) ≤ (p.length : Int) := by omega
  have hbt : bt (B T) (p.length : Int) = (x.toNat : Int) := by rw [hT]; exact bt_mid p x r
  have hw := Aside0.mk (wrap_succ p.length (by omega))
  simp only [bellowslaw03_PathParts.l0, if_pos h1, if_pos h2, hbt, if_neg (show ¬ (x.toNat : Int) = 47 from byte_ne (d := 47) hx), hw.out]
  exact h
theorem stepSlash (T p r : List UInt8) (x1 : ByteArray) (v : Int) (hT : T = p ++ 47 :: r) (hl : T.length < 1000000)
    (h : Ev (fun k => bellowslaw03_PathParts.l0 k (B T) x1 (p.length : Int) ((p.length + 1 : Nat) : Int)) true) : Ev (fun k => bellowslaw03_PathParts.l0 k (B T) x1 v (p.length : Int)) true := by
  refine Ev.unroll ?_
  have hTl : T.length = p.length + (r.length + 1) := by rw [hT]; simp
  have h1 : (p.length : Int) < ((B T).size : Int) := by rw [size_B]; omega
  have h2 : (0 : Int) ≤ (p.length : Int) := by omega
  have hbt : bt (B T) (p.length : Int) = 47 := by rw [hT]; exact bt_mid p 47 r
  have hw := Aside0.mk (wrap_succ p.length (by omega))
  simp only [bellowslaw03_PathParts.l0, if_pos h1, if_pos h2, hbt, if_true, hw.out]
  exact h
theorem scan (T : List UInt8) (x1 : ByteArray) (hl : T.length < 1000000) (v : Int) (s : List UInt8) : ∀ p, T = p ++ s → (47 : UInt8) ∉ s →
    Ev (fun k => bellowslaw03_PathParts.l0 k (B T) x1 v (T.length : Int)) true → Ev (fun k => bellowslaw03_PathParts.l0 k (B T) x1 v (p.length : Int)) true := by
  induction s with
  | nil => intro p hT _ h; rw [List.append_nil] at hT; rw [← hT]; exact h
  | cons x s ih =>
    intro p hT hs h
    refine stepOther T p s x1 x v hT (fun e => hs (by simp [e])) hl ?_
    have := ih (p ++ [x]) (by rw [hT]; simp) (fun e => hs (by simp [e])) h
    rw [List.length_append, List.length_singleton] at this
    exact this
theorem scan2 (T : List UInt8) (x1 : ByteArray) (hl : T.length < 1000000) (b : List UInt8) (hb : (47 : UInt8) ∉ b) (d : List UInt8) : ∀ (p : List UInt8) (v : Int), T = p ++ (d ++ 47 :: b) →
    Ev (fun k => bellowslaw03_PathParts.l0 k (B T) x1 ((p.length + d.length : Nat) : Int) (T.length : Int)) true → Ev (fun k => bellowslaw03_PathParts.l0 k (B T) x1 v (p.length : Int)) true := by
  induction d with
  | nil =>
    intro p v hT h
    refine stepSlash T p b x1 v hT hl ?_
    have := scan T x1 hl (p.length : Int) b (p ++ [47]) (by rw [hT]; simp) hb h
    rw [List.length_append, List.length_singleton] at this
    exact this
  | cons x d ih =>
    intro p v hT h
    have e : p.length + (x :: d).length = (p ++ [x]).length + d.length := by simp; omega
    rw [e] at h
    by_cases hx : x = 47
    · subst hx
      refine stepSlash T p (d ++ 47 :: b) x1 v hT hl ?_
      have := ih (p ++ [47]) (p.length : Int) (by rw [hT]; simp) h
      rw [List.length_append, List.length_singleton] at this
      exact this
    · refine stepOther T p (d ++ 47 :: b) x1 x v hT hx hl ?_
      have := ih (p ++ [x]) v (by rw [hT]; simp) h
      rw [List.length_append, List.length_singleton] at this
      exact this
theorem tail3 (s x : List UInt8) (hs : s.length < 1000000) (v : Int) (d b : List UInt8) (h1 : Ev (fun k => path_Dir.f k (B s)) (B d)) (h2 : Ev (fun k => path_Base.f k (B s)) (B b))
    (i : Nat) (hi : wrap64 (v + 1) = (i : Int)) (hi2 : i ≤ s.length) (hb : s.drop i = b) :
    Ev (fun k => bellowslaw03_PathParts.j3 k (B s) v (B d) (B (cleanL x).1) (cleanL x).2 (B x)) true := by
  refine Ev.unroll ?_
  simp only [bellowslaw03_PathParts.j3, hi]
  refine Ev.bind (ref_Clean x) ?_
  refine Ev.bind h1 ?_
  simp only [if_true]
  refine Ev.bind h2 ?_
  have a1 : (0 : Int) ≤ (i : Int) := by omega
  have a2 : (i : Int) ≤ ((B s).size : Int) := by rw [size_B]; omega
  have e : (B s).extract (i : Int).toNat (B s).size = B b := by rw [extract_B, Int.toNat_natCast, size_B, List.take_length, hb]
  simp only [if_pos a1, if_pos a2, e, if_true, awake_f, Option.bind_some]
  exact Ev.now _
theorem tail2 (s t : List UInt8) (hs : s.length < 100000) (ht : t.length < 100000) (v : Int) (d b : List UInt8) (h1 : Ev (fun k => path_Dir.f k (B s)) (B d)) (h2 : Ev (fun k => path_Base.f k (B s)) (B b))
    (i : Nat) (hi : wrap64 (v + 1) = (i : Int)) (hi2 : i ≤ s.length) (hb : s.drop i = b) :
    Ev (fun k => bellowslaw03_PathParts.j2 k (B s) (B t) v (B d)) true := by
  refine Ev.unroll ?_
  simp only [bellowslaw03_PathParts.j2, Join_f s t (by omega), Option.bind_some, toList_B]
  by_cases h : s = []
  · simp only [if_pos h]
    exact tail3 s t (by omega) v d b h1 h2 i hi hi2 hb
  · have e : (B s ++ (⟨#[47]⟩ : ByteArray)) ++ B t = B (s ++ 47 :: t) := by
      show (B s ++ B [47]) ++ B t = _
      rw [B_append, B_append]; simp
    have s1 : (B s).size + 1 ≤ 9223372036854775807 := by rw [size_B]; omega
    have s2 : (B s ++ (⟨#[47]⟩ : ByteArray)).size + (B t).size ≤ 9223372036854775807 := by
      show (B s ++ B [47]).size + (B t).size ≤ _
      rw [B_append, size_B, size_B, List.length_append, List.length_singleton]; omega
    simp only [if_neg h, if_pos s1, if_pos s2, e]
    exact tail3 s (s ++ 47 :: t) (by omega) v d b h1 h2 i hi hi2 hb
theorem main (s t : List UInt8) (hs : s.length < 100000) (ht : t.length < 100000) : Ev (fun k => bellowslaw03_PathParts.l0 k (B s) (B t) (-1) 0) true := by
  rcases last_cases s with hn | ⟨d, b, rfl, hb⟩
  · refine scan s (B t) (by omega) (-1) s [] rfl hn ?_
    refine Ev.unroll ?_
    have h1 : ¬ (s.length : Int) < ((B s).size : Int) := by rw [size_B]; omega
    have h2 : ¬ (-1 : Int) ≥ 0 := by omega
    simp only [bellowslaw03_PathParts.l0, if_neg h1, if_neg h2]
    exact tail2 s t hs ht (-1) [] s (dir_none s (by omega) hn) (base_none s (by omega) hn) 0 (wrap_id _ (by omega) (by omega)) (Nat.zero_le _) rfl
  · have hl : (d ++ 47 :: b).length = d.length + (b.length + 1) := by simp
    refine scan2 (d ++ 47 :: b) (B t) (by omega) b hb d [] (-1) rfl ?_
    refine Ev.unroll ?_
    have h1 : ¬ ((d ++ 47 :: b).length : Int) < ((B (d ++ 47 :: b)).size : Int) := by rw [size_B]; omega
    have h2 : (((([] : List UInt8).length + d.length : Nat)) : Int) ≥ 0 := by omega
    have h3 : (((([] : List UInt8).length + d.length : Nat)) : Int) ≤ ((B (d ++ 47 :: b)).size : Int) := by rw [size_B, hl]; simp; omega
    have e : (B (d ++ 47 :: b)).extract 0 (((([] : List UInt8).length + d.length : Nat)) : Int).toNat = B d := by rw [extract_B, Int.toNat_natCast]; simp
    simp only [bellowslaw03_PathParts.l0, if_neg h1, if_pos h2, if_pos (show (0 : Int) ≤ _ from h2), if_pos h3, e]
    refine tail2 (d ++ 47 :: b) t hs ht _ d b (dir_some d b (by omega) hb) (base_some d b (by omega) hb) (d.length + 1) ?_ (by omega) ?_
    · simp only [List.length_nil, Nat.zero_add]
      exact wrap_succ _ (by omega)
    · rw [show d ++ 47 :: b = (d ++ [47]) ++ b by simp, List.drop_left' (by simp)]
end PathParts
theorem PathParts : bellowslaw03_PathParts.Pure := by
  intro a0 a1 _ _
  obtain ⟨s, rfl⟩ := B_surj a0
  obtain ⟨t, rfl⟩ := B_surj a1
  refine Ev.rounds ?_
  by_cases h : ((B s).size : Int) > 300
  · simp only [bellowslaw03_PathParts.f, if_pos h]
    refine Ev.unroll ?_
    simp only [bellowslaw03_PathParts.j0, if_true]; exact Ev.now _
  · simp only [bellowslaw03_PathParts.f, if_neg h]
    refine Ev.unroll ?_
    by_cases h2 : ((B t).size : Int) > 300
    · simp only [bellowslaw03_PathParts.j0, decide_eq_true h2, if_true]; exact Ev.now _
    · simp only [bellowslaw03_PathParts.j0, decide_eq_false h2, Bool.false_eq_true, if_false]
      rw [size_B] at h h2
      exact PathParts.main s t (by omega) (by omega)
end Go.Proofs.YtdnjfjcedcdlnaaDoor.Pure
