/- depfile.line walked: the one line of a text that is not all blanks, continued lines joined. -/
import Derived.Test.YtaocdnebglnkeaaDoorDepRep
set_option linter.unusedSimpArgs false
set_option linter.unusedVariables false
namespace Go.Proofs.YtaocdnebglnkeaaDoor.P
open Go.RowKit Go.Lib Go.Shelf Go.Proofs.YtaocdnebglnkeaaDoor.U Go.Proofs.YtaocdnebglnkeaaDoor.Rng Go.Proofs.YtaocdnebglnkeaaDoor.Dp

/-- Is a piece all blanks? -/
def blankL (p : List UInt8) : Bool := (trimB p 32).isEmpty
/-- The one piece that is not; none: there are two. -/
def lineF : List (List UInt8) → Option (List UInt8) → Option (Option (List UInt8))
  | [], st => some st
  | p :: r, st => if blankL p = true then lineF r st else match st with | some _ => none | none => lineF r (some p)
theorem lineF_append (a b : List (List UInt8)) (st : Option (List UInt8)) : lineF (a ++ b) st = (lineF a st).bind (lineF b) := by
  induction a generalizing st with
  | nil => rfl
  | cons p a ih =>
    cases st with
    | none =>
      simp only [List.cons_append, lineF]
      split
      · exact ih none
      · exact ih _
    | some x =>
      simp only [List.cons_append, lineF]
      split
      · exact ih (some x)
      · rfl
theorem lineF_none {a b : List (List UInt8)} {st : Option (List UInt8)} (h : a <+: b) (ha : lineF a st = none) : lineF b st = none := by
  obtain ⟨t, rfl⟩ := h
  rw [lineF_append, ha]; rfl
def resF : Option (Option (List UInt8)) → List UInt8 × Bool
  | none => ([], false)
  | some none => ([], false)
  | some (some s) => (s, true)
def lineL (text : List UInt8) : List UInt8 × Bool := resF (lineF (splitK 10 0 (rep2 text)) none)
/-- The two results' cells and the two variables' cells. -/
structure LInv (N pb : Nat) (st : Option (List UInt8)) (W : World) : Prop where
  r1 : W.heap[N]? = some (.cells #[.string (B [])] 9 (0, 0))
  r2 : W.heap[N + 1]? = some (.cells #[.bool false] 4 (0, 0))
  v1 : W.heap[pb]? = some (.cells #[.string (B (st.getD []))] 9 (0, 0))
  v2 : W.heap[pb + 1]? = some (.cells #[.bool st.isSome] 4 (0, 0))
theorem LInv.own (N pb : Nat) : Own (LInv N pb) := fun st A C row hs hg hr =>
  ⟨heap_keep hg hr hs.r1, heap_keep hg hr hs.r2, heap_keep hg hr hs.v1, heap_keep hg hr hs.v2⟩
theorem LInv.set_other {N pb k : Nat} {st : Option (List UInt8)} {W : World} (h : LInv N pb st W) (h1 : N ≠ k) (h2 : N + 1 ≠ k) (h3 : pb ≠ k) (h4 : pb + 1 ≠ k) (u : Value) : LInv N pb st (W.setCell ⟨k, 0, none⟩ u) :=
  ⟨(Below.heap_setCell _ _ _ _ h1).trans h.r1, (Below.heap_setCell _ _ _ _ h2).trans h.r2, (Below.heap_setCell _ _ _ _ h3).trans h.v1, (Below.heap_setCell _ _ _ _ h4).trans h.v2⟩
theorem LInv.put {N pb : Nat} {st : Option (List UInt8)} {W : World} (h : LInv N pb st W) (hN : N + 1 < pb) (s : List UInt8) :
    LInv N pb (some s) ((W.setCell ⟨pb, 0, none⟩ (.string (B s))).setCell ⟨pb + 1, 0, none⟩ (.bool true)) := by
  have a1 := one_setCell (u := .string (B s)) h.v1
  have a2 := (Below.heap_setCell W ⟨pb, 0, none⟩ (.string (B s)) (pb + 1) (by show pb + 1 ≠ pb; omega)).trans h.v2
  refine ⟨?_, ?_, ?_, one_setCell a2⟩
  · exact (Below.heap_setCell _ _ _ _ (by show N ≠ pb + 1; omega)).trans ((Below.heap_setCell _ _ _ _ (by show N ≠ pb; omega)).trans h.r1)
  · exact (Below.heap_setCell _ _ _ _ (by show N + 1 ≠ pb + 1; omega)).trans ((Below.heap_setCell _ _ _ _ (by show N + 1 ≠ pb; omega)).trans h.r2)
  · exact (Below.heap_setCell _ _ _ _ (by show pb ≠ pb + 1; omega)).trans a1
theorem total_mem {p : List UInt8} {L : List (List UInt8)} (h : p ∈ L) : p.length ≤ totalP L := by
  induction L with
  | nil => cases h
  | cons q L ih =>
    simp only [totalP, List.map_cons, List.sum_cons] at ih ⊢
    rcases List.mem_cons.1 h with rfl | h
    · omega
    · have := ih h; omega
theorem SplitSeq_calls' (c : UInt8) (l : List UInt8) (W : World) :
    Calls Tryd.prog 23 #[.string (B l), .string ⟨#[c]⟩] W fun e w' => e = .returned (.func (.func 56) #[] #[.pointer (some ⟨W.heap.size + 1, 0, none⟩), .pointer (some ⟨W.heap.size, 0, none⟩), .pointer (some ⟨W.heap.size + 2, 0, none⟩)]) ∧
      Below W.heap.size W w' ∧ W.heap.size + 2 < w'.heap.size ∧ w'.heap[W.heap.size]? = some (.cells #[.string (B l)] 9 (0, 0)) ∧ w'.heap[W.heap.size + 1]? = some (.cells #[.string (B [c])] 9 (0, 0)) ∧ w'.heap[W.heap.size + 2]? = some (.cells #[.int .i64 0] 3 (0, 0)) :=
  (SplitSeq_any (B l) ⟨#[c]⟩ W).mono fun e w' ⟨he, hw⟩ => by
    subst hw
    refine ⟨he, (((Below.refl _ W).alloc (Nat.le_refl _) _).alloc (by simp) _).alloc (by simp; omega) _, by simp, ?_, ?_, ?_⟩
    · exact (Below.heap_alloc _ _ _ (by simp; omega)).trans ((Below.heap_alloc _ _ _ (by simp)).trans (heap_alloc_new W _))
    · exact (Below.heap_alloc _ _ _ (by simp)).trans (by simpa using heap_alloc_new (W.alloc (.cells #[.string (B l)] 9)) (.cells #[.string (B [c])] 9))
    · simpa using heap_alloc_new ((W.alloc (.cells #[.string (B l)] 9)).alloc (.cells #[.string (B [c])] 9)) (.cells #[.int .i64 0] 3)
theorem line_leave (D N : Nat) (w W : World) (s : ByteArray) (b : Bool) (tmps : Array Value) (ht2 : tmps[2]?.getD undef = .pointer (some ⟨N, 0, none⟩)) (ht3 : tmps[3]?.getD undef = .pointer (some ⟨N + 1, 0, none⟩))
    (h1 : W.heap[N]? = some (.cells #[.string s] 9 (0, 0))) (h2 : W.heap[N + 1]? = some (.cells #[.bool b] 4 (0, 0))) (hK : W.heap[D]? = some (.deferred (some []))) (hD : w.heap.size ≤ D) (hB : Below w.heap.size w W) :
    bodyPostM Fence.wide 3 Tryd.prog Tryd.f13 (fun e' w' => e' = .returned (.tuple #[.string s, .bool b]) ∧ Below w.heap.size w w') .ret { tmps := tmps, defers := [{ target := .collected D, args := #[] }] } W := by
  refine ⟨by simp, .inl ⟨_, _, rfl, run_takeDeferred hK, ?_⟩⟩
  have c1 := cell_kept (cell_of_one h1) (grownBy_putObj' _ D (.deferred none)) (fun r e => by cases e; exact ⟨_, hK, rfl⟩)
  have c2 := cell_kept (cell_of_one h2) (grownBy_putObj' _ D (.deferred none)) (fun r e => by cases e; exact ⟨_, hK, rfl⟩)
  refine ⟨.tuple #[.string s, .bool b], ?_, rfl, hB.trans (belowK_b (w := w) (Nat.le_refl _) W D _ _ hD hK rfl rfl)⟩
  simp [results, Tryd.f13, go_sem, ht2, ht3, c1, c2]
theorem trim_any (p : List UInt8) (hp : p.length ≤ 1000000) (W : World) : Calls Tryd.prog 24 #[.string (B p), .string ⟨#[32]⟩] W fun e w' => e = .returned (.string (B (trimB p 32))) ∧ (w' = W ∨ w' = W.drew) :=
  Tryd.strings_Trim_one (B p) 32 (by decide) W (by rw [size_B]; omega)
theorem replace_any (l : List UInt8) (hl : l.length ≤ 1000000) (W : World) (hm : ∃ m, W.cell? ⟨0, 0, none⟩ = some (.int .i64 m)) :
    Calls Tryd.prog 22 #[.string (B l), .string ⟨#[92, 10]⟩, .string ⟨#[32]⟩] W fun e w' => e = .returned (.string (B (rep2 l))) ∧ Below W.heap.size W w' := by
  obtain ⟨m, hm⟩ := hm
  have ho := occ2_len l
  have := Tryd.strings_ReplaceAll (B l) ⟨#[92, 10]⟩ ⟨#[32]⟩ m W (by rw [size_B]; omega) hm (by decide) (by
    rw [show countB (B l) ⟨#[92, 10]⟩ = occ2 l from count_B l, size_B]
    show l.length + occ2 l * 1 ≤ _; omega)
  rw [show (B l).data.toList = l from rfl, show (⟨#[92, 10]⟩ : ByteArray).data.toList = [92, 10] from rfl, show (⟨#[32]⟩ : ByteArray).data.toList = [32] from rfl, rep_all] at this
  exact this
attribute [local go_sem] Oper.semAt_some
set_option maxRecDepth 100000 in
set_option maxHeartbeats 8000000 in
theorem line_any (text : List UInt8) (h : text.length ≤ 20000) (w : World) (hm : ∃ m, w.cell? ⟨0, 0, none⟩ = some (.int .i64 m)) :
    Calls Tryd.prog 13 #[.string (B text)] w fun e w' => e = .returned (.tuple #[.string (B (lineL text).1), .bool (lineL text).2]) ∧ Below w.heap.size w w' := by
  obtain ⟨r, hr⟩ : ∃ r, lineL text = r := ⟨_, rfl⟩
  rw [hr]
  have hl2 := rep2_len text
  have HREP := Lib.hid (fun W h' => replace_any text (by omega) W h')
  have HR : Hid (resF (lineF (splitK 10 0 (rep2 text)) none) = r) := hr
  have HM : Hid (∀ W, Below w.heap.size w W → ∃ m, W.cell? ⟨0, 0, none⟩ = some (.int .i64 m)) := by
    intro W hW
    obtain ⟨m, hm⟩ := hm
    refine ⟨m, (hW.cell (p := ⟨0, 0, none⟩) ?_).trans hm⟩
    show 0 < w.heap.size
    rcases Nat.eq_zero_or_pos w.heap.size with h0 | h0
    · have : w.heap[0]? = none := by simp [h0]
      simp [World.cell?, this] at hm
    · exact h0
  clear hr hm
  generalize rep2 text = l at *
  refine (callsIn_wide (n := 3)).1 ?_
  refine callsIn_of_wp_marks Tryd.func13 rfl trivial ?_ rfl
  simp only [Tryd.ntmps13, List.size_toArray, List.length_cons, List.length_nil, Nat.reduceAdd, Nat.reduceSub, Array.replicate_succ, Array.replicate_zero, List.push_toArray, List.append_toArray, List.nil_append, List.cons_append]
  refine wpIn_wide.2 ?_
  obtain ⟨Q, hQ⟩ : ∃ Q, bodyPostM Fence.wide 3 Tryd.prog Tryd.f13 (fun e w' => e = .returned (.tuple #[.string (B r.1), .bool r.2]) ∧ Below w.heap.size w w') = Q := ⟨_, rfl⟩
  rw [hQ]
  have HQ := Lib.hid hQ
  clear hQ
  have hBA := ((Below.refl w.heap.size w).alloc (Nat.le_refl _) (.cells #[.string ⟨#[]⟩] 9)).alloc (by simp) (.cells #[.bool false] 4)
  have HBA := Lib.hid hBA
  clear hBA
  go_wp2_with fail
  refine (HREP.out _ (HM.out _ HBA.out)).mono ?_
  rintro e w1 ⟨rfl, hb⟩
  go_wp2_with fail
  have hlt1 : w.heap.size + 1 < w1.heap.size := by have := hb.size; simp at this; omega
  obtain ⟨W0, hW0⟩ : ∃ W0, (w1.alloc (.cells #[.string ⟨#[]⟩] 9)).alloc (.cells #[.bool false] 4) = W0 := ⟨_, rfl⟩
  have hz0 : W0.heap.size = w1.heap.size + 2 := by rw [← hW0]; simp
  have hinv0 : LInv w.heap.size w1.heap.size none W0 := by
    rw [← hW0]
    refine ⟨?_, ?_, ?_, ?_⟩
    · exact (Below.heap_alloc _ _ _ (by simp; omega)).trans ((Below.heap_alloc _ _ _ (by omega)).trans ((hb.block _ (by simp; omega)).trans ((Below.heap_alloc _ _ _ (by simp)).trans (heap_alloc_new w _))))
    · exact (Below.heap_alloc _ _ _ (by simp; omega)).trans ((Below.heap_alloc _ _ _ (by omega)).trans ((hb.block _ (by simp)).trans (by simpa using heap_alloc_new (w.alloc (.cells #[.string ⟨#[]⟩] 9)) (.cells #[.bool false] 4))))
    · exact (Below.heap_alloc _ _ _ (by simp)).trans (heap_alloc_new w1 _)
    · simpa using heap_alloc_new (w1.alloc (.cells #[.string ⟨#[]⟩] 9)) (.cells #[.bool false] 4)
  have hB0 : Below w.heap.size w W0 := by
    rw [← hW0]; exact ((HBA.out.trans (hb.mono (by simp; omega))).alloc (by omega) _).alloc (by simp; omega) _
  rw [hW0]
  have HI0 := Lib.hid hinv0
  have HB0 := Lib.hid hB0
  have HZ0 := Lib.hid hz0
  clear hW0 hb hinv0 hB0 hz0
  refine (SplitSeq_calls' 10 l _).mono ?_
  rintro e w2 ⟨rfl, hb2, hz2, i0, i1, i2⟩
  have HBB2 := Lib.hid hb2
  have I0 := Lib.hid i0
  have I1 := Lib.hid i1
  have I2 := Lib.hid i2
  have HZ2 := Lib.hid hz2
  clear hb2 i0 i1 i2 hz2
  go_wp2_with fail
  refine wpIn_wide.1 (wp_range_str (gf := 56) (lb := #[.pointer (some ⟨W0.heap.size + 1, 0, none⟩), .pointer (some ⟨W0.heap.size, 0, none⟩), .pointer (some ⟨W0.heap.size + 2, 0, none⟩)]) rfl (enters_of Tryd.func56 (by kernel_rfl) rfl)
    (split_seq 10 0 (by omega) W0.heap.size l (by omega) w2 ?hlt ?i0 ?i1 ?i2) (Below.refl _ _) ?hbw
    (fun pre W => (∃ pl st, pre = pl.map B ∧ pl <+: splitK 10 0 l ∧ lineF pl none = some st ∧ LInv w.heap.size w1.heap.size st W) ∧ Below w.heap.size w W)
    (fun c pre W => (c = .ret ∧ lineF (splitK 10 0 l) none = none ∧ ∃ st, LInv w.heap.size w1.heap.size st W) ∧ Below w.heap.size w W)
    ?hI ?hIx ?hIs ?h0 ?a1 ?assign ?body ?done ?stop)
  case i0 => exact I0.out
  case i1 => exact I1.out
  case i2 => exact I2.out
  case hlt => exact HZ2.out
  case hbw => exact HZ2.out
  case hI =>
    refine OwnFrom.and (Own.from (fun s A C row hs hg hr => ?_) _) (ownFrom_below (Nat.le_refl _) ?_)
    · obtain ⟨pl, st, h1, h2, h3, h4⟩ := hs
      exact ⟨pl, st, h1, h2, h3, LInv.own _ _ st A C row h4 hg hr⟩
    · have := HZ2.out; have := HZ0.out; omega
  case hIx =>
    intro c
    refine OwnFrom.and (Own.from (fun s A C row hs hg hr => ?_) _) (ownFrom_below (Nat.le_refl _) ?_)
    · obtain ⟨h1, h2, st, h4⟩ := hs
      exact ⟨h1, h2, st, LInv.own _ _ st A C row h4 hg hr⟩
    · have := HZ2.out; have := HZ0.out; omega
  case hIs =>
    rintro pre W u ⟨⟨pl, st, h1, h2, h3, h4⟩, h5⟩
    have := HZ0.out
    exact ⟨⟨pl, st, h1, h2, h3, h4.set_other (by omega) (by omega) (by omega) (by omega) u⟩, h5.setCell (by show w.heap.size ≤ W0.heap.size; omega) u⟩
  case h0 =>
    have := HZ0.out
    refine ⟨⟨[], none, rfl, List.nil_prefix, rfl, (HBB2.out.block _ (by omega)).trans HI0.out.r1, (HBB2.out.block _ (by omega)).trans HI0.out.r2, (HBB2.out.block _ (by omega)).trans HI0.out.v1, (HBB2.out.block _ (by omega)).trans HI0.out.v2⟩, ?_⟩
    exact HB0.out.trans (HBB2.out.mono (by omega))
  case assign =>
    intro l' x W K hK
    simp only [List.zip_toArray, List.zip_cons_cons, List.zip_nil_right, List.foldl_toArray, List.foldl_cons, List.foldl_nil, List.setIfInBounds_toArray, List.set_cons_succ, List.set_cons_zero]
    gi_wp2
    exact hK
  case body =>
    rintro l' pre x W ⟨⟨pl, st, rfl, hpl, hst, hinv⟩, hB⟩ hpx
    obtain ⟨p, rfl, hpp⟩ := map_snoc_prefix hpx
    have hfold : lineF (pl ++ [p]) none = lineF [p] st := by rw [lineF_append, hst]; rfl
    have HF := Lib.hid hfold
    have HI := Lib.hid hinv
    have HPP := Lib.hid hpp
    have hpm : p ∈ splitK 10 0 l := hpp.subset (by simp)
    have hpl2 : p.length ≤ 1000000 := by
      have h1 := splitK_total 10 l
      have h2 := total_mem hpm
      simp only [totalP] at h1 h2
      omega
    have HT := Lib.hid (fun W => trim_any p hpl2 W)
    have HBl : Hid (blankL p = (trimB p 32).isEmpty) := rfl
    have c1 := cell_of_one hinv.r1
    have f1 := free_of_one hinv.r1
    have c2 := cell_of_one hinv.r2
    have f2 := free_of_one hinv.r2
    have c3 := cell_of_one hinv.v1
    have f3 := free_of_one hinv.v1
    have c4 := cell_of_one hinv.v2
    have f4 := free_of_one hinv.v2
    clear hfold hpl hst hpx hpp hinv hpm hpl2
    generalize trimB p 32 = tp at *
    gi_wp2_with fail
    refine ⟨trivial, (CallsIn.inRound l' (callsIn_wide.2 (HT.out _))).mono ?_⟩
    rintro e w3 ⟨rfl, hw3⟩
    have hhp : w3.heap = W.heap := by rcases hw3 with rfl | rfl <;> rfl
    have k1 : w3.cell? ⟨w.heap.size, 0, none⟩ = some (.string (B [])) := by rcases hw3 with rfl | rfl <;> exact c1
    have m1 : w3.frozen? ⟨w.heap.size, 0, none⟩ = false := by rcases hw3 with rfl | rfl <;> exact f1
    have k2 : w3.cell? ⟨w.heap.size + 1, 0, none⟩ = some (.bool false) := by rcases hw3 with rfl | rfl <;> exact c2
    have m2 : w3.frozen? ⟨w.heap.size + 1, 0, none⟩ = false := by rcases hw3 with rfl | rfl <;> exact f2
    have k3 : w3.cell? ⟨w1.heap.size, 0, none⟩ = some (.string (B (st.getD []))) := by rcases hw3 with rfl | rfl <;> exact c3
    have m3 : w3.frozen? ⟨w1.heap.size, 0, none⟩ = false := by rcases hw3 with rfl | rfl <;> exact f3
    have k4 : w3.cell? ⟨w1.heap.size + 1, 0, none⟩ = some (.bool st.isSome) := by rcases hw3 with rfl | rfl <;> exact c4
    have m4 : w3.frozen? ⟨w1.heap.size + 1, 0, none⟩ = false := by rcases hw3 with rfl | rfl <;> exact f4
    have HI3 : Hid (LInv w.heap.size w1.heap.size st w3) := by
      refine ⟨?_, ?_, ?_, ?_⟩ <;> rw [hhp]
      · exact HI.out.r1
      · exact HI.out.r2
      · exact HI.out.v1
      · exact HI.out.v2
    have HB3 : Hid (Below w.heap.size w w3) := by rcases hw3 with rfl | rfl; exact hB; exact hB.drew
    have HKO : Hid (KeepsOthers W w3) := by rcases hw3 with rfl | rfl; exact KeepsOthers.refl _; exact KeepsOthers.drew _
    have HK3 : Hid (Kept3 W0.heap.size W w3) := ⟨by rw [hhp], by rw [hhp], by rw [hhp]⟩
    clear hw3 hhp c1 f1 c2 f2 c3 f3 c4 f4 hB
    have hz0' := HZ0.out
    cases tp with
    | nil =>
      have hbl : blankL p = true := HBl.out
      gi_wp2_with fail
      exact ⟨HKO.out.from _, HK3.out, ⟨pl ++ [p], st, by simp, HPP.out, by rw [HF.out]; simp [lineF, hbl], HI3.out⟩, HB3.out⟩
    | cons t0 tr =>
      have hbl : blankL p = false := HBl.out
      cases st with
      | none =>
        gi_wp2_with fail
        refine ⟨((HKO.out.trans (KeepsOthers.setCell _ _ _)).trans (KeepsOthers.setCell _ _ _)).from _, (HK3.out.trans (kept3_set _ _ (by omega))).trans (kept3_set _ _ (by omega)), ⟨pl ++ [p], some p, by simp, HPP.out, by rw [HF.out]; simp [lineF, hbl], HI3.out.put hlt1 p⟩, ?_⟩
        exact (HB3.out.setCell (by show w.heap.size ≤ w1.heap.size; omega) _).setCell (by show w.heap.size ≤ w1.heap.size + 1; omega) _
      | some x =>
        gi_wp2_with fail
        refine ⟨((HKO.out.trans (KeepsOthers.setCell _ _ _)).trans (KeepsOthers.setCell _ _ _)).from _, ⟨rfl, lineF_none HPP.out (by rw [HF.out]; simp [lineF, hbl]), some x, ?_⟩, ?_⟩
        · have a1 := one_setCell (u := .string (B [])) HI3.out.r1
          have a2 := (Below.heap_setCell w3 ⟨w.heap.size, 0, none⟩ (.string (B [])) (w.heap.size + 1) (by show w.heap.size + 1 ≠ w.heap.size; omega)).trans HI3.out.r2
          refine ⟨(Below.heap_setCell _ ⟨w.heap.size + 1, 0, none⟩ _ _ (by show w.heap.size ≠ w.heap.size + 1; omega)).trans a1, one_setCell a2, ?_, ?_⟩
          · exact (Below.heap_setCell _ ⟨w.heap.size + 1, 0, none⟩ _ _ (by show w1.heap.size ≠ w.heap.size + 1; omega)).trans ((Below.heap_setCell _ ⟨w.heap.size, 0, none⟩ _ _ (by show w1.heap.size ≠ w.heap.size; omega)).trans HI3.out.v1)
          · exact (Below.heap_setCell _ ⟨w.heap.size + 1, 0, none⟩ _ _ (by show w1.heap.size + 1 ≠ w.heap.size + 1; omega)).trans ((Below.heap_setCell _ ⟨w.heap.size, 0, none⟩ _ _ (by show w1.heap.size + 1 ≠ w.heap.size; omega)).trans HI3.out.v2)
        · exact (HB3.out.setCell (Nat.le_refl _) _).setCell (Nat.le_succ _) _
  case done =>
    rintro D W hD ⟨⟨pl, st, hpl, hpre, hst, hinv⟩, hB⟩ hK
    obtain rfl : pl = splitK 10 0 l := ((List.map_inj_right (fun _ _ e => B_inj e)).1 hpl).symm
    have hres : r = (st.getD [], st.isSome) := by rw [← HR.out, hst]; cases st <;> rfl
    have c1 := cell_of_one hinv.r1
    have f1 := free_of_one hinv.r1
    have c2 := cell_of_one hinv.r2
    have f2 := free_of_one hinv.r2
    have c3 := cell_of_one hinv.v1
    have f3 := free_of_one hinv.v1
    have c4 := cell_of_one hinv.v2
    have f4 := free_of_one hinv.v2
    have HI := Lib.hid hinv
    have HRES := Lib.hid hres
    have HKD := Lib.hid hK
    have HBW := Lib.hid hB
    have hD2 : w.heap.size ≤ D := by have := HZ0.out; have := HZ2.out; omega
    clear hres hpl hpre hst hinv hB hK
    go_wp2_with fail
    go_region
    all_goals go_wp2_with fail
    all_goals
      rw [← HQ.out, HRES.out]
      have s1 := one_setCell (u := .string (B (st.getD []))) HI.out.r1
      have s2 := (Below.heap_setCell W ⟨w.heap.size, 0, none⟩ (.string (B (st.getD []))) (w.heap.size + 1) (by show w.heap.size + 1 ≠ w.heap.size; omega)).trans HI.out.r2
      have s3 := one_setCell (u := .bool st.isSome) s2
      have s4 := (Below.heap_setCell (W.setCell ⟨w.heap.size, 0, none⟩ (.string (B (st.getD [])))) ⟨w.heap.size + 1, 0, none⟩ (.bool st.isSome) w.heap.size (by show w.heap.size ≠ w.heap.size + 1; omega)).trans s1
      exact line_leave D w.heap.size w _ _ _ _ rfl rfl s4 s3 (((KeepsOthers.setCell _ _ _).trans (KeepsOthers.setCell _ _ _)).same _ _ HKD.out rfl) hD2 (((HBW.out.setCell (Nat.le_refl _) _).setCell (Nat.le_succ _) _).drew)
  case stop =>
    rintro D c pre W hD hpre ⟨⟨rfl, hnone, st, hinv⟩, hB⟩ hK
    have hres : r = ([], false) := by rw [← HR.out, hnone]; rfl
    have HRES := Lib.hid hres
    clear hres
    refine wpIn_wide.2 ?_
    go_wp2_with fail
    rw [← HQ.out, HRES.out]
    exact line_leave D w.heap.size w _ _ _ _ rfl rfl hinv.r1 hinv.r2 hK (by have := HZ0.out; have := HZ2.out; omega) hB
end Go.Proofs.YtaocdnebglnkeaaDoor.P
