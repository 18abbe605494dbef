/- What path.Clean computes, over lists of bytes. -/
import Derived.Test.YtaocdnebglnkeaaDoorSplit
import Derived.Test.YtaocdnebglnkeaaDoorPathPred
import Derived.WalkSmall
import Derived.Deep.DeepMust
set_option linter.unusedSimpArgs false
set_option linter.unusedVariables false
namespace Go.Proofs.YtaocdnebglnkeaaDoor.P
open Go.RowKit Go.Shelf Go.Proofs.YtaocdnebglnkeaaDoorW.PrintWords Go.Proofs.YtaocdnebglnkeaaDoor.U Go.Proofs.YtaocdnebglnkeaaDoor.Rng

def foldP : List (List UInt8) → List (List UInt8) → Option (List (List UInt8))
  | [], ps => some ps
  | p :: r, ps => if p = [] ∨ p = [46] then foldP r ps else if p = [46, 46] then (if ps = [] then none else foldP r ps.dropLast) else foldP r (ps ++ [p])
def joinP (ps : List (List UInt8)) : List UInt8 := [47].intercalate ps
def cleanL (l : List UInt8) : List UInt8 × Int :=
  if 1000 < l.length then ([], 3) else if l.head? = some 47 ∨ l.all plainB = false then ([], 5) else
  match foldP (splitK 47 0 l) [] with
  | none => ([], 5)
  | some ps => if joinP ps = [] then ([], 5) else if 100 < (joinP ps).length then ([], 3) else (joinP ps, 0)

set_option maxRecDepth 100000 in
set_option maxHeartbeats 1000000 in
theorem SplitSeq_any (s sep : ByteArray) (w : World) :
    Calls Tryd.prog 23 #[.string s, .string sep] w fun e w' => e = .returned (.func (.func 56) #[] #[.pointer (some ⟨w.heap.size + 1, 0, none⟩), .pointer (some ⟨w.heap.size, 0, none⟩), .pointer (some ⟨w.heap.size + 2, 0, none⟩)]) ∧
      ((w.alloc (.cells #[.string s] 9)).alloc (.cells #[.string sep] 9)).alloc (.cells #[.int .i64 0] 3) = w' := by
  go_enter Tryd.func23, Tryd.ntmps23
  go_wp2
  go_ret
  exact ⟨rfl, rfl⟩

theorem hasPrefix_slash (l : List UInt8) : Lib.hasPrefix l [47] = decide (l.head? = some 47) := by
  cases l with
  | nil => rfl
  | cons b l =>
    rw [Bool.eq_iff_iff]
    simp [Lib.hasPrefix, List.isPrefixOf]
    exact eq_comm

set_option maxRecDepth 100000 in
set_option maxHeartbeats 2000000 in
theorem clean_long (l : List UInt8) (h : 1000 < l.length) (w : World) :
    Calls Tryd.prog 15 #[.string (B l)] w fun e w' => e = .returned (.tuple #[.string (B []), .int .i64 3]) ∧ Below w.heap.size w w' := by
  have hs : (B l).size = l.length := size_B l
  have h' : (1000 : Int) < (l.length : Int) := by omega
  go_enter Tryd.func15, Tryd.ntmps15
  go_wp2
  go_step3
  go_wp2
  rw [Exit.noGoto_ret]
  refine bodyPost_ret (v := .tuple #[.string (B []), .int .i64 3]) (by simp [results, Tryd.results15, go_sem]) rfl ⟨rfl, ?_⟩
  exact (((((Below.refl _ w).alloc (Nat.le_refl _) _).alloc (by simp) _)))

set_option maxRecDepth 100000 in
set_option maxHeartbeats 2000000 in
theorem clean_slash (l : List UInt8) (h : l.length ≤ 1000) (hb : l.head? = some 47) (w : World) :
    Calls Tryd.prog 15 #[.string (B l)] w fun e w' => e = .returned (.tuple #[.string (B []), .int .i64 5]) ∧ Below w.heap.size w w' := by
  have hs : (B l).size = l.length := size_B l
  have h' : (l.length : Int) ≤ 1000 := by omega
  have HP : Hid (∀ W, Calls Tryd.prog 29 #[.string (B l), .string ⟨#[47]⟩] W fun e w' => e = .returned (.bool true) ∧ W = w') := fun W => by
    have := Tryd.strings_HasPrefix (B l) ⟨#[47]⟩ W
    rw [data_B, hasPrefix_slash, hb] at this
    exact this.mono fun e w' ⟨he, hw⟩ => ⟨he, hw.symm⟩
  clear hb
  go_enter Tryd.func15, Tryd.ntmps15
  go_wp2
  go_step3
  go_wp2_with fail
  refine (HP.out _).mono ?_
  rintro e w' ⟨rfl, rfl⟩
  go_wp2_with fail
  rw [Exit.noGoto_ret]
  refine bodyPost_ret (v := .tuple #[.string (B []), .int .i64 5]) (by simp [results, Tryd.results15, go_sem]) rfl ⟨rfl, ?_⟩
  exact ((Below.refl _ w).alloc (Nat.le_refl _) _).alloc (by simp) _

theorem idx_calls (l : List UInt8) (n : Int) (h : Lib.idxFunc (fun c => !plainR c) true (B l) = n) (W : World) :
    Calls Tryd.prog 30 #[.string (B l), .func (.func 31) #[] #[]] W fun e w' => e = .returned (.int .i64 n) ∧ Below W.heap.size W w' := by
  have := Tryd.strings_IndexFunc_grows 31 #[] (enters_of Tryd.func31 (by kernel_rfl) rfl) (fun c => !plainR c) (B l) W (notplain_grows W)
  rw [h] at this
  exact this

set_option maxRecDepth 100000 in
set_option maxHeartbeats 2000000 in
theorem clean_bad (l : List UInt8) (h : l.length ≤ 1000) (hb : ¬ l.head? = some 47) (hp : l.all plainB = false) (w : World) :
    Calls Tryd.prog 15 #[.string (B l)] w fun e w' => e = .returned (.tuple #[.string (B []), .int .i64 5]) ∧ Below w.heap.size w w' := by
  have hs : (B l).size = l.length := size_B l
  have h' : (l.length : Int) ≤ 1000 := by omega
  have HP : Hid (∀ W, Calls Tryd.prog 29 #[.string (B l), .string ⟨#[47]⟩] W fun e w' => e = .returned (.bool false) ∧ W = w') := fun W => by
    have := Tryd.strings_HasPrefix (B l) ⟨#[47]⟩ W
    rw [data_B, hasPrefix_slash, decide_eq_false hb] at this
    exact this.mono fun e w' ⟨he, hw⟩ => ⟨he, hw.symm⟩
  obtain ⟨i, hi⟩ : ∃ i, Lib.idxFunc (fun c => !plainR c) true (B l) = i := ⟨_, rfl⟩
  have hi0 : 0 ≤ i := by rw [← hi]; exact (idx_plain l).2 hp
  have HI := Lib.hid (idx_calls l i hi)
  clear hb hp hi
  go_enter Tryd.func15, Tryd.ntmps15
  go_wp2
  go_step3
  go_wp2_with fail
  refine (HP.out _).mono ?_
  rintro e w' ⟨rfl, rfl⟩
  go_wp2_with fail
  refine (HI.out _).mono ?_
  rintro e w' ⟨rfl, hb⟩
  have b1 : w'.heap[w.heap.size]? = some (.cells #[.string (B [])] 9 (0, 0)) := (hb.block _ (by simp; omega)).trans ((Below.heap_alloc _ _ _ (by simp)).trans (heap_alloc_new w _))
  have b2 : w'.heap[w.heap.size + 1]? = some (.cells #[.int .i64 0] 23 (0, 0)) := (hb.block _ (by simp)).trans (by simpa using heap_alloc_new (w.alloc _) _)
  have c1 := cell_of_one b1
  have c2 := cell_of_one b2
  have f1 := free_of_one b1
  have f2 := free_of_one b2
  go_wp2_with fail
  rw [Exit.noGoto_ret]
  have b1' := one_setCell (u := .string (B [])) b1
  have b2' : (w'.setCell ⟨w.heap.size, 0, none⟩ (.string (B []))).heap[w.heap.size + 1]? = _ := (Below.heap_setCell w' ⟨w.heap.size, 0, none⟩ _ (w.heap.size + 1) (by show w.heap.size + 1 ≠ w.heap.size; omega)).trans b2
  have b2'' := one_setCell (u := .int .i64 5) b2'
  have b1'' := (Below.heap_setCell (w'.setCell ⟨w.heap.size, 0, none⟩ (.string (B []))) ⟨w.heap.size + 1, 0, none⟩ (.int .i64 5) w.heap.size (by show w.heap.size ≠ w.heap.size + 1; omega)).trans b1'
  have k1 := cell_of_one b1''
  have k2 := cell_of_one b2''
  refine bodyPost_ret (v := .tuple #[.string (B []), .int .i64 5]) (by simp [results, Tryd.results15, go_sem, k1, k2]) rfl ⟨rfl, ?_⟩
  exact (((((Below.refl _ w).alloc (Nat.le_refl _) _).alloc (by simp) _).trans (hb.mono (by simp; omega))).setCell (Nat.le_refl _) _).setCell (Nat.le_succ _) _

theorem SplitSeq_calls (l : List UInt8) (W : World) :
    Calls Tryd.prog 23 #[.string (B l), .string ⟨#[47]⟩] W fun e w' => e = .returned (.func (.func 56) #[] #[.pointer (some ⟨W.heap.size + 1, 0, none⟩), .pointer (some ⟨W.heap.size, 0, none⟩), .pointer (some ⟨W.heap.size + 2, 0, none⟩)]) ∧
      Below W.heap.size W w' ∧ W.heap.size + 2 < w'.heap.size ∧ w'.heap[W.heap.size]? = some (.cells #[.string (B l)] 9 (0, 0)) ∧ w'.heap[W.heap.size + 1]? = some (.cells #[.string (B [47])] 9 (0, 0)) ∧ w'.heap[W.heap.size + 2]? = some (.cells #[.int .i64 0] 3 (0, 0)) :=
  (SplitSeq_any (B l) ⟨#[47]⟩ W).mono fun e w' ⟨he, hw⟩ => by
    subst hw
    refine ⟨he, (((Below.refl _ W).alloc (Nat.le_refl _) _).alloc (by simp) _).alloc (by simp; omega) _, by simp, ?_, ?_, ?_⟩
    · exact (Below.heap_alloc _ _ _ (by simp; omega)).trans ((Below.heap_alloc _ _ _ (by simp)).trans (heap_alloc_new W _))
    · exact (Below.heap_alloc _ _ _ (by simp)).trans (by simpa using heap_alloc_new (W.alloc (.cells #[.string (B l)] 9)) (.cells #[.string (B [47])] 9))
    · simpa using heap_alloc_new ((W.alloc (.cells #[.string (B l)] 9)).alloc (.cells #[.string (B [47])] 9)) (.cells #[.int .i64 0] 3)

theorem foldP_append (a b ps : List (List UInt8)) : foldP (a ++ b) ps = (foldP a ps).bind (foldP b) := by
  induction a generalizing ps with
  | nil => rfl
  | cons p a ih =>
    rw [List.cons_append, foldP, foldP]
    split
    · exact ih ps
    · split
      · split
        · rfl
        · exact ih _
      · exact ih _
theorem foldP_none {a b c : List (List UInt8)} (h : a <+: b) (ha : foldP a c = none) : foldP b c = none := by
  obtain ⟨t, rfl⟩ := h
  rw [foldP_append, ha]; rfl
theorem map_snoc_prefix {pl q : List (List UInt8)} {x : ByteArray} (h : (pl.map B ++ [x]) <+: q.map B) : ∃ p, x = B p ∧ (pl ++ [p]) <+: q := by
  obtain ⟨t, ht⟩ := h
  have hlen : pl.length < q.length := by have := congrArg List.length ht; simp at this; omega
  have h1 : pl = q.take pl.length := by
    have := congrArg (List.take pl.length) ht
    rw [List.append_assoc, List.take_left' (by simp), ← List.map_take] at this
    exact (List.map_inj_right (fun _ _ e => B_inj e)).1 this
  have h2 : x = B q[pl.length] := by
    have := congrArg (fun z => z[pl.length]?) ht
    simp [List.getElem?_append, List.getElem?_eq_getElem hlen] at this
    exact this
  refine ⟨q[pl.length], h2, ?_⟩
  have : pl ++ [q[pl.length]] = q.take (pl.length + 1) := by
    rw [List.take_succ_eq_append_getElem hlen, ← h1]
  rw [this]
  exact List.take_prefix _ _
theorem foldP_len (a : List (List UInt8)) : ∀ ps qs, foldP a ps = some qs → qs.length ≤ ps.length + a.length := by
  induction a with
  | nil => intro ps qs h; simp [foldP] at h; subst h; simp
  | cons p a ih =>
    intro ps qs h
    rw [foldP] at h
    split at h
    · have := ih _ _ h; simp; omega
    · split at h
      · split at h
        · cases h
        · have := ih _ _ h; simp at this ⊢; omega
      · have := ih _ _ h; simp at this ⊢; omega
theorem splitK_len (c : UInt8) (k : Nat) (l : List UInt8) : (splitK c k l).length ≤ l.length + 1 := by
  induction l with
  | nil => simp [splitK]
  | cons b l ih =>
    rw [splitK]; split
    · simp; omega
    · split
      · simp
      · rename_i p ps he
        rw [he] at ih
        simp at ih ⊢; omega

/-- The caller's own cells, while the parts ps have been gathered: N, N + 1 hold the results, pb the variable parts; its row lies from bs on. -/
structure CInv (N pb bs : Nat) (e : Int) (ps : List (List UInt8)) (W : World) : Prop where
  r1 : W.heap[N]? = some (.cells #[.string (B [])] 9 (0, 0))
  r2 : W.heap[N + 1]? = some (.cells #[.int .i64 e] 23 (0, 0))
  le : bs ≤ W.heap.size
  parts : ∃ v, W.heap[pb]? = some (.cells #[v] 22 (0, 0)) ∧ W.ownsRow bs 9 1 v ps.length (ps.map fun x => Value.string (B x))
theorem heap_keep {W W' : World} {row : Option Nat} {k : Nat} {cs : Array Value} {t : TypeId} (hg : W.grownBy W' row) (hr : ∀ r, row = some r → ∃ o : Obj, W.heap[r]? = some o ∧ o.isCells = false) (h : W.heap[k]? = some (.cells cs t (0, 0))) : W'.heap[k]? = some (.cells cs t (0, 0)) := by
  refine (hg.block k (lt_of_block h) fun e => ?_).trans h
  obtain ⟨o, ho, hc⟩ := hr k e.symm
  rw [h] at ho
  cases ho
  cases hc
theorem CInv.own (N pb bs : Nat) (e : Int) : Own (CInv N pb bs e) := fun ps A C row hs hg hr => by
  obtain ⟨h1, h2, hz, v, hv, ho⟩ := hs
  refine ⟨heap_keep hg hr h1, heap_keep hg hr h2, Nat.le_trans hz hg.size, v, heap_keep hg hr hv, ho.kept hg ?_⟩
  rcases ho.2 with ⟨rfl, _⟩ | ⟨g, cap, cur, rfl, _, hh, _⟩
  · exact .inl rfl
  · right
    intro e
    obtain ⟨o, ho', hc⟩ := hr g e.symm
    rw [hh] at ho'
    cases ho'
    cases hc
theorem CInv.set_other {N pb bs k : Nat} {e : Int} {ps : List (List UInt8)} {W : World} (h : CInv N pb bs e ps W) (hN : N + 1 < k) (hpb : pb < k) (hk : k < bs) (u : Value) : CInv N pb bs e ps (W.setCell ⟨k, 0, none⟩ u) := by
  obtain ⟨h1, h2, hz, v, hv, ho⟩ := h
  exact ⟨(Below.heap_setCell _ _ _ _ (by show N ≠ k; omega)).trans h1, (Below.heap_setCell _ _ _ _ (by show N + 1 ≠ k; omega)).trans h2, by simpa [World.setCell] using hz, v, (Below.heap_setCell _ _ _ _ (by show pb ≠ k; omega)).trans hv, ownsRow_setCell_below ho (a := ⟨k, 0, none⟩) hk u⟩

theorem kept3_set {b k : Nat} (W : World) (u : Value) (h : k < b) : Kept3 b W (W.setCell ⟨k, 0, none⟩ u) :=
  ⟨Below.heap_setCell _ _ _ _ (by show b ≠ k; omega), Below.heap_setCell _ _ _ _ (by show b + 1 ≠ k; omega), Below.heap_setCell _ _ _ _ (by show b + 2 ≠ k; omega)⟩
theorem CInv.fail {N pb bs : Nat} {ps : List (List UInt8)} {W : World} (h : CInv N pb bs 0 ps W) (hN : N + 1 < pb) (hb : pb < bs) :
    CInv N pb bs 5 ps ((W.setCell ⟨N, 0, none⟩ (.string (B []))).setCell ⟨N + 1, 0, none⟩ (.int .i64 5)) := by
  obtain ⟨h1, h2, hz, v, hv, ho⟩ := h
  have g1 := one_setCell (u := .string (B [])) h1
  have g2 : (W.setCell ⟨N, 0, none⟩ (.string (B []))).heap[N + 1]? = _ := (Below.heap_setCell W ⟨N, 0, none⟩ _ (N + 1) (by show N + 1 ≠ N; omega)).trans h2
  refine ⟨(Below.heap_setCell _ _ _ _ (by show N ≠ N + 1; omega)).trans g1, one_setCell g2, by simpa [World.setCell] using hz, v, ?_, ?_⟩
  · exact (Below.heap_setCell _ _ _ _ (by show pb ≠ N + 1; omega)).trans ((Below.heap_setCell _ _ _ _ (by show pb ≠ N; omega)).trans hv)
  · exact ownsRow_setCell_below (ownsRow_setCell_below ho (a := ⟨N, 0, none⟩) (by show N < bs; omega) _) (a := ⟨N + 1, 0, none⟩) (by show N + 1 < bs; omega) _
theorem CInv.put {N pb bs : Nat} {e : Int} {ps qs : List (List UInt8)} {W : World} (h : CInv N pb bs e ps W) (hN : N + 1 < pb) (hb : pb < bs) {u : Value} (ho : W.ownsRow bs 9 1 u qs.length (qs.map fun x => Value.string (B x))) :
    CInv N pb bs e qs (W.setCell ⟨pb, 0, none⟩ u) := by
  obtain ⟨h1, h2, hz, v, hv, _⟩ := h
  exact ⟨(Below.heap_setCell _ _ _ _ (by show N ≠ pb; omega)).trans h1, (Below.heap_setCell _ _ _ _ (by show N + 1 ≠ pb; omega)).trans h2, by simpa [World.setCell] using hz, u, one_setCell hv, ownsRow_setCell_below ho (a := ⟨pb, 0, none⟩) hb u⟩
/-- Behind an append to the row and the store of the row into its variable. -/
theorem CInv.push {N pb bs : Nat} {e : Int} {ps qs : List (List UInt8)} {W W' : World} {row : Option Nat} {u : Value} (h : CInv N pb bs e ps W) (hN : N + 1 < pb) (hb : pb < bs) (hg : W.grownBy W' row) (hr : ∀ k, row = some k → bs ≤ k)
    (ho : W'.ownsRow bs 9 1 u qs.length (qs.map fun x => Value.string (B x))) :
    (∃ v, W'.heap[pb]? = some (.cells #[v] 22 (0, 0))) ∧ CInv N pb bs e qs (W'.setCell ⟨pb, 0, none⟩ u) := by
  obtain ⟨h1, h2, hz, v, hv, _⟩ := h
  have keep : ∀ k, k < bs → k < W.heap.size → W'.heap[k]? = W.heap[k]? := fun k hk hl => hg.block k hl (fun e => by have := hr k e.symm; omega)
  have g1 := (keep N (by omega) (lt_of_block h1)).trans h1
  have g2 := (keep _ (by omega) (lt_of_block h2)).trans h2
  have g3 := (keep pb hb (lt_of_block hv)).trans hv
  exact ⟨⟨v, g3⟩, (Below.heap_setCell _ _ _ _ (by show N ≠ pb; omega)).trans g1, (Below.heap_setCell _ _ _ _ (by show N + 1 ≠ pb; omega)).trans g2, by simpa [World.setCell] using Nat.le_trans hz hg.size, u, one_setCell g3, ownsRow_setCell_below ho (a := ⟨pb, 0, none⟩) hb u⟩
theorem kept3_grown {b bs : Nat} {W W' : World} {row : Option Nat} (hg : W.grownBy W' row) (hr : ∀ k, row = some k → bs ≤ k) (hb : b + 2 < bs) (hz : bs ≤ W.heap.size) : Kept3 b W W' := by
  have keep : ∀ k, k < bs → W'.heap[k]? = W.heap[k]? := fun k hk => hg.block k (by omega) (fun e => by have := hr k e.symm; omega)
  exact ⟨keep _ (by omega), keep _ (by omega), keep _ (by omega)⟩
theorem keepsOthers_own {bs n : Nat} {v : Value} {xs : List Value} {W W' : World} (ho : W.ownsRow bs 9 1 v n xs) (hg : W.grownBy W' v.ownBlock) : KeepsOthers W W' := by
  refine ⟨hg.size, fun k o hk hc => (hg.block k (Array.getElem?_eq_some_iff.1 hk).1 fun e => ?_).trans hk⟩
  rcases ho.2 with ⟨rfl, _⟩ | ⟨g, cap, cur, rfl, _, hh, _⟩
  · simp [Value.ownBlock] at e
  · simp only [Value.ownBlock, Option.some.injEq] at e
    subst e
    rw [hh] at hk
    cases hk
    cases hc
def totalP (l : List (List UInt8)) : Nat := (l.map List.length).sum
theorem joinP_len (ps : List (List UInt8)) : (joinP ps).length ≤ totalP ps + ps.length := by
  induction ps with
  | nil => simp [joinP, List.intercalate]
  | cons p ps ih =>
    cases ps with
    | nil => simp [joinP, List.intercalate, totalP]
    | cons q r =>
      have e : joinP (p :: q :: r) = p ++ 47 :: joinP (q :: r) := by simp [joinP, List.intercalate, List.intersperse]
      rw [e]
      simp [totalP] at ih ⊢
      omega
theorem totalP_dropLast (ps : List (List UInt8)) : totalP ps.dropLast ≤ totalP ps := by
  by_cases h : ps = []
  · subst h; simp
  · obtain ⟨qs, q, rfl⟩ : ∃ qs q, ps = qs ++ [q] := ⟨ps.dropLast, ps.getLast h, (List.dropLast_concat_getLast h).symm⟩
    simp [totalP]
theorem foldP_total (a : List (List UInt8)) : ∀ ps qs, foldP a ps = some qs → totalP qs ≤ totalP ps + totalP a := by
  induction a with
  | nil => intro ps qs h; simp [foldP] at h; subst h; simp [totalP]
  | cons p a ih =>
    intro ps qs h
    have hc : totalP (p :: a) = p.length + totalP a := by simp [totalP]
    rw [foldP] at h
    split at h
    · have := ih _ _ h; omega
    · split at h
      · split at h
        · cases h
        · have := ih _ _ h; have := totalP_dropLast ps; omega
      · have := ih _ _ h
        have e : totalP (ps ++ [p]) = totalP ps + p.length := by simp [totalP]
        omega
theorem splitK_total (c : UInt8) (l : List UInt8) : totalP (splitK c 0 l) ≤ l.length := by
  induction l with
  | nil => simp [splitK, totalP]
  | cons b l ih =>
    rw [splitK]; split
    · simp [totalP] at ih ⊢; omega
    · split
      · simp [totalP]
      · rename_i p ps he
        rw [he] at ih
        simp [totalP] at ih ⊢; omega
theorem join_calls (bs : Nat) (v : Value) (ps : List (List UInt8)) (W : World) (ho : W.ownsRow bs 9 1 v ps.length (ps.map fun x => Value.string (B x))) (hl : totalP ps + ps.length ≤ 1000000) :
    Calls Tryd.prog 21 #[v, .string ⟨#[47]⟩] W fun e w' => e = .returned (.string (B (joinP ps))) ∧ Below W.heap.size W w' := by
  by_cases h0 : ps = []
  · subst h0
    obtain ⟨A0, c0, rfl⟩ := own_slice ho
    exact (Tryd.strings_Join_none A0 c0 ⟨#[47]⟩ W).mono fun e w' ⟨he, hw⟩ => ⟨he, hw ▸ Below.refl _ _⟩
  · have hpos := List.length_pos_iff.2 h0
    have ho' := ho
    rcases ho.2 with ⟨_, hz⟩ | ⟨g, cap, cur, rfl, _, hh, hcap1, hcap2, _⟩
    · omega
    have hj : (ps.map B).map (fun x => x.data.toList) = ps := by simp [Function.comp_def]
    have := Tryd.strings_Join g 0 cap (ps.map B) ⟨#[47]⟩ W (fun j x hx => by
      have hj : j < ps.length := by have := (List.getElem?_eq_some_iff.1 hx).1; simpa using this
      have hc := ho'.cellAt j (by omega)
      rw [Nat.zero_add, hc]
      simp [List.getElem?_eq_getElem hj] at hx ⊢
      exact hx) (lt_of_block hh) (by simp; omega) (by simp; omega) (by
        rw [hj]; have := joinP_len ps; show (joinP ps).length ≤ _; omega)
    rw [hj, List.length_map] at this
    exact this

theorem infoStr : (Tryd.prog.info? 9).map (fun i => (i.zero, i.size, i.bytes)) = some (some (.string ⟨#[]⟩), 1, 16) := by kernel_rfl

theorem clean_leave (D N : Nat) (w W : World) (s : ByteArray) (e : Int) (tmps : Array Value) (ht2 : tmps[2]?.getD undef = .pointer (some ⟨N, 0, none⟩)) (ht3 : tmps[3]?.getD undef = .pointer (some ⟨N + 1, 0, none⟩))
    (h1 : W.heap[N]? = some (.cells #[.string s] 9 (0, 0))) (h2 : W.heap[N + 1]? = some (.cells #[.int .i64 e] 23 (0, 0))) (hK : W.heap[D]? = some (.deferred (some []))) (hD : w.heap.size ≤ D) (hB : Below w.heap.size w W) :
    bodyPostM Fence.wide 3 Tryd.prog Tryd.f15 (fun e' w' => e' = .returned (.tuple #[.string s, .int .i64 e]) ∧ Below w.heap.size w w') .ret { tmps := tmps, defers := [{ target := .collected D, args := #[] }] } W := by
  refine ⟨by simp, .inl ⟨_, _, rfl, run_takeDeferred hK, ?_⟩⟩
  have c1 := cell_kept (cell_of_one h1) (grownBy_putObj' _ D (.deferred none)) (fun r e => by cases e; exact ⟨_, hK, rfl⟩)
  have c2 := cell_kept (cell_of_one h2) (grownBy_putObj' _ D (.deferred none)) (fun r e => by cases e; exact ⟨_, hK, rfl⟩)
  refine ⟨.tuple #[.string s, .int .i64 e], ?_, rfl, hB.trans (belowK_b (w := w) (Nat.le_refl _) W D _ _ hD hK rfl rfl)⟩
  simp [results, Tryd.f15, go_sem, ht2, ht3, c1, c2]

attribute [local go_sem] Oper.semAt_some
set_option maxRecDepth 100000 in
set_option maxHeartbeats 8000000 in
theorem clean_main (l : List UInt8) (h : l.length ≤ 1000) (hb : ¬ l.head? = some 47) (hp : l.all plainB = true) (r : List UInt8 × Int) (hr : cleanL l = r) (w : World) :
    Calls Tryd.prog 15 #[.string (B l)] w fun e w' => e = .returned (.tuple #[.string (B r.1), .int .i64 r.2]) ∧ Below w.heap.size w w' := by
  have hs : (B l).size = l.length := size_B l
  have h' : (l.length : Int) ≤ 1000 := by omega
  have HP : Hid (∀ W, Calls Tryd.prog 29 #[.string (B l), .string ⟨#[47]⟩] W fun e w' => e = .returned (.bool false) ∧ W = w') := fun W => by
    have := Tryd.strings_HasPrefix (B l) ⟨#[47]⟩ W
    rw [data_B, hasPrefix_slash, decide_eq_false hb] at this
    exact this.mono fun e w' ⟨he, hw⟩ => ⟨he, hw.symm⟩
  have HI := Lib.hid (idx_calls l (-1) ((idx_plain l).1 hp))
  have HB := Lib.hid hb
  have HPL := Lib.hid hp
  have HR := Lib.hid hr
  clear hb hp hr
  refine (callsIn_wide (n := 3)).1 ?_
  refine callsIn_of_wp_marks Tryd.func15 rfl trivial ?_ rfl
  simp only [Tryd.ntmps15, List.size_toArray, List.length_cons, List.length_nil, Nat.reduceAdd, Nat.reduceSub, Array.replicate_succ, Array.replicate_zero, List.push_toArray, List.append_toArray, List.nil_append, List.cons_append]
  refine wpIn_wide.2 ?_
  obtain ⟨Q, hQ⟩ : ∃ Q, bodyPostM Fence.wide 3 Tryd.prog Tryd.f15 (fun e w' => e = .returned (.tuple #[.string (B r.1), .int .i64 r.2]) ∧ Below w.heap.size w w') = Q := ⟨_, rfl⟩
  rw [hQ]
  have HQ := Lib.hid hQ
  clear hQ
  go_wp2
  go_step3
  go_wp2_with fail
  refine (HP.out _).mono ?_
  rintro e w' ⟨rfl, rfl⟩
  go_wp2_with fail
  refine (HI.out _).mono ?_
  rintro e w1 ⟨rfl, hb⟩
  go_wp2_with fail
  go_step3
  have hd : decide ((1000 : Int) < (l.length : Int)) = false := by simp; omega
  have hlt1 : w.heap.size + 1 < w1.heap.size := by have := hb.size; simp at this; omega
  obtain ⟨W0, hW0⟩ : ∃ W0, w1.alloc (.cells #[.slice none 0 0] 22) = W0 := ⟨_, rfl⟩
  have hz0 : W0.heap.size = w1.heap.size + 1 := by rw [← hW0]; simp
  have b1 : W0.heap[w.heap.size]? = some (.cells #[.string (B [])] 9 (0, 0)) := by
    rw [← hW0]; exact (Below.heap_alloc _ _ _ (by omega)).trans ((hb.block _ (by simp; omega)).trans ((Below.heap_alloc _ _ _ (by simp)).trans (heap_alloc_new w _)))
  have b2 : W0.heap[w.heap.size + 1]? = some (.cells #[.int .i64 0] 23 (0, 0)) := by
    rw [← hW0]; exact (Below.heap_alloc _ _ _ (by omega)).trans ((hb.block _ (by simp)).trans (by simpa using heap_alloc_new (w.alloc _) _))
  have b3 : W0.heap[w1.heap.size]? = some (.cells #[.slice none 0 0] 22 (0, 0)) := by rw [← hW0]; exact heap_alloc_new _ _
  have hB0 : Below w.heap.size w W0 := by
    rw [← hW0]; exact ((((Below.refl _ w).alloc (Nat.le_refl _) _).alloc (by simp) _).trans (hb.mono (by simp; omega))).alloc (by omega) _
  rw [hW0]
  have H1 := Lib.hid b1
  have H2 := Lib.hid b2
  have H3 := Lib.hid b3
  have HB0 := Lib.hid hB0
  have HZ0 := Lib.hid hz0
  clear hW0 hb b1 b2 b3 hB0 hz0
  go_wp2_with fail
  refine (SplitSeq_calls l _).mono ?_
  rintro e w2 ⟨rfl, hb2, hz2, i0, i1, i2⟩
  rw [HZ0.out] at hz2 i0 i1 i2
  have HBB2 := Lib.hid hb2
  have I0 := Lib.hid i0
  have I1 := Lib.hid i1
  have I2 := Lib.hid i2
  have HZ2 := Lib.hid hz2
  clear hb2 i0 i1 i2 hz2
  go_wp2_with fail
  refine wpIn_wide.1 (wp_range_str (gf := 56) (lb := #[.pointer (some ⟨W0.heap.size + 1, 0, none⟩), .pointer (some ⟨W0.heap.size, 0, none⟩), .pointer (some ⟨W0.heap.size + 2, 0, none⟩)]) rfl (enters_of Tryd.func56 (by kernel_rfl) rfl)
    (split_seq 47 0 (by omega) W0.heap.size l (by omega) w2 ?hlt ?i0 ?i1 ?i2) (Below.refl _ _) ?hbw
    (fun pre W => (∃ pl ps, pre = pl.map B ∧ pl <+: splitK 47 0 l ∧ foldP pl [] = some ps ∧ CInv w.heap.size w1.heap.size w2.heap.size 0 ps W) ∧ Below w.heap.size w W)
    (fun c pre W => (c = .ret ∧ foldP (splitK 47 0 l) [] = none ∧ ∃ ps, CInv w.heap.size w1.heap.size w2.heap.size 5 ps W) ∧ Below w.heap.size w W)
    ?hI ?hIx ?hIs ?h0 ?a1 ?assign ?body ?done ?stop)
  case i0 => rw [HZ0.out]; exact I0.out
  case i1 => rw [HZ0.out]; exact I1.out
  case i2 => rw [HZ0.out]; exact I2.out
  case hlt => rw [HZ0.out]; exact HZ2.out
  case hbw => rw [HZ0.out]; exact HZ2.out
  case hI =>
    refine OwnFrom.and (Own.from (fun s A C row hs hg hr => ?_) _) (ownFrom_below (Nat.le_refl _) ?_)
    · obtain ⟨pl, ps, h1, h2, h3, h4⟩ := hs
      exact ⟨pl, ps, h1, h2, h3, CInv.own _ _ _ _ ps A C row h4 hg hr⟩
    · have := HZ2.out; omega
  case hIx =>
    intro c
    refine OwnFrom.and (Own.from (fun s A C row hs hg hr => ?_) _) (ownFrom_below (Nat.le_refl _) ?_)
    · obtain ⟨h1, h2, ps, h4⟩ := hs
      exact ⟨h1, h2, ps, CInv.own _ _ _ _ ps A C row h4 hg hr⟩
    · have := HZ2.out; omega
  case hIs =>
    rintro pre W u ⟨⟨pl, ps, h1, h2, h3, h4⟩, h5⟩
    exact ⟨⟨pl, ps, h1, h2, h3, h4.set_other (by have := HZ0.out; omega) (by have := HZ0.out; omega) (by have := HZ0.out; have := HZ2.out; omega) u⟩, h5.setCell (by show w.heap.size ≤ W0.heap.size; have := HZ0.out; omega) u⟩
  case h0 =>
    refine ⟨⟨[], [], rfl, List.nil_prefix, rfl, (HBB2.out.block _ (by have := HZ0.out; omega)).trans H1.out, (HBB2.out.block _ (by have := HZ0.out; omega)).trans H2.out, Nat.le_refl _, .slice none 0 0, (HBB2.out.block _ (by have := HZ0.out; omega)).trans H3.out, World.ownsRow_nil _ _ _ _⟩, ?_⟩
    exact HB0.out.trans (HBB2.out.mono (by have := HZ0.out; omega))
  case assign =>
    intro l' x W K hK
    simp only [List.zip_toArray, List.zip_cons_cons, List.zip_nil_right, List.foldl_toArray, List.foldl_cons, List.foldl_nil, List.setIfInBounds_toArray, List.set_cons_succ, List.set_cons_zero]
    gi_wp2
    exact hK
  case body =>
    have hpb : w1.heap.size < w2.heap.size := by have := HZ0.out; have := HZ2.out; omega
    rintro l' pre x W ⟨⟨pl, ps, rfl, hpl, hps, hinv⟩, hB⟩ hpx
    obtain ⟨p, rfl, hpp⟩ := map_snoc_prefix hpx
    have hfold : foldP (pl ++ [p]) [] = foldP [p] ps := by rw [foldP_append, hps]; rfl
    have HF := Lib.hid hfold
    have hlp := foldP_len _ _ _ hps
    have hlk := splitK_len 47 0 l
    have hll := hpl.length_le
    have hpn : ps.length ≤ 1001 := by simp at hlp; omega
    have HI := Lib.hid hinv
    have HPP := Lib.hid hpp
    obtain ⟨v, hv, hown⟩ := hinv.parts
    have c1 := cell_of_one hinv.r1
    have f1 := free_of_one hinv.r1
    have c2 := cell_of_one hinv.r2
    have f2 := free_of_one hinv.r2
    have c3 := cell_of_one hv
    have f3 := free_of_one hv
    clear hfold hlp hlk hll hpl hps hpx hpp hinv
    by_cases p0 : p = []
    · subst p0
      gi_wp2_with fail
      exact ⟨KeepsFrom.refl _ _, Kept3.refl _ _, ⟨pl ++ [[]], ps, by simp, HPP.out, by rw [HF.out]; simp [foldP], HI.out⟩, hB⟩
    by_cases p1 : p = [46]
    · subst p1
      gi_wp2_with fail
      exact ⟨KeepsFrom.refl _ _, Kept3.refl _ _, ⟨pl ++ [[46]], ps, by simp, HPP.out, by rw [HF.out]; simp [foldP], HI.out⟩, hB⟩
    by_cases p2 : p = [46, 46]
    · subst p2
      by_cases hps0 : ps = []
      · subst hps0
        obtain ⟨A0, c0, rfl⟩ := own_slice hown
        gi_wp2_with fail
        refine ⟨((KeepsOthers.setCell _ _ _).trans (KeepsOthers.setCell _ _ _)).from _, ⟨rfl, foldP_none HPP.out (by rw [HF.out]; simp [foldP]), [], HI.out.fail hlt1 hpb⟩, ?_⟩
        exact (hB.setCell (Nat.le_refl _) _).setCell (Nat.le_succ _) _
      · obtain ⟨qs, q, rfl⟩ : ∃ qs q, ps = qs ++ [q] := ⟨ps.dropLast, ps.getLast hps0, (List.dropLast_concat_getLast hps0).symm⟩
        rw [List.length_append, List.length_singleton, List.map_append] at hown
        have hown' := hown
        rcases hown'.2 with ⟨_, h0⟩ | ⟨g, cap, cur, rfl, _, _, hcap1, hcap2, _⟩
        · omega
        have hpop := ownsRow_pop (by simp) hown
        have HPOP := Lib.hid hpop
        have hcap3 : ((qs.length : Int)) ≤ (cap : Int) := by omega
        have hq : qs.length ≤ 1001 := by rw [List.length_append] at hpn; omega
        clear hown hown' hpop hpn
        gi_wp2_with fail
        refine ⟨(KeepsOthers.setCell _ _ _).from _, kept3_set _ _ (by have := HZ0.out; omega), ⟨pl ++ [[46, 46]], qs, by simp, HPP.out, by rw [HF.out]; simp [foldP], HI.out.put hlt1 hpb HPOP.out⟩, ?_⟩
        exact hB.setCell (by show w.heap.size ≤ w1.heap.size; omega) _
    · have q0 : p.isEmpty = false := by simpa using p0
      have q1 : (p == [46]) = false := by simpa using p1
      have q2 : (p == [46, 46]) = false := by simpa using p2
      have HFF : Hid (foldP [p] ps = some (ps ++ [p])) := by
        show foldP [p] ps = some (ps ++ [p])
        simp [foldP, p0, p1, p2]
      clear p0 p1 p2
      obtain ⟨i0, hi, hz0, hz1, hz2⟩ := info_parts infoStr
      have hle2 := HI.out.le
      gi_wp2_with (gi_at_builtin; go_must (refine wpListIn_append_own _ rfl _ _ 22 rfl w2.heap.size 9 i0 (.string ⟨#[]⟩) 1 16 Tryd.underlying22 hi hz0 hz1 hz2 rfl (by decide) _ _ _ rfl (hown.alloc _) ⟨W.heap.size, 0, none⟩ 1 1 [.string (B p)] rfl rfl (cell_one_new _ _ _) (by simp [Value.oneCell']) (by unfold maxLen; omega) (by omega) (by simp; omega) ?_; intro v' w3 hown' hgrow _; obtain ⟨g', cap', rfl⟩ := ownsRow_succ hown'; have HG := Lib.hid ((World.grownBy_alloc W _ v.ownBlock).trans hgrow); have HP := Lib.hid (HI.out.push hlt1 hpb HG.out (own_base hown) (qs := ps ++ [p]) (by simpa using hown')); obtain ⟨v3, hv3⟩ := HP.out.1; have k3 := cell_of_one hv3; have m3 := free_of_one hv3; clear hown' hgrow))
      have hKO : KeepsOthers W w3 := keepsOthers_own hown HG.out
      have hK3 : Kept3 W0.heap.size W w3 := kept3_grown HG.out (own_base hown) (by have := HZ0.out; have := HZ2.out; omega) hle2
      have hBW : Below w.heap.size w w3 := hB.grown HG.out hB.size (fun k hk => by have := own_base hown k hk; omega)
      refine ⟨(hKO.trans (KeepsOthers.setCell _ _ _)).from _, hK3.trans (kept3_set _ _ (by have := HZ0.out; omega)), ⟨pl ++ [p], ps ++ [p], by simp, HPP.out, by rw [HF.out, HFF.out], HP.out.2⟩, ?_⟩
      exact hBW.setCell (by show w.heap.size ≤ w1.heap.size; omega) _
  case done =>
    rintro D W hD ⟨⟨pl, ps, hpl, hpre, hps, hinv⟩, hB⟩ hK
    obtain rfl : pl = splitK 47 0 l := ((List.map_inj_right (fun _ _ e => B_inj e)).1 hpl).symm
    obtain ⟨v, hv, hown⟩ := hinv.parts
    have c1 := cell_of_one hinv.r1
    have f1 := free_of_one hinv.r1
    have c2 := cell_of_one hinv.r2
    have f2 := free_of_one hinv.r2
    have c3 := cell_of_one hv
    have f3 := free_of_one hv
    have HPS := Lib.hid hps
    have HIN := Lib.hid hinv
    have ht1 := foldP_total _ _ _ hps
    have ht2 := splitK_total 47 l
    have ht3 := foldP_len _ _ _ hps
    have ht4 := splitK_len 47 0 l
    have HJ := Lib.hid (join_calls w2.heap.size v ps W hown (by simp [totalP] at ht1 ht2 ht3; simp [totalP]; omega))
    have hD2 : w.heap.size ≤ D := by have := HZ0.out; have := HZ2.out; omega
    clear ht1 ht2 ht3 ht4 hown hps hpl hpre hinv
    go_wp2_with fail
    refine HJ.out.mono ?_
    rintro e w4 ⟨rfl, hb4⟩
    have n1 := (hb4.block _ (lt_of_block HIN.out.r1)).trans HIN.out.r1
    have n2 := (hb4.block _ (lt_of_block HIN.out.r2)).trans HIN.out.r2
    have N1 := Lib.hid n1
    have N2 := Lib.hid n2
    have k1 := cell_of_one n1
    have m1 := free_of_one n1
    have k2 := cell_of_one n2
    have m2 := free_of_one n2
    have HK4 := Lib.hid ((hb4.block _ (Array.getElem?_eq_some_iff.1 hK).1).trans hK)
    have HB4 := Lib.hid (hB.trans (hb4.mono hB.size))
    clear c1 f1 c2 f2 c3 f3 n1 n2 hb4 hK hB hv
    by_cases q0 : joinP ps = []
    · have q1 : (joinP ps).isEmpty = true := by simpa using q0
      have hres : r = ([], 5) := by rw [← HR.out]; simp [cleanL, Nat.not_lt.2 h, HB.out, HPL.out, HPS.out, q0]
      have HRES := Lib.hid hres
      clear hres q0
      go_wp2_with fail
      all_goals
        rw [Exit.noGoto_ret, ← HQ.out]
        have s1 := one_setCell (u := .string (B [])) N1.out
        have s2 : (w4.setCell ⟨w.heap.size, 0, none⟩ (.string (B []))).heap[w.heap.size + 1]? = _ := (Below.heap_setCell w4 ⟨w.heap.size, 0, none⟩ _ (w.heap.size + 1) (by show w.heap.size + 1 ≠ w.heap.size; omega)).trans N2.out
        have s3 := one_setCell (u := .int .i64 5) s2
        have s4 := (Below.heap_setCell (w4.setCell ⟨w.heap.size, 0, none⟩ (.string (B []))) ⟨w.heap.size + 1, 0, none⟩ (.int .i64 5) w.heap.size (by show w.heap.size ≠ w.heap.size + 1; omega)).trans s1
        rw [HRES.out]
        exact clean_leave D w.heap.size w _ _ _ _ rfl rfl s4 s3 (((KeepsOthers.setCell _ _ _).trans (KeepsOthers.setCell _ _ _)).same _ _ HK4.out rfl) (by omega) ((HB4.out.setCell (Nat.le_refl _) _).setCell (Nat.le_succ _) _)
    · have q1 : (joinP ps).isEmpty = false := by simpa using q0
      have hjs : (B (joinP ps)).size = (joinP ps).length := size_B _
      by_cases q2 : 100 < (joinP ps).length
      · have hres : r = ([], 3) := by rw [← HR.out]; simp [cleanL, Nat.not_lt.2 h, HB.out, HPL.out, HPS.out, q0, q2]
        have HRES := Lib.hid hres
        have q3 : (100 : Int) < ((joinP ps).length : Int) := by omega
        clear hres q0 q2
        go_wp2_with fail
        all_goals
          rw [Exit.noGoto_ret, ← HQ.out]
          have s1 := one_setCell (u := .string (B [])) N1.out
          have s2 : (w4.setCell ⟨w.heap.size, 0, none⟩ (.string (B []))).heap[w.heap.size + 1]? = _ := (Below.heap_setCell w4 ⟨w.heap.size, 0, none⟩ _ (w.heap.size + 1) (by show w.heap.size + 1 ≠ w.heap.size; omega)).trans N2.out
          have s3 := one_setCell (u := .int .i64 3) s2
          have s4 := (Below.heap_setCell (w4.setCell ⟨w.heap.size, 0, none⟩ (.string (B []))) ⟨w.heap.size + 1, 0, none⟩ (.int .i64 3) w.heap.size (by show w.heap.size ≠ w.heap.size + 1; omega)).trans s1
          rw [HRES.out]
          exact clean_leave D w.heap.size w _ _ _ _ rfl rfl s4 s3 (((KeepsOthers.setCell _ _ _).trans (KeepsOthers.setCell _ _ _)).same _ _ HK4.out rfl) (by omega) ((HB4.out.setCell (Nat.le_refl _) _).setCell (Nat.le_succ _) _)
      · have hres : r = (joinP ps, 0) := by rw [← HR.out]; simp [cleanL, Nat.not_lt.2 h, HB.out, HPL.out, HPS.out, q0, q2]
        have HRES := Lib.hid hres
        have q3 : ((joinP ps).length : Int) ≤ 100 := by omega
        clear hres q0 q2
        go_wp2_with fail
        all_goals
          rw [Exit.noGoto_ret, ← HQ.out]
          have s1 := one_setCell (u := .string (B (joinP ps))) N1.out
          have s2 : (w4.setCell ⟨w.heap.size, 0, none⟩ (.string (B (joinP ps)))).heap[w.heap.size + 1]? = _ := (Below.heap_setCell w4 ⟨w.heap.size, 0, none⟩ _ (w.heap.size + 1) (by show w.heap.size + 1 ≠ w.heap.size; omega)).trans N2.out
          have s3 := one_setCell (u := .int .i64 0) s2
          have s4 := (Below.heap_setCell (w4.setCell ⟨w.heap.size, 0, none⟩ (.string (B (joinP ps)))) ⟨w.heap.size + 1, 0, none⟩ (.int .i64 0) w.heap.size (by show w.heap.size ≠ w.heap.size + 1; omega)).trans s1
          rw [HRES.out]
          exact clean_leave D w.heap.size w _ _ _ _ rfl rfl s4 s3 (((KeepsOthers.setCell _ _ _).trans (KeepsOthers.setCell _ _ _)).same _ _ HK4.out rfl) (by omega) ((HB4.out.setCell (Nat.le_refl _) _).setCell (Nat.le_succ _) _)
  case stop =>
    rintro D c pre W hD hpre ⟨⟨rfl, hnone, ps, hinv⟩, hB⟩ hK
    have hres : r = ([], 5) := by rw [← HR.out]; simp [cleanL, Nat.not_lt.2 h, HB.out, HPL.out, hnone]
    have HRES := Lib.hid hres
    clear hres
    refine wpIn_wide.2 ?_
    go_wp2_with fail
    rw [Exit.noGoto_ret, ← HQ.out, HRES.out]
    exact clean_leave D w.heap.size w _ _ _ _ rfl rfl hinv.r1 hinv.r2 hK (by have := HZ0.out; have := HZ2.out; omega) hB

/-- path.Clean, in the print's shape. -/
def path_Clean.f (a0 : ByteArray) : Option (ByteArray × Int) := some (B (cleanL a0.data.toList).1, (cleanL a0.data.toList).2)
theorem clean_any (l : List UInt8) (w : World) :
    Calls Tryd.prog 15 #[.string (B l)] w fun e w' => e = .returned (.tuple #[.string (B (cleanL l).1), .int .i64 (cleanL l).2]) ∧ Below w.heap.size w w' := by
  by_cases h1 : 1000 < l.length
  · have e : cleanL l = ([], 3) := by simp [cleanL, h1]
    rw [e]; exact clean_long l h1 w
  · by_cases h2 : l.head? = some 47
    · have e : cleanL l = ([], 5) := by simp [cleanL, h1, h2]
      rw [e]; exact clean_slash l (by omega) h2 w
    · by_cases h3 : l.all plainB = false
      · have e : cleanL l = ([], 5) := by rw [cleanL, if_neg h1, if_pos (.inr h3)]
        rw [e]; exact clean_bad l (by omega) h2 h3 w
      · exact clean_main l (by omega) h2 (by simpa using h3) _ rfl w
theorem path_Clean.calls (a0 : ByteArray) (r1 : ByteArray) (r2 : Int) (w : World) (h : path_Clean.f a0 = some (r1, r2)) :
    Calls Tryd.prog 15 #[.string a0] w fun e w' => e = .returned (.tuple #[.string r1, .int .i64 r2]) ∧ Below w.heap.size w w' := by
  have h' := Option.some.inj h
  obtain ⟨rfl, rfl⟩ : B (cleanL a0.data.toList).1 = r1 ∧ (cleanL a0.data.toList).2 = r2 := by
    constructor
    · exact congrArg Prod.fst h'
    · exact congrArg Prod.snd h'
  have := clean_any a0.data.toList w
  rwa [← B_of] at this
end Go.Proofs.YtaocdnebglnkeaaDoor.P
