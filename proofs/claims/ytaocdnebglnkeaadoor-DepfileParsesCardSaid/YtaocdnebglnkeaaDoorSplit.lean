/- strings.SplitSeq at a separator of one byte: the iterator's contract. -/
import Derived.Test.YtaocdnebglnkeaaDoorRange
import Derived.Test.YtaocdnebglnkeaaDoorU
import Derived.Test.YtaocdnebglnkeaaDoorShelf
import Derived.Sort.LoopGhostIn
import Derived.Outline
import Derived.OneCell
import Derived.Lib.Hide
set_option linter.unusedSimpArgs false
set_option linter.unusedVariables false
namespace Go.Proofs.YtaocdnebglnkeaaDoor.P
open Go.RowKit Go.Shelf Go.Proofs.YtaocdnebglnkeaaDoor.U Go.Proofs.YtaocdnebglnkeaaDoor.Rng

/-- A text at a byte: the pieces, each with k bytes of the separator (0 or 1). -/
def splitK (c : UInt8) (k : Nat) : List UInt8 → List (List UInt8)
  | [] => [[]]
  | b :: l => if b = c then [c].take k :: splitK c k l else match splitK c k l with
    | [] => [[b]]
    | p :: ps => (b :: p) :: ps
theorem splitK_ne (c : UInt8) (k : Nat) (l : List UInt8) : splitK c k l ≠ [] := by
  cases l with
  | nil => simp [splitK]
  | cons b l => unfold splitK; split
                · simp
                · split <;> simp
theorem splitK_none (c : UInt8) (k : Nat) (l : List UInt8) (h : c ∉ l) : splitK c k l = [l] := by
  induction l with
  | nil => rfl
  | cons b l ih =>
    have h1 : b ≠ c := fun e => h (by simp [e])
    rw [splitK, if_neg h1, ih (fun e => h (by simp [e]))]
theorem splitK_at (c : UInt8) (k : Nat) (a l : List UInt8) (h : c ∉ a) : splitK c k (a ++ c :: l) = (a ++ [c].take k) :: splitK c k l := by
  induction a with
  | nil => simp [splitK]
  | cons b a ih =>
    have h1 : b ≠ c := fun e => h (by simp [e])
    rw [List.cons_append, splitK, if_neg h1, ih (fun e => h (by simp [e]))]
    simp
/-- What Index tells at one byte. -/
theorem index_cases (l : List UInt8) (c : UInt8) : (Lib.indexByte l c = -1 ∧ c ∉ l) ∨ ∃ a r, l = a ++ c :: r ∧ c ∉ a ∧ Lib.indexByte l c = (a.length : Int) := by
  induction l with
  | nil => exact .inl ⟨rfl, by simp⟩
  | cons b l ih =>
    by_cases hb : b = c
    · exact .inr ⟨[], l, by simp [hb], by simp, by simp [Lib.indexByte, hb]⟩
    · rcases ih with ⟨h1, h2⟩ | ⟨a, r, rfl, h2, h3⟩
      · exact .inl ⟨by simp [Lib.indexByte, hb, h1], by simp [h2, Ne.symm hb]⟩
      · refine .inr ⟨b :: a, r, rfl, by simp [h2, Ne.symm hb], ?_⟩
        unfold Lib.indexByte
        rw [h3]
        have : ¬ ((a.length : Int) == -1) = true := by simp
        simp [hb]

attribute [local go_sem] Oper.semAt_some

set_option maxRecDepth 100000 in
set_option maxHeartbeats 4000000 in
theorem split_seq (c : UInt8) (k : Nat) (hk : k ≤ 1) (b : Nat) (s : List UInt8) (hs : s.length ≤ 1000000) (w : World) (hlt : b + 2 < w.heap.size)
    (hb0 : w.heap[b]? = some (.cells #[.string (B s)] 9 (0, 0))) (hb1 : w.heap[b + 1]? = some (.cells #[.string (B [c])] 9 (0, 0))) (hb2 : w.heap[b + 2]? = some (.cells #[.int .i64 (k : Int)] 3 (0, 0))) :
    SeqOf Tryd.prog 56 #[.pointer (some ⟨b + 1, 0, none⟩), .pointer (some ⟨b, 0, none⟩), .pointer (some ⟨b + 2, 0, none⟩)] b ((splitK c k s).map B) w := by
  intro l J Jx W hW hJs hY hJ0
  have HB0 : W.heap[b]? = some (.cells #[.string (B s)] 9 (0, 0)) := (hW.block _ (by omega)).trans hb0
  have HB1 : W.heap[b + 1]? = some (.cells #[.string (B [c])] 9 (0, 0)) := (hW.block _ (by omega)).trans hb1
  have HB2 : W.heap[b + 2]? = some (.cells #[.int .i64 (k : Int)] 3 (0, 0)) := (hW.block _ (by omega)).trans hb2
  clear hb0 hb1 hb2
  have c1 := cell_of_one HB1
  refine callsIn_of_wp Tryd.func56 rfl trivial ?_ rfl
  simp only [Tryd.ntmps56, List.size_toArray, List.length_cons, List.length_nil, Nat.reduceAdd, Nat.reduceSub, Array.replicate_succ, Array.replicate_zero, List.push_toArray, List.append_toArray, List.nil_append, List.cons_append]
  gi_wp2_with fail
  gi_loopg [] (s.length + 1) (fun gk wr => ∃ (pre : List ByteArray) (r : List UInt8), (splitK c k s).map B = pre ++ (splitK c k r).map B ∧ r.length < gk ∧ r.length ≤ 1000000 ∧
    Hid (wr.heap[b]? = some (.cells #[.string (B r)] 9 (0, 0))) ∧ Hid (wr.heap[b + 1]? = some (.cells #[.string (B [c])] 9 (0, 0))) ∧ Hid (wr.heap[b + 2]? = some (.cells #[.int .i64 (k : Int)] 3 (0, 0))) ∧ Hid (J pre wr))
  case atStart => exact ⟨[], s, rfl, by omega, hs, HB0, HB1, HB2, hJ0⟩
  case round =>
    clear c1
    obtain ⟨pre, r, hx, hgk, hr, h0, h1, h2, hj⟩ := hrel
    have c0 := cell_of_one h0.out
    have c1 := cell_of_one h1.out
    have c2 := cell_of_one h2.out
    have f0 := free_of_one h0.out
    have HX := Lib.hid hx
    clear hx
    rcases index_cases r c with ⟨hi, hn⟩ | ⟨a, r', hr', hn, hi⟩
    · have HC : Hid (∀ W, CallsIn Fence.wide 1 Tryd.prog 48 #[.string (B r), .string (B [c])] W fun e w' => e = .returned (.int .i64 (-1)) ∧ W = w') := fun W => by
        have h := Tryd.strings_Index_one (B r) c W
        rw [data_B, hi] at h
        exact callsIn_wide.2 (h.mono fun e w' ⟨he, hw⟩ => ⟨he, hw.symm⟩)
      clear hi
      obtain ⟨fn, tmps, assign, body, hy, hR⟩ := hY pre (B r) wr hj.out (by rw [HX.out, splitK_none c k r hn]; simp)
      gi_wp2_with fail
      refine ⟨trivial, (HC.out _).mono ?_⟩
      rintro e w' ⟨rfl, rfl⟩
      gi_wp2_with fail
      refine hR.mono ?_
      rintro e W3 (⟨rfl, hJ3, hk3⟩ | ⟨rfl, hJx3⟩)
      · gi_wp2_with fail
        go_end0
        exact ⟨⟨_, rfl⟩, .inl (by rw [HX.out, splitK_none c k r hn]; exact hJ3)⟩
      · gi_wp2_with fail
        go_end0
        exact ⟨⟨_, rfl⟩, .inr ⟨_, by rw [HX.out, splitK_none c k r hn]; simp, hJx3⟩⟩
    · have HC : Hid (∀ W, CallsIn Fence.wide 1 Tryd.prog 48 #[.string (B r), .string (B [c])] W fun e w' => e = .returned (.int .i64 (a.length : Int)) ∧ W = w') := fun W => by
        have h := Tryd.strings_Index_one (B r) c W
        rw [data_B, hi] at h
        exact callsIn_wide.2 (h.mono fun e w' ⟨he, hw⟩ => ⟨he, hw.symm⟩)
      clear hi
      have hlen : r.length = a.length + 1 + r'.length := by rw [hr']; simp; omega
      have hsz : (B r).size = a.length + 1 + r'.length := by rw [size_B, hlen]
      have ha1 : (a.length : Int) + (k : Int) ≤ (a.length : Int) + 1 + (r'.length : Int) := by omega
      have E1 : Hid ((B r).extract 0 (a.length + k) = B (a ++ [c].take k)) := by
        show (B r).extract 0 (a.length + k) = B (a ++ [c].take k)
        rw [extract_B, hr', List.drop_zero, List.take_append, List.take_of_length_le (by omega)]
        have : (c :: r').take (a.length + k - a.length) = [c].take k := by
          rw [Nat.add_sub_cancel_left]
          match k, hk with
          | 0, _ => rfl
          | 1, _ => rfl
        rw [this]
      have E2 : Hid ((B r).extract (a.length + 1) (a.length + 1 + r'.length) = B r') := by
        show (B r).extract (a.length + 1) (a.length + 1 + r'.length) = B r'
        rw [extract_B, List.take_of_length_le (by omega), hr', List.drop_append]
        simp
      have HS : Hid (splitK c k r = (a ++ [c].take k) :: splitK c k r') := by
        show splitK c k r = _
        rw [hr', splitK_at c k a r' hn]
      obtain ⟨fn, tmps, assign, body, hy, hR⟩ := hY pre (B (a ++ [c].take k)) wr hj.out (by rw [HX.out, HS.out]; simp)
      have hr3 : r'.length ≤ 1000000 := by omega
      have hr4 : a.length ≤ 1000000 := by omega
      clear hr'
      gi_wp2_with fail
      refine ⟨trivial, (HC.out _).mono ?_⟩
      rintro e w' ⟨rfl, rfl⟩
      rw [← E1.out] at hy
      gi_wp2_with fail
      refine hR.mono ?_
      rintro e W3 (⟨rfl, hJ3, hk3⟩ | ⟨rfl, hJx3⟩)
      · have g0 := Lib.hid (hk3.1.trans h0.out)
        have g1 := Lib.hid (hk3.2.1.trans h1.out)
        have g2 := Lib.hid (hk3.2.2.trans h2.out)
        have d0 := cell_of_one g0.out
        have d1 := cell_of_one g1.out
        have e0 := free_of_one g0.out
        have J3 := Lib.hid hJ3
        obtain ⟨g', rfl⟩ : ∃ g', gk = g' + 1 := ⟨gk - 1, by omega⟩
        clear hk3 hJ3 c0 c1 c2 f0 hy hR
        gi_wp2_with fail
        gi_roundg g'
        case measure => omega
        case rel =>
          rw [E2.out]
          refine ⟨pre ++ [B (a ++ [c].take k)], r', ?_, by omega, hr3, one_setCell g0.out, ?_, ?_, hJs _ _ _ J3.out⟩
          · rw [HX.out, HS.out]; simp
          · exact (Below.heap_setCell _ _ _ _ (by show b + 1 ≠ b; omega)).trans g1.out
          · exact (Below.heap_setCell _ _ _ _ (by show b + 2 ≠ b; omega)).trans g2.out
      · gi_wp2_with fail
        refine bodyPost_ret (results_none rfl _ _ _) rfl ?_
        exact ⟨⟨_, rfl⟩, .inr ⟨_, by rw [HX.out, HS.out]; simp, hJx3⟩⟩
end Go.Proofs.YtaocdnebglnkeaaDoor.P
