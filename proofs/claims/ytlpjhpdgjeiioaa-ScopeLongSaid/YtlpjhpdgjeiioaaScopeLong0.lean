/- ScopeLong: a text that would grow beyond 2^14 bytes is too long. -/
import Derived.Test.YtlpjhpdgjeiioaaScopeHides0
import Derived.Laws.IdiomStrings
import Derived.Deep.OwnRows
set_option linter.unusedSimpArgs false
set_option linter.unusedVariables false
namespace Go.Proofs.Ytlpjhpdgjeiioaa.Sc
open Go.RowKit Go.Lib Go.Shelf Go.Proofs.YtlpjhpdgjeiioaaW.PrintWords Go.Proofs.Ytlpjhpdgjeiioaa.U Go.Proofs.Ytlpjhpdgjeiioaa.Idx Go.Proofs.Ytlpjhpdgjeiioaa.Bld

def rep : Nat → Txt
  | 0 => []
  | t + 1 => 36 :: 120 :: rep t
theorem rep_len (t : Nat) : (rep t).length = 2 * t := by
  induction t with
  | zero => rfl
  | succ t ih => rw [rep, List.length_cons, List.length_cons, ih]; omega
theorem rep_snoc (t : Nat) : rep t ++ [36, 120] = rep (t + 1) := by
  induction t with
  | zero => rfl
  | succ t ih => rw [rep, List.cons_append, List.cons_append, ih]; rfl
theorem rep_cut (t : Nat) : cutL 36 (rep (t + 1)) = ([], 120 :: rep t, true) := by simp [rep, cutL]
theorem rep_dollar (L : List Lev) (t : Nat) : dollarL L (120 :: rep t) = (getL L [120], rep t, true) := by
  have h1 : shortB 120 = true := by decide
  have h2 : shortB 36 = false := by decide
  rw [dollarL, if_neg (by decide), if_neg (by decide)]
  cases t with
  | zero => simp [rep, List.takeWhile_cons, List.dropWhile_cons, h1]
  | succ t => simp [rep, List.takeWhile_cons, List.dropWhile_cons, h1, h2]
theorem fin_true (L : List Lev) (t : Nat) : ∀ (out : Txt) (f : Nat), t < f → finL (expGo L f (rep t) out true) = ([], 3) := by
  induction t with
  | zero =>
    intro out f hf
    obtain ⟨g, rfl⟩ : ∃ g, f = g + 1 := ⟨f - 1, by omega⟩
    rw [expGo_succ L g (rep 0) out true (show cutL 36 (rep 0) = ([], [], false) from rfl) (show dollarL L [] = ([], [], false) from rfl), if_pos rfl]
    simp [finL]
  | succ t ih =>
    intro out f hf
    obtain ⟨g, rfl⟩ : ∃ g, f = g + 1 := ⟨f - 1, by omega⟩
    rw [expGo_succ L g (rep (t + 1)) out true (rep_cut t) (rep_dollar L t), if_neg (by simp), if_neg (by simp), if_pos (.inl rfl)]
    exact ih _ g (by omega)
theorem fin_rep (L : List Lev) (T : Txt) (hT : getL L [120] = T) (t : Nat) : ∀ (out : Txt) (f : Nat), t < f → out.length ≤ 16384 →
    finL (expGo L f (rep t) out false) = if out.length + t * T.length ≤ 16384 then (out ++ (List.replicate t T).flatten, 0) else ([], 3) := by
  induction t with
  | zero =>
    intro out f hf ho
    obtain ⟨g, rfl⟩ : ∃ g, f = g + 1 := ⟨f - 1, by omega⟩
    rw [expGo_succ L g (rep 0) out false (show cutL 36 (rep 0) = ([], [], false) from rfl) (show dollarL L [] = ([], [], false) from rfl), if_pos rfl, if_pos (by omega)]
    simp [finL, Nat.not_lt.2 ho]
  | succ t ih =>
    intro out f hf ho
    obtain ⟨g, rfl⟩ : ∃ g, f = g + 1 := ⟨f - 1, by omega⟩
    rw [expGo_succ L g (rep (t + 1)) out false (rep_cut t) (rep_dollar L t), if_neg (by simp), if_neg (by simp), hT, List.append_nil]
    have hm : (t + 1) * T.length = t * T.length + T.length := Nat.succ_mul _ _
    by_cases hb : 16384 < out.length + T.length
    · rw [if_pos (.inr hb), fin_true L t _ g (by omega), if_neg (by omega)]
    · rw [if_neg (by simp; omega), ih _ g (by omega) (by rw [List.length_append]; omega), List.length_append, hm]
      by_cases h2 : out.length + T.length + t * T.length ≤ 16384
      · rw [if_pos h2, if_pos (by omega), List.replicate_succ]; simp
      · rw [if_neg h2, if_neg (by omega)]
theorem exp_rep (L : List Lev) (T : Txt) (hT : getL L [120] = T) (t : Nat) : expandL L (rep t) = if t * T.length ≤ 16384 then ((List.replicate t T).flatten, 0) else ([], 3) := by
  rw [expandL, rep_len, fin_rep L T hT t [] _ (by omega) (by simp)]
  simp
theorem flat_len (t : Nat) (T : Txt) : ((List.replicate t T).flatten).length = t * T.length := by simp
theorem made_get (n j : Nat) (h : j < n) : (madeCells #[.int .u8 0] n)[j]? = some (.int .u8 0) := by
  have : j % 1 = 0 := Nat.mod_one j
  simp [madeCells, h, this]

set_option maxRecDepth 100000 in
set_option maxHeartbeats 4000000 in
theorem long_any (n k : Nat) (hn : n ≤ 65535) (hk : k ≤ 65535) (w : World) :
    Calls Try.prog 6 #[.int .u16 (n : Int), .int .u16 (k : Int)] w fun e w' => e = .returned (.bool true) ∧ Below w.heap.size w w' := by
  have m1 : Int.tmod (n : Int) 600 = ((n % 600 : Nat) : Int) := by rw [Int.tmod_eq_emod_of_nonneg (by omega)]; omega
  have m2 : Int.tmod (k : Int) 60 = ((k % 60 : Nat) : Int) := by rw [Int.tmod_eq_emod_of_nonneg (by omega)]; omega
  obtain ⟨one, ho⟩ : ∃ x, n % 600 + 1 = x := ⟨_, rfl⟩
  obtain ⟨tm, ht⟩ : ∃ x, k % 60 = x := ⟨_, rfl⟩
  have hone : 1 ≤ one ∧ one ≤ 600 := by omega
  have htm : tm < 60 := by omega
  have m1' : ((n : Int) % 600) + 1 = (one : Int) := by omega
  have hNew := Lib.hid (fun W => New_chain [] (.pointer none) W rfl)
  have hAw := Lib.hid awake_any
  go_enter Try.func6, Try.ntmps6
  go_wp2_with fail
  refine (hNew.out _).mono ?_
  rintro e w1 ⟨rfl, ⟨hc1, hb1⟩, hs1⟩
  have hmk := run_make_row' (P := Try.prog) 44 5 (.int .u8 0) 1 Try.underlying44 info5 rfl .i64 .i64 one (by omega) (by omega)
  go_wp2_with fail
  have hcells : ∀ W : World, (∀ j, j < one → W.cell? ⟨w1.heap.size, j, none⟩ = some (.int .u8 0)) →
      (convert 44 9 (.slice (some ⟨w1.heap.size, 0, none⟩) one one)).run Try.prog W = .ok (.string (B (List.replicate one 0))) W := by
    intro W hW
    have := run_convert_bytes_back (P := Try.prog) W 44 9 5 ⟨w1.heap.size, 0, none⟩ one (List.replicate one 0) Try.underlying44 Try.underlying5 Try.underlying9 (fun j hj => by
      rw [List.length_replicate] at hj
      have := hW j hj
      by_cases h0 : j = 0
      · subst h0; simpa [Addr.add] using this
      · simpa [Addr.add, h0] using this)
    rw [List.length_replicate] at this
    exact this
  have hconv := hcells (w1.alloc (.cells (madeCells #[.int .u8 0] one) 5)) (fun j hj => by
    rw [cell_of_heap (heap_alloc_new _ _)]
    exact made_get one j hj)
  rw [hs1] at hconv
  clear hcells
  have hC1 := Lib.hid hc1
  have hB1 := Lib.hid hb1
  have hsz1 : Hid (w1.heap.size = w.heap.size + 2) := hs1
  have hSet := Lib.hid (fun (s : Lev) (v : Value) (h : s.n < 1000000) (W : World) (hC : Chain W [s] v) => Set_ok s [] v [120] (List.replicate one 0) rfl (by decide) (by rw [List.length_replicate]; unfold maxLen; omega) h W hC)
  have hExp := Lib.hid (fun (L : List Lev) (v : Value) (hT : ∀ k, (getL L k).length < 1000000000) (W : World) (hC : Chain W L v) => Expand_any L v (rep tm) (by rw [rep_len]; omega) hT W hC)
  clear hc1 hb1
  go_wp2_with fail
  rw [hconv]
  simp only [Result.andThen]
  rw [Oper.upon_value]
  go_wp2_with fail
  refine (hSet.out _ _ (by show 0 < 1000000; decide) _ (hC1.out.below ((Below.refl _ w1).alloc (Nat.le_refl _) _))).mono ?_
  rintro e w2 ⟨rfl, hst⟩
  have hc2 : Chain w2 [⟨w.heap.size + 1, w.heap.size, 1, upd none0 [120] (List.replicate one 0)⟩] (.pointer (some ⟨w.heap.size + 1, 0, none⟩)) := hst.head (hC1.out.below ((Below.refl _ w1).alloc (Nat.le_refl _) _)) (by simp) (by simp)
  have hC2 := Lib.hid hc2
  have hB2 := Lib.hid (hst.below (hB1.out.trans ((Below.refl w.heap.size w1).alloc hB1.out.size _)) (Nat.le_refl _))
  clear hst hc2
  have hpr : ∀ j : Nat, j < tm → Hid (B (rep j) ++ (⟨#[36, 120]⟩ : ByteArray) = B (rep (j + 1))) := fun j _ => by
    show B (rep j) ++ B [36, 120] = _
    rw [B_append, rep_snoc]
  clear m1 m2 m1' ho ht hmk hconv hs1
  go_wp2_with fail
  obtain ⟨M, hM⟩ : ∃ M, one * tm = M := ⟨_, rfl⟩
  have hM2 : M ≤ 36000 := by rw [← hM]; exact Nat.le_trans (Nat.mul_le_mul hone.2 (Nat.le_of_lt htm)) (by decide)
  have hMi : (one : Int) * (tm : Int) = (M : Int) := by rw [← hM]; exact (Int.natCast_mul _ _).symm
  go_loopg [8, 9] tm (fun gk s8 s9 wr => ∃ i : Nat, s8 = .string (B (rep i)) ∧ s9 = .int .i64 (i : Int) ∧ i + gk = tm ∧ w2 = wr)
  case atStart => exact ⟨0, rfl, rfl, Nat.zero_add _, rfl⟩
  case round =>
    obtain ⟨i, rfl, rfl, hik, rfl⟩ := hrel
    cases gk with
    | zero =>
      obtain rfl : i = tm := by omega
      have hge : decide ((i : Int) < (i : Int)) = false := by simp
      have hlen : ∀ (x y : Nat) (k : Txt), (getL [⟨x, y, 1, upd none0 [120] (List.replicate one 0)⟩] k).length < 1000000000 := fun x y k => by
        simp only [getL, upd, none0]
        by_cases h : k = [120]
        · simp only [if_pos h, List.length_replicate]; omega
        · simp only [if_neg h]; simp
      have hX := hExp.out _ _ (hlen _ _) _ hC2.out
      rw [exp_rep _ (List.replicate one 0) (by simp [getL, upd]), List.length_replicate, Nat.mul_comm i one, hM] at hX
      have hX := Lib.hid hX
      have hsx : (B ((List.replicate i (List.replicate one (0 : UInt8))).flatten)).size = M := by rw [size_B, flat_len, List.length_replicate, Nat.mul_comm, hM]
      clear hlen hpr
      generalize (List.replicate i (List.replicate one (0 : UInt8))).flatten = X at *
      by_cases hb : M ≤ 16384
      · rw [if_pos hb] at hX
        have hd : decide ((16384 : Int) < (M : Int)) = false := by rw [decide_eq_false_iff_not]; omega
        go_wp2_with fail
        refine hX.out.mono ?_
        rintro e w3 ⟨rfl, hb3⟩
        have hB3 := Lib.hid (hB2.out.next hb3)
        clear hb3
        go_wp2_with fail
        refine (hAw.out _).mono ?_
        rintro e w4 ⟨rfl, hb4⟩
        go_wp2_with fail
        go_ret
        exact ⟨rfl, hB3.out.next hb4⟩
      · rw [if_neg hb] at hX
        have hd : decide ((16384 : Int) < (M : Int)) = true := by rw [decide_eq_true_iff]; omega
        go_wp2_with fail
        refine hX.out.mono ?_
        rintro e w3 ⟨rfl, hb3⟩
        have hB3 := Lib.hid (hB2.out.next hb3)
        clear hb3
        go_wp2_with fail
        refine (hAw.out _).mono ?_
        rintro e w4 ⟨rfl, hb4⟩
        go_wp2_with fail
        go_ret
        exact ⟨rfl, hB3.out.next hb4⟩
    | succ gk =>
      have hlt : decide ((i : Int) < (tm : Int)) = true := by rw [decide_eq_true_iff]; omega
      have hp := hpr i (by omega)
      have hsr : (B (rep i)).size = 2 * i := by rw [size_B, rep_len]
      have hil : i < 60 := by omega
      go_wp2_with fail
      rw [hp.out]
      go_roundg gk
      case measure => omega
      case rel => exact ⟨i + 1, rfl, by simp, by omega, rfl⟩
end Go.Proofs.Ytlpjhpdgjeiioaa.Sc
namespace Go.Proofs.Ytlpjhpdgjeiioaa.P
open Go.RowKit Go.Proofs.Ytlpjhpdgjeiioaa.U Go.Proofs.Ytlpjhpdgjeiioaa.Sc
def bellowslaw10_ScopeLong.Pure : Prop := True
theorem bellowslaw10_ScopeLong.walk (_ : bellowslaw10_ScopeLong.Pure) (a0 a1 : Int) (w : World) (w0 : (Lit.int .u16 a0).wf = true) (w1 : (Lit.int .u16 a1).wf = true) :
    Calls Try.prog 6 #[.int .u16 a0, .int .u16 a1] w fun e w' => e = .returned (.bool true) ∧ Below w.heap.size w w' := by
  have h0 : 0 ≤ a0 ∧ a0 ≤ 65535 := by have := w0; simp [Lit.wf] at this; exact ⟨this.1, this.2⟩
  have h1 : 0 ≤ a1 ∧ a1 ≤ 65535 := by have := w1; simp [Lit.wf] at this; exact ⟨this.1, this.2⟩
  obtain ⟨n, rfl⟩ : ∃ n : Nat, a0 = n := ⟨a0.toNat, by omega⟩
  obtain ⟨k, rfl⟩ : ∃ k : Nat, a1 = k := ⟨a1.toNat, by omega⟩
  exact long_any n k (by omega) (by omega) w
end Go.Proofs.Ytlpjhpdgjeiioaa.P
