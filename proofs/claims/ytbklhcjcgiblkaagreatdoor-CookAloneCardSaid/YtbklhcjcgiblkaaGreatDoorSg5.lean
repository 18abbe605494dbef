/- Laid together by wip/tools/shake.py from texts of this claim: CkRefPuts, CkRefMade, RegT, RegQ. -/
import Derived.Test.YtbklhcjcgiblkaaGreatDoorSg4
import Derived.OwnWalk
import Derived.Tactics
import Derived.RowKit
section
set_option linter.unusedSimpArgs false
set_option linter.unusedVariables false
namespace Go.Proofs.YtbklhcjcgiblkaaGreatDoor.Ck
open Go.RowKit Go.Lib Go.Shelf Go.Maps Go.Proofs.YtbklhcjcgiblkaaGreatDoorW.PrintWords Go.Proofs.YtbklhcjcgiblkaaGreatDoorW.PrintLast Go.Proofs.YtbklhcjcgiblkaaGreatDoorW.PrintMore Go.Proofs.YtbklhcjcgiblkaaGreatDoor.U Go.Proofs.YtbklhcjcgiblkaaGreatDoor.P Go.Proofs.YtbklhcjcgiblkaaGreatDoor.PTh Go.Proofs.YtbklhcjcgiblkaaGreatDoor.MapV
structure PSok (s : PS) : Prop where
  o : s.out.length ≤ 65536
  f : s.found.length ≤ s.many
  m : s.many ≤ 1000
theorem addF_len (l : List Txt) (nm : Txt) : (addF l nm).length ≤ l.length + 1 := by
  unfold addF
  split
  · omega
  · simp
theorem lines_ok (fs : List FileL) (r : PS → Txt → Option PS) (hr : ∀ s b s', r s b = some s' → PSok s → PSok s') : ∀ (ls : List Txt) (s s' : PS), linesP fs r ls s = some s' → PSok s → PSok s'
  | [], s, s', h, hs => by injection h with h; subst h; exact hs
  | l :: ls, s, s', h, hs => by
    rw [linesP] at h
    cases hi : inclL l with
    | none =>
      rw [hi] at h
      simp only at h
      split at h
      · rename_i hl
        exact lines_ok fs r hr ls _ _ h ⟨hl, hs.f, hs.m⟩
      · cases h
    | some nm =>
      rw [hi] at h
      simp only at h
      cases hx : findL fs nm with
      | none => rw [hx] at h; cases h
      | some own =>
        rw [hx] at h
        simp only at h
        split at h
        · rename_i hc
          cases hp : r ⟨s.out, addF s.found nm, s.many + 1⟩ own with
          | none => rw [hp] at h; cases h
          | some s2 =>
            rw [hp] at h
            have h1 := addF_len s.found nm
            have h2 := hs.f
            exact lines_ok fs r hr ls _ _ h (hr _ _ _ hp ⟨hs.o, by show (addF s.found nm).length ≤ s.many + 1; omega, hc.2⟩)
        · cases h
theorem puts_ok (fs : List FileL) : ∀ k s b s', putsE fs k s b = some s' → PSok s → PSok s'
  | 0, _, _, _, h, _ => by cases h
  | k + 1, s, b, s', h, hs => lines_ok fs (putsE fs k) (fun s b s' => puts_ok fs k s b s') _ _ _ h hs
theorem linesP_two (fs : List FileL) (r : PS → Txt → Option PS) (l : Txt) (ls : List Txt) (s : PS) : linesP fs r (l :: ls) s = (linesP fs r [l] s).bind (linesP fs r ls) := linesP_append fs r [l] ls s
theorem lines_end {fs : List FileL} {r : PS → Txt → Option PS} {s : PS} (h : s.out.length ≤ 65536) : linesP fs r (splitK 10 1 []) s = some s := by
  show linesP fs r [[]] s = some s
  have hi : inclL [] = none := by decide
  rw [linesP, hi]
  simp only [List.append_nil]
  rw [if_pos h]; rfl
theorem lines_on {fs : List FileL} {r : PS → Txt → Option PS} (hr : ∀ s b s', r s b = some s' → PSok s → PSok s') {t piece rest : Txt} {s sE : PS} (hs : splitK 10 1 t = piece :: splitK 10 1 rest ∨ (splitK 10 1 t = [piece] ∧ rest = [])) (hk : PSok s)
    (h : linesP fs r (splitK 10 1 t) s = some sE) : ∃ s1, linesP fs r [piece] s = some s1 ∧ PSok s1 ∧ linesP fs r (splitK 10 1 rest) s1 = some sE := by
  rcases hs with hs | ⟨hs, rfl⟩
  · rw [hs, linesP_two] at h
    cases h1 : linesP fs r [piece] s with
    | none => rw [h1] at h; cases h
    | some s1 =>
      rw [h1] at h
      exact ⟨s1, rfl, lines_ok fs r hr _ _ _ h1 hk, h⟩
  · rw [hs] at h
    have hk1 := lines_ok fs r hr _ _ _ h hk
    exact ⟨sE, h, hk1, lines_end hk1.o⟩
theorem step_none {fs : List FileL} {r : PS → Txt → Option PS} {piece : Txt} {s s1 : PS} (hi : inclL piece = none) (h : linesP fs r [piece] s = some s1) : (s.out ++ piece).length ≤ 65536 ∧ s1 = { s with out := s.out ++ piece } := by
  rw [linesP, hi] at h
  simp only at h
  split at h
  · rename_i hl
    injection h with h
    exact ⟨hl, h.symm⟩
  · cases h
theorem step_some {fs : List FileL} {r : PS → Txt → Option PS} {piece nm : Txt} {s s1 : PS} (hi : inclL piece = some nm) (h : linesP fs r [piece] s = some s1) : ∃ own, findL fs nm = some own ∧ rightL nm = true ∧ s.many + 1 ≤ 1000 ∧ r ⟨s.out, addF s.found nm, s.many + 1⟩ own = some s1 := by
  rw [linesP, hi] at h
  simp only at h
  cases hx : findL fs nm with
  | none => rw [hx] at h; cases h
  | some own =>
    rw [hx] at h
    simp only at h
    split at h
    · rename_i hc
      cases hp : r ⟨s.out, addF s.found nm, s.many + 1⟩ own with
      | none => rw [hp] at h; cases h
      | some s2 =>
        rw [hp] at h
        injection h with h
        subst h
        exact ⟨own, rfl, hc.1, hc.2, hp⟩
    · cases h
theorem line_at (b : Txt) (a j : Nat) (haj : a ≤ j) (hj : j < b.length) (h10 : b[j] = 10) (hno : ∀ i (h : i < b.length), a ≤ i → i < j → b[i] ≠ 10) :
    splitK 10 1 (b.drop a) = (b.take (j + 1)).drop a :: splitK 10 1 (b.drop (j + 1)) ∧ trimNL ((b.take (j + 1)).drop a) = (b.take j).drop a := by
  have hl : (10 : UInt8) ∉ (b.take j).drop a := by
    intro hm
    obtain ⟨i, hi, he⟩ := List.mem_iff_getElem.1 hm
    rw [List.getElem_drop, List.getElem_take] at he
    rw [List.length_drop, List.length_take] at hi
    exact hno (a + i) (by omega) (by omega) (by omega) he
  have e1 : (b.take (j + 1)).drop a = (b.take j).drop a ++ [10] := by
    rw [List.take_succ_eq_append_getElem hj, h10, List.drop_append_of_le_length (by rw [List.length_take]; omega)]
  have e2 : b.drop a = (b.take j).drop a ++ 10 :: b.drop (j + 1) := by
    have h1 : b.drop a = (b.take j).drop a ++ b.drop j := by
      conv => lhs; rw [← List.take_append_drop j b]
      rw [List.drop_append_of_le_length (by rw [List.length_take]; omega)]
    rw [h1, List.drop_eq_getElem_cons hj, h10]
  refine ⟨by rw [e2, splitK_at 10 1 _ _ hl, e1]; rfl, ?_⟩
  rw [e1]
  unfold trimNL
  rw [if_pos (by simp)]
  simp
theorem line_last (b : Txt) (a : Nat) (ha : a < b.length) (hno : ∀ i (h : i < b.length), a ≤ i → i < b.length → b[i] ≠ 10) :
    splitK 10 1 (b.drop a) = [(b.take b.length).drop a] ∧ b.drop b.length = [] ∧ trimNL ((b.take b.length).drop a) = (b.take b.length).drop a := by
  have hl : (10 : UInt8) ∉ b.drop a := by
    intro hm
    obtain ⟨i, hi, he⟩ := List.mem_iff_getElem.1 hm
    rw [List.getElem_drop] at he
    rw [List.length_drop] at hi
    exact hno (a + i) (by omega) (by omega) (by omega) he
  rw [List.take_length]
  refine ⟨splitK_none 10 1 _ hl, List.drop_length, ?_⟩
  unfold trimNL
  rw [if_neg]
  intro h
  exact hl (List.mem_of_getLast? h)
structure SameN (N mb : Nat) (w w' : World) : Prop where
  os : w'.os = w.os
  tape : w'.tape = w.tape
  output : w'.output = w.output
  size : w.heap.size ≤ w'.heap.size
  same : ∀ k, k < N → k ≠ mb → w'.heap[k]? = w.heap[k]?
theorem SameN.refl (N mb : Nat) (w : World) : SameN N mb w w := ⟨rfl, rfl, rfl, Nat.le_refl _, fun _ _ _ => rfl⟩
theorem SameN.trans {N mb : Nat} {a b c : World} (h : SameN N mb a b) (k : SameN N mb b c) : SameN N mb a c := ⟨k.os.trans h.os, k.tape.trans h.tape, k.output.trans h.output, Nat.le_trans h.size k.size, fun i hi hne => (k.same i hi hne).trans (h.same i hi hne)⟩
theorem SameN.of_below {N mb : Nat} {a b : World} (h : Below N a b) : SameN N mb a b := ⟨h.os, h.tape, h.output, h.size, fun i hi _ => h.block i hi⟩
theorem SameN.set {N mb : Nat} {a b : World} (h : SameN N mb a b) (j : Nat) (v : Value) : SameN N mb a (b.setCell ⟨mb, j, none⟩ v) := ⟨h.os, h.tape, h.output, by simpa using h.size, fun i hi hne => (Below.heap_setCell b ⟨mb, j, none⟩ v i hne).trans (h.same i hi hne)⟩
theorem SameN.below {N mb : Nat} {w0 a b : World} (h0 : Below w0.heap.size w0 a) (h : SameN N mb a b) (hN : w0.heap.size ≤ N) (hm : w0.heap.size ≤ mb) : Below w0.heap.size w0 b :=
  ⟨h.os.trans h0.os, h.tape.trans h0.tape, h.output.trans h0.output, Nat.le_trans h0.size h.size, fun k hk => (h.same k (by omega) (by omega)).trans (h0.block k hk)⟩
theorem bytes_mid {w : World} {A : Option Addr} {c : Nat} {b : Txt} (h : (Kd.int .u8).C w A b.length (ints b)) (hc : b.length ≤ c) (lo hi : Nat) (h1 : lo ≤ hi) (h2 : hi ≤ b.length) : (Kd.int .u8).C w (if c = lo then A else A.map (·.add lo)) (hi - lo) (ints ((b.take hi).drop lo)) := by
  have h3 := Kd.C_take (k := Kd.int .u8) (m := hi) (xs := ints b) (by rw [ints_len]; exact h) (by rw [ints_len]; exact h2)
  have h4 := Kd.C_drop (k := Kd.int .u8) (m := lo) (c := c) h3 (by rw [List.length_take, ints_len]; omega) (by rw [List.length_take, ints_len]; omega)
  have e : ((ints b).take hi).drop lo = ints ((b.take hi).drop lo) := by unfold ints; rw [List.map_drop, List.map_take]
  rw [e, ints_len, List.length_drop, List.length_take, Nat.min_eq_left h2] at h4
  rw [show lo * (Kd.int .u8).sz = lo from Nat.mul_one lo] at h4
  exact h4
theorem byte_get {w : World} {A : Option Addr} {b : Txt} (h : (Kd.int .u8).C w A b.length (ints b)) (j : Nat) (hj : j < b.length) : ∃ ad, A = some ad ∧ w.cell? (ad.add j) = some (.int .u8 (b[j].toNat : Int)) := by
  obtain ⟨ad, rfl, _⟩ := h.2.2 (by omega)
  exact ⟨ad, rfl, byte_cell h j _ (by unfold bcells; rw [List.getElem?_map, List.getElem?_eq_getElem hj]; rfl)⟩
set_option maxRecDepth 100000 in
set_option maxHeartbeats 4000000 in
theorem refFind0_any (A : Option Addr) (c : Nat) (fs : List FileL) (nm own : Txt) (w0 w : World) (hC : Kd.C KG w0 A (fs.map toG).length (fs.map toG)) (hb : Below w0.heap.size w0 w) (hn : fs.length ≤ 1000) (hf : findL fs nm = some own) :
    Calls Tryz.prog 41 #[.slice A fs.length c, .string (B nm)] w fun e w' => w' = w ∧ ∃ A1 c1, e = .returned (.tuple #[.slice A1 own.length c1, .bool true]) ∧ own.length ≤ c1 ∧ (Kd.int .u8).C w0 A1 own.length (ints own) := by
  have hCH := Lib.hid hC
  have hbH := Lib.hid hb
  have hfH := Lib.hid hf
  obtain ⟨N, hN⟩ : ∃ N, fs.length = N := ⟨_, rfl⟩
  have hNH := Lib.hid hN
  rw [hN]
  clear hC hN hf
  go_enter Tryz.func41, Tryz.ntmps41
  go_wp2_with fail
  go_loopg [6] N (fun gk s6 wr => ∃ i : Nat, s6 = .int .i64 (i : Int) ∧ i + gk = N ∧ Hid (∀ (j : Nat) (hj : j < fs.length), j < i → fs[j].n ≠ nm) ∧ wr = w)
  case atStart => exact ⟨0, rfl, by omega, fun j _ h => absurd h (by omega), rfl⟩
  case round =>
    obtain ⟨i, rfl, hik, hNo, rfl⟩ := hrel
    cases gk with
    | zero =>
      exfalso
      have hnone : findL fs nm = none := find_none fs nm (fun f hf => by
        obtain ⟨j, hj, rfl⟩ := List.mem_iff_getElem.1 hf
        exact hNo.out j hj (by have := hNH.out; omega))
      rw [hfH.out] at hnone
      cases hnone
    | succ gk =>
      have hiN : i < fs.length := by rw [hNH.out]; omega
      have hlt : decide ((i : Int) < (N : Int)) = true := by rw [decide_eq_true_iff]; omega
      have hi0 : (0 : Int) ≤ (i : Int) := by omega
      have hi1 : (i : Int) < (N : Int) := by omega
      have hi2 : i < N := by omega
      obtain ⟨ad, A1, c1, hA, k0', k1', l1, g1⟩ := gfile_at hCH.out i hiN
      have k0 := below_cell hbH.out k0'
      have k1 := below_cell hbH.out k1'
      have hAH := Lib.hid hA
      obtain ⟨ad', rfl⟩ : ∃ ad, A = some ad := ⟨_, hA⟩
      obtain rfl : ad' = ad := by have := hAH.out; injection this
      have hg1 := Lib.hid g1
      have hl1 := Lib.hid l1
      obtain ⟨f, hf⟩ : ∃ f, fs[i] = f := ⟨_, rfl⟩
      rw [hf] at k0 k1 hl1 hg1
      have hfH2 := Lib.hid hf
      clear g1 hA hf k0' k1' l1
      cases hx : (f.n == nm) with
      | true =>
        have hfo : f.b = own := by
          have := find_first fs nm i hiN (by rw [hfH2.out]; exact beq_iff_eq.1 hx) (fun j hj => hNo.out j (by omega) hj)
          rw [hfH.out, hfH2.out] at this
          injection this with this
          exact this.symm
        subst hfo
        go_wp2_with fail
        go_ret2
        exact ⟨rfl, A1, c1, rfl, hl1.out, hg1.out⟩
      | false =>
        have hNo2 : Hid (∀ (j : Nat) (hj : j < fs.length), j < i + 1 → fs[j].n ≠ nm) := fun j hj h => by
          by_cases hji : j = i
          · subst hji; rw [hfH2.out]; exact beq_eq_false_iff_ne.1 hx
          · exact hNo.out j hj (by omega)
        have hwr : IntKind.i64.wrap ((i : Int) + 1) = (i : Int) + 1 := by rw [IntKind.wrap_i64]; have := hNH.out; omega
        go_wp2_with fail
        go_roundg gk
        case measure => omega
        case rel => exact ⟨i + 1, by first | rfl | simp, by omega, hNo2, rfl⟩
theorem rows_ne {w : World} {N n m : Nat} {v v' : Value} {xs ys : List Value} (h : w.ownsRow N 5 1 v n xs) (h' : w.ownsRow N 9 1 v' m ys) (k : Nat) (e : v.ownBlock = some k) (e' : v'.ownBlock = some k) : False := by
  obtain ⟨cs, e1⟩ := own_typed h k e
  obtain ⟨cs2, e2⟩ := own_typed h' k e'
  rw [e1] at e2
  injection e2 with e2
  injection e2 with _ e2 _
  exact absurd e2 (by decide)
set_option maxRecDepth 100000 in
set_option maxHeartbeats 16000000 in
theorem putsR_any (N mb : Nat) (fs : List FileL) (A : Option Addr) (cap : Nat) (w0 : World) (hC : Kd.C KG w0 A (fs.map toG).length (fs.map toG)) (hfs : fs.length ≤ 1000) (hfl0 : ∀ f ∈ fs, f.b.length ≤ 100000) (hmbN0 : mb < N) (hw0N0 : w0.heap.size ≤ N) (hw0m0 : w0.heap.size ≤ mb) :
    ∀ (k d : Nat), k + d = 11 → ∀ (w : World) (vo vf : Value) (s : PS) (Ab : Option Addr) (cb : Nat) (b : Txt) (sE : PS), N ≤ w.heap.size → Below w0.heap.size w0 w → (∀ w', SameN N mb w w' → (Kd.int .u8).C w' Ab b.length (ints b)) → b.length ≤ 100000 → b.length ≤ cb →
      w.ownsRow N 5 1 vo s.out.length (bcells s.out) → w.ownsRow N 9 1 vf s.found.length (strs s.found) → w.heap[mb]? = some (.cells #[.int .i64 (s.many : Int)] 3 (0, 0)) → PSok s → putsE fs k s b = some sE →
      Calls Tryz.prog 44 #[.slice A fs.length cap, vo, .slice Ab b.length cb, .int .i64 (d : Int), vf, .pointer (some ⟨mb, 0, none⟩)] w fun e w' => SameN N mb w w' ∧ ∃ vo' vf', e = .returned (.tuple #[vo', vf', .bool true]) ∧
        w'.ownsRow N 5 1 vo' sE.out.length (bcells sE.out) ∧ w'.ownsRow N 9 1 vf' sE.found.length (strs sE.found) ∧ w'.heap[mb]? = some (.cells #[.int .i64 (sE.many : Int)] 3 (0, 0)) := by
  obtain ⟨inf, hinf, hz0, hz1, hz2⟩ := info_parts infoU8
  have hC0 := Lib.hid hC
  have hfl := Lib.hid hfl0
  have hmbN := Lib.hid hmbN0
  have hw0N := Lib.hid hw0N0
  have hw0m := Lib.hid hw0m0
  obtain ⟨NF, hNF⟩ : ∃ n, fs.length = n := ⟨_, rfl⟩
  have hNH := Lib.hid hNF
  have hN1000 : NF ≤ 1000 := by omega
  rw [hNF]
  clear hC hfl0 hmbN0 hw0N0 hw0m0 hNF hfs
  intro k
  induction k with
  | zero => intro d _ w vo vf s Ab cb b sE _ _ _ _ _ _ _ _ _ h; cases h
  | succ k ih0 =>
    intro d hkd w vo vf s Ab cb b sE hNw0 hB00 hb0 hbl hcb hvo hvf hmb0 hok hput
    have ih := ih0
    have hNw := Lib.hid hNw0
    have hB0 := Lib.hid hB00
    have hbH := Lib.hid hb0
    have hO0 := Lib.hid hvo
    have hF0 := Lib.hid hvf
    have hmb0H := Lib.hid hmb0
    have hok0 := Lib.hid hok
    have hpH : Hid (linesP fs (putsE fs k) (splitK 10 1 (b.drop 0)) s = some sE) := hput
    obtain ⟨n, hn⟩ : ∃ n, b.length = n := ⟨_, rfl⟩
    have hbn := Lib.hid hn
    obtain ⟨Ao0, co0, rfl, _, _⟩ := own_reads hvo
    obtain ⟨Af0, cf0, rfl, _, _⟩ := row_reads hvf
    have hd10 : decide ((d : Int) > 10) = false := by rw [decide_eq_false_iff_not]; omega
    rw [hn] at hbl hcb ⊢
    clear hNw0 hB00 hb0 hvo hvf hmb0 hok hput hn ih0
    have ihH := Lib.hid ih
    clear ih
    go_enter Tryz.func44, Tryz.ntmps44
    go_wp2_with fail
    go_loopg [1, 4, 15] (n + 1) (fun gk s1_ s4_ s15_ wr => ∃ (a : Nat) (s' : PS) (Ao : Option Addr) (co : Nat) (Af : Option Addr) (cf : Nat), s1_ = .slice Ao s'.out.length co ∧ s4_ = .slice Af s'.found.length cf ∧ s15_ = .int .i64 (a : Int) ∧ a ≤ n ∧ n + 1 ≤ a + gk ∧
      Hid (linesP fs (putsE fs k) (splitK 10 1 (b.drop a)) s' = some sE) ∧ Hid (wr.ownsRow N 5 1 (.slice Ao s'.out.length co) s'.out.length (bcells s'.out)) ∧ Hid (wr.ownsRow N 9 1 (.slice Af s'.found.length cf) s'.found.length (strs s'.found)) ∧ Hid (SameN N mb w wr) ∧ Hid (wr.heap[mb]? = some (.cells #[.int .i64 (s'.many : Int)] 3 (0, 0))) ∧ Hid (PSok s'))
    case atStart => exact ⟨0, s, Ao0, co0, Af0, cf0, rfl, rfl, rfl, by omega, by omega, hpH, hO0, hF0, SameN.refl _ _ _, hmb0H, hok0⟩
    case round =>
      obtain ⟨a, s', Ao, co, Af, cf, rfl, rfl, rfl, han, hag, hL, hO, hF, hS, hmb, hOk⟩ := hrel
      by_cases halt : a < n
      · have hlta : decide ((a : Int) < (n : Int)) = true := by rw [decide_eq_true_iff]; omega
        obtain ⟨ad, hAd, _⟩ := byte_get (hbH.out wr hS.out) a (by rw [hbn.out]; exact halt)
        subst hAd
        obtain ⟨gko, rfl⟩ : ∃ g', gk = g' + 1 := ⟨gk - 1, by omega⟩
        go_wp2_with fail
        go_loopg [16] (n + 1) (fun gk2 s16_ wr2 => ∃ j : Nat, s16_ = .int .i64 (j : Int) ∧ a ≤ j ∧ j ≤ n ∧ n + 1 ≤ j + gk2 ∧ Hid (∀ i (h : i < b.length), a ≤ i → i < j → b[i] ≠ 10) ∧ wr2 = wr)
        case atStart => exact ⟨a, rfl, Nat.le_refl _, han, by omega, fun i h h1 h2 => absurd h2 (by omega), rfl⟩
        case round =>
          obtain ⟨j, rfl, haj, hjn, hjg, hno, rfl⟩ := hrel
          by_cases hjl : j < n
          · have hltj : decide ((j : Int) < (n : Int)) = true := by rw [decide_eq_true_iff]; omega
            obtain ⟨ad2, hAd2, q0⟩ := byte_get (hbH.out wr hS.out) j (by rw [hbn.out]; exact hjl)
            injection hAd2 with hAd2
            subst hAd2
            have hj0 : (0 : Int) ≤ (j : Int) := by omega
            have hj1 : (j : Int) < (n : Int) := by omega
            have hjw : IntKind.i64.wrap ((j : Int) + 1) = (j : Int) + 1 := by rw [IntKind.wrap_i64]; omega
            by_cases hj10 : b[j]'(by rw [hbn.out]; exact hjl) = 10
            · have hc10 : (((b[j]'(by rw [hbn.out]; exact hjl)).toNat : Int) != 10) = false := by rw [hj10]; rfl
              obtain ⟨bj, hbj⟩ : ∃ x, ((b[j]'(by rw [hbn.out]; exact hjl)).toNat : Int) = x := ⟨_, rfl⟩
              rw [hbj] at hc10 q0
              obtain ⟨nx, hnx'⟩ : ∃ x, j + 1 = x := ⟨_, rfl⟩
              have hnxi : (j : Int) + 1 = (nx : Int) := by omega
              have hmin : min (nx : Int) (n : Int) = (nx : Int) := by omega
              have hmin2 : ((nx : Int) ≤ (n : Int)) := by omega
              rw [hnxi] at hjw
              have hjw' : IntKind.i64.wrap ((j : Int) + 1) = (nx : Int) := by rw [hnxi]; exact hjw
              clear hbj
              have hnxn : nx ≤ n := by omega
              have hgb : b[j]'(by rw [hbn.out]; omega) = 10 := hj10
              obtain ⟨hsp', htr⟩ := line_at b a j haj (by rw [hbn.out]; omega) hgb (fun i h h1 h2 => hno.out i h h1 h2)
              rw [hnx'] at hsp' htr
              have hanx : a < nx := by omega
              have hsp : splitK 10 1 (b.drop a) = (b.take nx).drop a :: splitK 10 1 (b.drop nx) ∨ (splitK 10 1 (b.drop a) = [(b.take nx).drop a] ∧ b.drop nx = []) := .inl hsp'
              have hline : Hid ((Kd.int .u8).C wr (if cb = a then some ad else (some ad).map (·.add a)) (j - a) (ints ((b.take j).drop a))) := bytes_mid (hbH.out wr hS.out) (by rw [hbn.out]; exact hcb) a j haj (by rw [hbn.out]; exact hjn)
              have hpieceC : Hid (∀ w', SameN N mb w w' → (Kd.int .u8).C w' (if cb = a then some ad else (some ad).map (·.add a)) (nx - a) (ints ((b.take nx).drop a))) := fun w' hw' => bytes_mid (hbH.out w' hw') (by rw [hbn.out]; exact hcb) a nx (by omega) (by rw [hbn.out]; exact hnxn)
              obtain ⟨A5, hA5⟩ : ∃ A5, A5 = if cb = a then some ad else (some ad).map (·.add a) := ⟨_, rfl⟩
              rw [← hA5] at hline hpieceC
              have hcut1 : ∀ W : World, (Instr.slice 24 (.slice (some ad) n cb) (some (.int .i64 (a : Int))) (some (.int .i64 (j : Int))) none).run Tryz.prog W = .ok (.slice A5 (j - a) (cb - a)) W := fun W => by
                have := cut_mid 24 5 .i64 .i64 Tryz.underlying24 hinf 1 hz1 (some ad) n cb (a : Int) (j : Int) (by omega) (by omega) (by omega) hcb W
                rw [Int.toNat_natCast, Int.toNat_natCast, Nat.mul_one, ← hA5] at this
                exact this
              have hcut2 : ∀ W : World, (Instr.slice 24 (.slice (some ad) n cb) (some (.int .i64 (a : Int))) (some (.int .i64 (nx : Int))) none).run Tryz.prog W = .ok (.slice A5 (nx - a) (cb - a)) W := fun W => by
                have := cut_mid 24 5 .i64 .i64 Tryz.underlying24 hinf 1 hz1 (some ad) n cb (a : Int) (nx : Int) (by omega) (by omega) (by omega) hcb W
                rw [Int.toNat_natCast, Int.toNat_natCast, Nat.mul_one, ← hA5] at this
                exact this
              have hll : ((b.take j).drop a).length = j - a := by rw [List.length_drop, List.length_take, hbn.out]; omega
              have hpl : ((b.take nx).drop a).length = nx - a := by rw [List.length_drop, List.length_take, hbn.out]; omega
              obtain ⟨s1, hst, hOk1', hnext'⟩ := lines_on (fun s b s' => puts_ok fs k s b s') hsp hOk.out hL.out
              have hnext := Lib.hid hnext'
              have hOk1 := Lib.hid hOk1'
              obtain ⟨line, hln⟩ : ∃ x, (b.take j).drop a = x := ⟨_, rfl⟩
              obtain ⟨piece, hpc⟩ : ∃ x, (b.take nx).drop a = x := ⟨_, rfl⟩
              rw [hln] at hline hll htr
              rw [hpc] at hpieceC hpl htr hst
              have hcv : (convert 24 9 (.slice A5 (j - a) (cb - a))).run Tryz.prog wr = .ok (.string (B line)) wr := by
                have := conv_txt (c := cb - a) (b := line) (w := wr) (A := A5) (by rw [hll]; exact hline.out)
                rw [hll] at this; exact this
              have hInc := Lib.hid (include_any line wr)
              have hplH := Lib.hid hpl
              have hstH := Lib.hid hst
              have htrH := Lib.hid htr
              have hoH := hO
              clear hA5 hline hll hln hpc hsp hst htr hnext' hOk1' hpl hL
              go_wp2_with fail
              refine hInc.out.mono ?_
              rintro e w3 ⟨rfl, hb3⟩
              have hS3 := Lib.hid (hS.out.trans (SameN.of_below (hb3.mono (Nat.le_trans hNw.out hS.out.size))))
              have hO3 := Lib.hid (own_move hO.out (w1 := w3) (fun k e => hb3.block k (own_lt hO.out k e)))
              have hF3 := Lib.hid (own_move hF.out (w1 := w3) (fun k e => hb3.block k (own_lt hF.out k e)))
              have hm3 := Lib.hid ((hb3.block _ (Array.getElem?_eq_some_iff.1 hmb.out).1).trans hmb.out)
              have hB03 := Lib.hid (SameN.below hB0.out hS3.out hw0N.out hw0m.out)
              clear hb3 hInc hO hF hmb hcut1 hcv
              cases hinc : kInclude.isPrefixOf line with
              | false =>
                have hinl : inclL piece = none := by unfold inclL; rw [htrH.out, hinc]; rfl
                obtain ⟨hl65, hs1⟩ := step_none hinl hstH.out
                have hP3 := Lib.hid (hpieceC.out w3 hS3.out)
                have hd65 : decide (((s'.out ++ piece).length : Int) > 65536) = false := by rw [decide_eq_false_iff_not]; omega
                have hpl2 : piece.length = nx - a := hplH.out
                have hout2 : s'.out.length ≤ 65536 := hOk.out.o
                subst hs1
                clear hinl hstH hpieceC
                go_wp2_with (at_builtin; go_loud (refine print_append_row (w0 := w3) N rfl _ _ 24 5 .u8 1 rfl Tryz.underlying24 info5 (by decide) (.slice Ao s'.out.length co) (ints s'.out) (ints piece) A5 (nx - a) (cb - a) rfl rfl (own_num.1 hO3.out) ?hr (Below.refl _ _) (Nat.le_trans hNw.out hS3.out.size) ?hl ?_))
                case hr => exact reads_int hP3.out
                case hl => rw [ints_len]; omega
                intro v4 w4 hown hB34 hg4 _
                have hO4 := Lib.hid (nums_of hown)
                have hS4 := Lib.hid (hS3.out.trans (SameN.of_below hB34))
                have hF4 := Lib.hid (own_move hF3.out (w1 := w4) (fun k e => hg4.block k (own_lt hF3.out k e) (fun e2 => rows_ne hO3.out hF3.out k e2.symm e)))
                have hm4 := Lib.hid ((hg4.block _ (Array.getElem?_eq_some_iff.1 hm3.out).1 (fun e => by obtain ⟨cs, e1⟩ := own_typed hO3.out mb e.symm; exact absurd (typed_ne hm3.out e1) (by decide))).trans hm3.out)
                obtain ⟨A4, c4, rfl, _, _⟩ := own_reads hO4.out
                clear hown hB34 hg4
                obtain ⟨so, hso⟩ : ∃ x, s'.out ++ piece = x := ⟨_, rfl⟩
                rw [hso] at hd65 hO4 hnext hOk1 ⊢
                clear hso
                go_wp2_with fail
                go_roundg gko
                case measure => omega
                case rel => exact ⟨nx, ⟨so, s'.found, s'.many⟩, A4, c4, Af, cf, by first | rfl | simp, by first | rfl | simp, by first | rfl | simp, hnxn, by omega, hnext, hO4, hF4, hS4, hm4, hOk1⟩
              | true =>
                obtain ⟨nm, hnm⟩ : ∃ x, line.drop 9 = x := ⟨_, rfl⟩
                have hinl : inclL piece = some nm := by unfold inclL; rw [htrH.out, hinc, ← hnm]; rfl
                obtain ⟨own, hfd, hrt, hm1, hrc⟩ := step_some hinl hstH.out
                have hrec := Lib.hid hrc
                have hm1000 := Lib.hid hm1
                have hfi := Lib.hid (refFind0_any A cap fs nm own w0 w3 hC0.out hB03.out (by rw [hNH.out]; exact hN1000) hfd)
                rw [hNH.out] at hfi
                have hrtH := Lib.hid hrt
                have hownl : Hid (own.length ≤ 100000) := by
                  rw [findL, Option.map_eq_some_iff] at hfd
                  obtain ⟨f, hf, rfl⟩ := hfd
                  exact hfl.out f (List.mem_of_find?_eq_some hf)
                simp only [if_true, hnm]
                clear hinl hstH hpieceC hfd hrt hrc hcut2
                go_wp2_with fail
                refine hfi.out.mono ?_
                rintro e w4 ⟨rfl, A1, c1, rfl, hc1, hC1⟩
                have hCown := Lib.hid hC1
                have hownc := Lib.hid hc1
                obtain ⟨lw, hlw⟩ : ∃ x, own.length = x := ⟨_, rfl⟩
                have hownL := Lib.hid hlw
                rw [hlw]
                have mk0 := (cell_of_heap (j := 0) hm3.out).trans rfl
                have mkf := frozen_of_heap hm3.out 0
                have hmw : IntKind.i64.wrap ((s'.many : Int) + 1) = (s'.many : Int) + 1 := by rw [IntKind.wrap_i64]; omega
                have hm5 : Hid ((w4.setCell ⟨mb, 0, none⟩ (.int .i64 ((s'.many : Int) + 1))).heap[mb]? = some (.cells #[.int .i64 ((s'.many : Int) + 1)] 3 (0, 0))) := blk_put hm3.out 0 _ rfl
                have hS5 := Lib.hid (hS3.out.set 0 (.int .i64 ((s'.many : Int) + 1)))
                have hne5 : ∀ k, k ≠ mb → (w4.setCell ⟨mb, 0, none⟩ (.int .i64 ((s'.many : Int) + 1))).heap[k]? = w4.heap[k]? := fun k hk => Below.heap_setCell _ _ _ _ hk
                have hO5 := Lib.hid (own_move hO3.out (w1 := w4.setCell ⟨mb, 0, none⟩ (.int .i64 ((s'.many : Int) + 1))) (fun k e => hne5 k (by have := own_base hO3.out k e; have := hmbN.out; omega)))
                have hF5 := Lib.hid (own_move hF3.out (w1 := w4.setCell ⟨mb, 0, none⟩ (.int .i64 ((s'.many : Int) + 1))) (fun k e => hne5 k (by have := own_base hF3.out k e; have := hmbN.out; omega)))
                clear hlw hC1 hc1 hne5 hfi
                go_wp2_with fail
                generalize w4.setCell ⟨mb, 0, none⟩ (.int .i64 ((s'.many : Int) + 1)) = w5 at *
                refine (refRight_any nm w5).mono ?_
                rintro e w6 ⟨rfl, hb6⟩
                rw [hrtH.out]
                have hS6 := Lib.hid (hS5.out.trans (SameN.of_below (hb6.mono (Nat.le_trans hNw.out hS5.out.size))))
                have hO6 := Lib.hid (own_move hO5.out (w1 := w6) (fun k e => hb6.block k (own_lt hO5.out k e)))
                have hF6 := Lib.hid (own_move hF5.out (w1 := w6) (fun k e => hb6.block k (own_lt hF5.out k e)))
                have hm6 := Lib.hid ((hb6.block _ (Array.getElem?_eq_some_iff.1 hm5.out).1).trans hm5.out)
                have mk6 := (cell_of_heap (j := 0) hm6.out).trans rfl
                have hd1000 : decide ((s'.many : Int) + 1 > 1000) = false := by rw [decide_eq_false_iff_not]; omega
                obtain ⟨Af6, cf6, hAf6, hlf6, hCf6⟩ := row_reads hF6.out
                injection hAf6 with hAf1 _ hAf3
                subst hAf1 hAf3
                have hfm := hOk.out.f
                have hIn := In_C Af cf s'.found nm w6 (by omega) hCf6 hlf6
                have hInH := Lib.hid hIn
                clear hb6 hIn hCf6 mk0 mkf hS5 hO5 hF5 hm5 hO3 hF3 hm3
                go_wp2_with fail
                refine hInH.out.mono ?_
                rintro e w7 ⟨rfl, hb7⟩
                have hS7 := Lib.hid (hS6.out.trans (SameN.of_below (hb7.mono (Nat.le_trans hNw.out hS6.out.size))))
                have hO7 := Lib.hid (own_move hO6.out (w1 := w7) (fun k e => hb7.block k (own_lt hO6.out k e)))
                have hF7 := Lib.hid (own_move hF6.out (w1 := w7) (fun k e => hb7.block k (own_lt hF6.out k e)))
                have hm7 := Lib.hid ((hb7.block _ (Array.getElem?_eq_some_iff.1 hm6.out).1).trans hm6.out)
                clear hb7 hInH mk6 hS6 hO6 hF6 hm6
                cases hin : decide (nm ∈ s'.found) with
                | true =>
                  have hrec2 : putsE fs k ⟨s'.out, s'.found, s'.many + 1⟩ own = some s1 := by
                    have h1 := hrec.out
                    unfold addF at h1
                    rw [if_pos (of_decide_eq_true hin)] at h1
                    exact h1
                  have hfl7 : s'.found.length ≤ s'.many + 1 := by omega
                  have hNw7 := Nat.le_trans hNw.out hS7.out.size
                  have hB07 := SameN.below hB0.out hS7.out hw0N.out hw0m.out
                  have hCall := ihH.out (d + 1) (by omega) w7 (.slice Ao s'.out.length co) (.slice Af s'.found.length cf) ⟨s'.out, s'.found, s'.many + 1⟩ A1 c1 own s1 hNw7 hB07 (fun w' hw' => Kd.C_below hCown.out (SameN.below hB07 hw' hw0N.out hw0m.out)) hownl.out hownc.out hO7.out hF7.out hm7.out ⟨hOk.out.o, hfl7, hm1000.out⟩ hrec2
                  rw [hownL.out, show ((d + 1 : Nat) : Int) = (d : Int) + 1 by omega] at hCall
                  have hCallH := Lib.hid hCall
                  have hdw : IntKind.i64.wrap ((d : Int) + 1) = (d : Int) + 1 := by rw [IntKind.wrap_i64]; omega
                  clear hCall hNw7 hB07 hrec2
                  go_wp2_with fail
                  refine hCallH.out.mono ?_
                  rintro e w8 ⟨hS78, vo8, vf8, rfl, hO8, hF8, hm8⟩
                  obtain ⟨Ao8, co8, rfl, _, _⟩ := own_reads hO8
                  obtain ⟨Af8, cf8, rfl, _, _⟩ := row_reads hF8
                  have hS8 := Lib.hid (hS7.out.trans hS78)
                  have hO8H := Lib.hid hO8
                  have hF8H := Lib.hid hF8
                  have hm8H := Lib.hid hm8
                  clear hS78 hO8 hF8 hm8
                  go_wp2_with fail
                  go_roundg gko
                  case measure => omega
                  case rel => exact ⟨nx, s1, Ao8, co8, Af8, cf8, by first | rfl | simp, by first | rfl | simp, by first | rfl | simp, hnxn, by omega, hnext, hO8H, hF8H, hS8, hm8H, hOk1⟩
                | false =>
                  have hrec2 : putsE fs k ⟨s'.out, s'.found ++ [nm], s'.many + 1⟩ own = some s1 := by
                    have h1 := hrec.out
                    unfold addF at h1
                    rw [if_neg (of_decide_eq_false hin)] at h1
                    exact h1
                  have hfl7 : (s'.found ++ [nm]).length ≤ s'.many + 1 := by rw [List.length_append, List.length_singleton]; omega
                  have hNs7 : N ≤ w7.heap.size := Nat.le_trans hNw.out hS7.out.size
                  go_wp2_with (at_builtin; go_loud (refine print_append_cells (w0 := w7) (W := w7) N rfl _ _ 22 9 (.string ⟨#[]⟩) 1 16 rfl Tryz.underlying22 infoStr rfl (by decide) (by decide) (.slice Af s'.found.length cf) s'.found.length (strs s'.found) [.string (B nm)] rfl rfl rfl (by intro u hu; rw [List.mem_singleton.1 hu]; rfl) hF7.out (Below.refl _ _) hNs7 (by omega) ?_))
                  intro vf9 w9 ho9 hb9 hg9 _
                  have hF9 : Hid (w9.ownsRow N 9 1 vf9 (s'.found ++ [nm]).length (strs (s'.found ++ [nm]))) := by
                    show World.ownsRow _ _ _ _ _ _ _
                    rw [List.length_append, List.length_singleton, show strs (s'.found ++ [nm]) = strs s'.found ++ [.string (B nm)] by simp [strs]]
                    exact ho9
                  have hS9 := Lib.hid (hS7.out.trans (SameN.of_below hb9))
                  have hO9 := Lib.hid (own_move hO7.out (w1 := w9) (fun k e => hg9.block k (own_lt hO7.out k e) (fun e2 => rows_ne hO7.out hF7.out k e e2.symm)))
                  have hm9 := Lib.hid ((hg9.block _ (Array.getElem?_eq_some_iff.1 hm7.out).1 (fun e => by obtain ⟨cs, e1⟩ := own_typed hF7.out mb e.symm; exact absurd (typed_ne hm7.out e1) (by decide))).trans hm7.out)
                  obtain ⟨Af9, cf9, rfl⟩ : ∃ A c, vf9 = .slice A (s'.found.length + 1) c := by rcases ho9.2 with ⟨_, h⟩ | ⟨g, cap, cur, e, _⟩; exact absurd h (by omega); exact ⟨_, _, e⟩
                  clear ho9 hb9 hg9 hO7 hF7 hm7 hNs7
                  have hNw7 := Nat.le_trans hNw.out hS9.out.size
                  have hB07 := SameN.below hB0.out hS9.out hw0N.out hw0m.out
                  have hCall := ihH.out (d + 1) (by omega) w9 (.slice Ao s'.out.length co) (.slice Af9 (s'.found.length + 1) cf9) ⟨s'.out, s'.found ++ [nm], s'.many + 1⟩ A1 c1 own s1 hNw7 hB07 (fun w' hw' => Kd.C_below hCown.out (SameN.below hB07 hw' hw0N.out hw0m.out)) hownl.out hownc.out hO9.out hF9.out hm9.out ⟨hOk.out.o, hfl7, hm1000.out⟩ hrec2
                  rw [hownL.out, show ((d + 1 : Nat) : Int) = (d : Int) + 1 by omega] at hCall
                  have hCallH := Lib.hid hCall
                  have hdw : IntKind.i64.wrap ((d : Int) + 1) = (d : Int) + 1 := by rw [IntKind.wrap_i64]; omega
                  clear hCall hNw7 hB07 hrec2
                  go_wp2_with fail
                  refine hCallH.out.mono ?_
                  rintro e w8 ⟨hS78, vo8, vf8, rfl, hO8, hF8, hm8⟩
                  obtain ⟨Ao8, co8, rfl, _, _⟩ := own_reads hO8
                  obtain ⟨Af8, cf8, rfl, _, _⟩ := row_reads hF8
                  have hS8 := Lib.hid (hS9.out.trans hS78)
                  have hO8H := Lib.hid hO8
                  have hF8H := Lib.hid hF8
                  have hm8H := Lib.hid hm8
                  clear hS78 hO8 hF8 hm8
                  go_wp2_with fail
                  go_roundg gko
                  case measure => omega
                  case rel => exact ⟨nx, s1, Ao8, co8, Af8, cf8, by first | rfl | simp, by first | rfl | simp, by first | rfl | simp, hnxn, by omega, hnext, hO8H, hF8H, hS8, hm8H, hOk1⟩
            · have hc10 : (((b[j]'(by rw [hbn.out]; exact hjl)).toNat : Int) != 10) = true := by rw [bne_iff_ne]; exact byte_ne (d := 10) hj10
              obtain ⟨bj, hbj⟩ : ∃ x, ((b[j]'(by rw [hbn.out]; exact hjl)).toNat : Int) = x := ⟨_, rfl⟩
              rw [hbj] at hc10 q0
              have hno2 : Hid (∀ i (h : i < b.length), a ≤ i → i < j + 1 → b[i] ≠ 10) := fun i h h1 h2 => by
                by_cases hij : i = j
                · subst hij; exact hj10
                · exact hno.out i h h1 (by omega)
              clear hbj hj10
              obtain ⟨gk, rfl⟩ : ∃ g', gk = g' + 1 := ⟨gk - 1, by omega⟩
              go_wp2_with fail
              go_roundg gk
              case measure => omega
              case rel => exact ⟨j + 1, by first | rfl | simp, by omega, by omega, by omega, hno2, rfl⟩
          · have hltj : decide ((j : Int) < (n : Int)) = false := by rw [decide_eq_false_iff_not]; omega
            have hjx : j = n := by omega
            have hjw : IntKind.i64.wrap ((j : Int) + 1) = (j : Int) + 1 := by rw [IntKind.wrap_i64]; omega
            obtain ⟨nx, hnx'⟩ : ∃ x, n = x := ⟨_, rfl⟩
            have hmin : min ((j : Int) + 1) (n : Int) = (nx : Int) := by omega
            have hnxn : nx ≤ n := by omega
            obtain ⟨hsp1, hsp2, htr⟩ := line_last b a (by rw [hbn.out]; omega) (fun i h h1 h2 => hno.out i h h1 (by rw [hbn.out] at h2; omega))
            rw [hbn.out, hnx'] at hsp1 hsp2 htr
            have htr : trimNL ((b.take nx).drop a) = (b.take j).drop a := by rw [hjx, hnx']; exact htr
            have hsp : splitK 10 1 (b.drop a) = (b.take nx).drop a :: splitK 10 1 (b.drop nx) ∨ (splitK 10 1 (b.drop a) = [(b.take nx).drop a] ∧ b.drop nx = []) := .inr ⟨hsp1, hsp2⟩
            have hanx : a < nx := by omega
            have hjxH := Lib.hid hjx
            have hnxH := Lib.hid hnx'
            clear hjx hnx' hsp1 hsp2
            have hline : Hid ((Kd.int .u8).C wr (if cb = a then some ad else (some ad).map (·.add a)) (j - a) (ints ((b.take j).drop a))) := bytes_mid (hbH.out wr hS.out) (by rw [hbn.out]; exact hcb) a j haj (by rw [hbn.out]; exact hjn)
            have hpieceC : Hid (∀ w', SameN N mb w w' → (Kd.int .u8).C w' (if cb = a then some ad else (some ad).map (·.add a)) (nx - a) (ints ((b.take nx).drop a))) := fun w' hw' => bytes_mid (hbH.out w' hw') (by rw [hbn.out]; exact hcb) a nx (by omega) (by rw [hbn.out]; exact hnxn)
            obtain ⟨A5, hA5⟩ : ∃ A5, A5 = if cb = a then some ad else (some ad).map (·.add a) := ⟨_, rfl⟩
            rw [← hA5] at hline hpieceC
            have hcut1 : ∀ W : World, (Instr.slice 24 (.slice (some ad) n cb) (some (.int .i64 (a : Int))) (some (.int .i64 (j : Int))) none).run Tryz.prog W = .ok (.slice A5 (j - a) (cb - a)) W := fun W => by
              have := cut_mid 24 5 .i64 .i64 Tryz.underlying24 hinf 1 hz1 (some ad) n cb (a : Int) (j : Int) (by omega) (by omega) (by omega) hcb W
              rw [Int.toNat_natCast, Int.toNat_natCast, Nat.mul_one, ← hA5] at this
              exact this
            have hcut2 : ∀ W : World, (Instr.slice 24 (.slice (some ad) n cb) (some (.int .i64 (a : Int))) (some (.int .i64 (nx : Int))) none).run Tryz.prog W = .ok (.slice A5 (nx - a) (cb - a)) W := fun W => by
              have := cut_mid 24 5 .i64 .i64 Tryz.underlying24 hinf 1 hz1 (some ad) n cb (a : Int) (nx : Int) (by omega) (by omega) (by omega) hcb W
              rw [Int.toNat_natCast, Int.toNat_natCast, Nat.mul_one, ← hA5] at this
              exact this
            have hll : ((b.take j).drop a).length = j - a := by rw [List.length_drop, List.length_take, hbn.out]; omega
            have hpl : ((b.take nx).drop a).length = nx - a := by rw [List.length_drop, List.length_take, hbn.out]; omega
            obtain ⟨s1, hst, hOk1', hnext'⟩ := lines_on (fun s b s' => puts_ok fs k s b s') hsp hOk.out hL.out
            have hnext := Lib.hid hnext'
            have hOk1 := Lib.hid hOk1'
            obtain ⟨line, hln⟩ : ∃ x, (b.take j).drop a = x := ⟨_, rfl⟩
            obtain ⟨piece, hpc⟩ : ∃ x, (b.take nx).drop a = x := ⟨_, rfl⟩
            rw [hln] at hline hll htr
            rw [hpc] at hpieceC hpl htr hst
            have hcv : (convert 24 9 (.slice A5 (j - a) (cb - a))).run Tryz.prog wr = .ok (.string (B line)) wr := by
              have := conv_txt (c := cb - a) (b := line) (w := wr) (A := A5) (by rw [hll]; exact hline.out)
              rw [hll] at this; exact this
            have hInc := Lib.hid (include_any line wr)
            have hplH := Lib.hid hpl
            have hstH := Lib.hid hst
            have htrH := Lib.hid htr
            have hoH := hO
            clear hA5 hline hll hln hpc hsp hst htr hnext' hOk1' hpl hL
            go_wp2_with fail
            refine hInc.out.mono ?_
            rintro e w3 ⟨rfl, hb3⟩
            have hS3 := Lib.hid (hS.out.trans (SameN.of_below (hb3.mono (Nat.le_trans hNw.out hS.out.size))))
            have hO3 := Lib.hid (own_move hO.out (w1 := w3) (fun k e => hb3.block k (own_lt hO.out k e)))
            have hF3 := Lib.hid (own_move hF.out (w1 := w3) (fun k e => hb3.block k (own_lt hF.out k e)))
            have hm3 := Lib.hid ((hb3.block _ (Array.getElem?_eq_some_iff.1 hmb.out).1).trans hmb.out)
            have hB03 := Lib.hid (SameN.below hB0.out hS3.out hw0N.out hw0m.out)
            clear hb3 hInc hO hF hmb hcut1 hcv
            cases hinc : kInclude.isPrefixOf line with
            | false =>
              have hinl : inclL piece = none := by unfold inclL; rw [htrH.out, hinc]; rfl
              obtain ⟨hl65, hs1⟩ := step_none hinl hstH.out
              have hP3 := Lib.hid (hpieceC.out w3 hS3.out)
              have hd65 : decide (((s'.out ++ piece).length : Int) > 65536) = false := by rw [decide_eq_false_iff_not]; omega
              have hpl2 : piece.length = nx - a := hplH.out
              have hout2 : s'.out.length ≤ 65536 := hOk.out.o
              subst hs1
              clear hinl hstH hpieceC
              go_wp2_with (at_builtin; go_loud (refine print_append_row (w0 := w3) N rfl _ _ 24 5 .u8 1 rfl Tryz.underlying24 info5 (by decide) (.slice Ao s'.out.length co) (ints s'.out) (ints piece) A5 (nx - a) (cb - a) rfl rfl (own_num.1 hO3.out) ?hr (Below.refl _ _) (Nat.le_trans hNw.out hS3.out.size) ?hl ?_))
              case hr => exact reads_int hP3.out
              case hl => rw [ints_len]; omega
              intro v4 w4 hown hB34 hg4 _
              have hO4 := Lib.hid (nums_of hown)
              have hS4 := Lib.hid (hS3.out.trans (SameN.of_below hB34))
              have hF4 := Lib.hid (own_move hF3.out (w1 := w4) (fun k e => hg4.block k (own_lt hF3.out k e) (fun e2 => rows_ne hO3.out hF3.out k e2.symm e)))
              have hm4 := Lib.hid ((hg4.block _ (Array.getElem?_eq_some_iff.1 hm3.out).1 (fun e => by obtain ⟨cs, e1⟩ := own_typed hO3.out mb e.symm; exact absurd (typed_ne hm3.out e1) (by decide))).trans hm3.out)
              obtain ⟨A4, c4, rfl, _, _⟩ := own_reads hO4.out
              clear hown hB34 hg4
              obtain ⟨so, hso⟩ : ∃ x, s'.out ++ piece = x := ⟨_, rfl⟩
              rw [hso] at hd65 hO4 hnext hOk1 ⊢
              clear hso
              go_wp2_with fail
              go_roundg gko
              case measure => omega
              case rel => exact ⟨nx, ⟨so, s'.found, s'.many⟩, A4, c4, Af, cf, by first | rfl | simp, by first | rfl | simp, by first | rfl | simp, hnxn, by omega, hnext, hO4, hF4, hS4, hm4, hOk1⟩
            | true =>
              obtain ⟨nm, hnm⟩ : ∃ x, line.drop 9 = x := ⟨_, rfl⟩
              have hinl : inclL piece = some nm := by unfold inclL; rw [htrH.out, hinc, ← hnm]; rfl
              obtain ⟨own, hfd, hrt, hm1, hrc⟩ := step_some hinl hstH.out
              have hrec := Lib.hid hrc
              have hm1000 := Lib.hid hm1
              have hfi := Lib.hid (refFind0_any A cap fs nm own w0 w3 hC0.out hB03.out (by rw [hNH.out]; exact hN1000) hfd)
              rw [hNH.out] at hfi
              have hrtH := Lib.hid hrt
              have hownl : Hid (own.length ≤ 100000) := by
                rw [findL, Option.map_eq_some_iff] at hfd
                obtain ⟨f, hf, rfl⟩ := hfd
                exact hfl.out f (List.mem_of_find?_eq_some hf)
              simp only [if_true, hnm]
              clear hinl hstH hpieceC hfd hrt hrc hcut2
              go_wp2_with fail
              refine hfi.out.mono ?_
              rintro e w4 ⟨rfl, A1, c1, rfl, hc1, hC1⟩
              have hCown := Lib.hid hC1
              have hownc := Lib.hid hc1
              obtain ⟨lw, hlw⟩ : ∃ x, own.length = x := ⟨_, rfl⟩
              have hownL := Lib.hid hlw
              rw [hlw]
              have mk0 := (cell_of_heap (j := 0) hm3.out).trans rfl
              have mkf := frozen_of_heap hm3.out 0
              have hmw : IntKind.i64.wrap ((s'.many : Int) + 1) = (s'.many : Int) + 1 := by rw [IntKind.wrap_i64]; omega
              have hm5 : Hid ((w4.setCell ⟨mb, 0, none⟩ (.int .i64 ((s'.many : Int) + 1))).heap[mb]? = some (.cells #[.int .i64 ((s'.many : Int) + 1)] 3 (0, 0))) := blk_put hm3.out 0 _ rfl
              have hS5 := Lib.hid (hS3.out.set 0 (.int .i64 ((s'.many : Int) + 1)))
              have hne5 : ∀ k, k ≠ mb → (w4.setCell ⟨mb, 0, none⟩ (.int .i64 ((s'.many : Int) + 1))).heap[k]? = w4.heap[k]? := fun k hk => Below.heap_setCell _ _ _ _ hk
              have hO5 := Lib.hid (own_move hO3.out (w1 := w4.setCell ⟨mb, 0, none⟩ (.int .i64 ((s'.many : Int) + 1))) (fun k e => hne5 k (by have := own_base hO3.out k e; have := hmbN.out; omega)))
              have hF5 := Lib.hid (own_move hF3.out (w1 := w4.setCell ⟨mb, 0, none⟩ (.int .i64 ((s'.many : Int) + 1))) (fun k e => hne5 k (by have := own_base hF3.out k e; have := hmbN.out; omega)))
              clear hlw hC1 hc1 hne5 hfi
              go_wp2_with fail
              generalize w4.setCell ⟨mb, 0, none⟩ (.int .i64 ((s'.many : Int) + 1)) = w5 at *
              refine (refRight_any nm w5).mono ?_
              rintro e w6 ⟨rfl, hb6⟩
              rw [hrtH.out]
              have hS6 := Lib.hid (hS5.out.trans (SameN.of_below (hb6.mono (Nat.le_trans hNw.out hS5.out.size))))
              have hO6 := Lib.hid (own_move hO5.out (w1 := w6) (fun k e => hb6.block k (own_lt hO5.out k e)))
              have hF6 := Lib.hid (own_move hF5.out (w1 := w6) (fun k e => hb6.block k (own_lt hF5.out k e)))
              have hm6 := Lib.hid ((hb6.block _ (Array.getElem?_eq_some_iff.1 hm5.out).1).trans hm5.out)
              have mk6 := (cell_of_heap (j := 0) hm6.out).trans rfl
              have hd1000 : decide ((s'.many : Int) + 1 > 1000) = false := by rw [decide_eq_false_iff_not]; omega
              obtain ⟨Af6, cf6, hAf6, hlf6, hCf6⟩ := row_reads hF6.out
              injection hAf6 with hAf1 _ hAf3
              subst hAf1 hAf3
              have hfm := hOk.out.f
              have hIn := In_C Af cf s'.found nm w6 (by omega) hCf6 hlf6
              have hInH := Lib.hid hIn
              clear hb6 hIn hCf6 mk0 mkf hS5 hO5 hF5 hm5 hO3 hF3 hm3
              go_wp2_with fail
              refine hInH.out.mono ?_
              rintro e w7 ⟨rfl, hb7⟩
              have hS7 := Lib.hid (hS6.out.trans (SameN.of_below (hb7.mono (Nat.le_trans hNw.out hS6.out.size))))
              have hO7 := Lib.hid (own_move hO6.out (w1 := w7) (fun k e => hb7.block k (own_lt hO6.out k e)))
              have hF7 := Lib.hid (own_move hF6.out (w1 := w7) (fun k e => hb7.block k (own_lt hF6.out k e)))
              have hm7 := Lib.hid ((hb7.block _ (Array.getElem?_eq_some_iff.1 hm6.out).1).trans hm6.out)
              clear hb7 hInH mk6 hS6 hO6 hF6 hm6
              cases hin : decide (nm ∈ s'.found) with
              | true =>
                have hrec2 : putsE fs k ⟨s'.out, s'.found, s'.many + 1⟩ own = some s1 := by
                  have h1 := hrec.out
                  unfold addF at h1
                  rw [if_pos (of_decide_eq_true hin)] at h1
                  exact h1
                have hfl7 : s'.found.length ≤ s'.many + 1 := by omega
                have hNw7 := Nat.le_trans hNw.out hS7.out.size
                have hB07 := SameN.below hB0.out hS7.out hw0N.out hw0m.out
                have hCall := ihH.out (d + 1) (by omega) w7 (.slice Ao s'.out.length co) (.slice Af s'.found.length cf) ⟨s'.out, s'.found, s'.many + 1⟩ A1 c1 own s1 hNw7 hB07 (fun w' hw' => Kd.C_below hCown.out (SameN.below hB07 hw' hw0N.out hw0m.out)) hownl.out hownc.out hO7.out hF7.out hm7.out ⟨hOk.out.o, hfl7, hm1000.out⟩ hrec2
                rw [hownL.out, show ((d + 1 : Nat) : Int) = (d : Int) + 1 by omega] at hCall
                have hCallH := Lib.hid hCall
                have hdw : IntKind.i64.wrap ((d : Int) + 1) = (d : Int) + 1 := by rw [IntKind.wrap_i64]; omega
                clear hCall hNw7 hB07 hrec2
                go_wp2_with fail
                refine hCallH.out.mono ?_
                rintro e w8 ⟨hS78, vo8, vf8, rfl, hO8, hF8, hm8⟩
                obtain ⟨Ao8, co8, rfl, _, _⟩ := own_reads hO8
                obtain ⟨Af8, cf8, rfl, _, _⟩ := row_reads hF8
                have hS8 := Lib.hid (hS7.out.trans hS78)
                have hO8H := Lib.hid hO8
                have hF8H := Lib.hid hF8
                have hm8H := Lib.hid hm8
                clear hS78 hO8 hF8 hm8
                go_wp2_with fail
                go_roundg gko
                case measure => omega
                case rel => exact ⟨nx, s1, Ao8, co8, Af8, cf8, by first | rfl | simp, by first | rfl | simp, by first | rfl | simp, hnxn, by omega, hnext, hO8H, hF8H, hS8, hm8H, hOk1⟩
              | false =>
                have hrec2 : putsE fs k ⟨s'.out, s'.found ++ [nm], s'.many + 1⟩ own = some s1 := by
                  have h1 := hrec.out
                  unfold addF at h1
                  rw [if_neg (of_decide_eq_false hin)] at h1
                  exact h1
                have hfl7 : (s'.found ++ [nm]).length ≤ s'.many + 1 := by rw [List.length_append, List.length_singleton]; omega
                have hNs7 : N ≤ w7.heap.size := Nat.le_trans hNw.out hS7.out.size
                go_wp2_with (at_builtin; go_loud (refine print_append_cells (w0 := w7) (W := w7) N rfl _ _ 22 9 (.string ⟨#[]⟩) 1 16 rfl Tryz.underlying22 infoStr rfl (by decide) (by decide) (.slice Af s'.found.length cf) s'.found.length (strs s'.found) [.string (B nm)] rfl rfl rfl (by intro u hu; rw [List.mem_singleton.1 hu]; rfl) hF7.out (Below.refl _ _) hNs7 (by omega) ?_))
                intro vf9 w9 ho9 hb9 hg9 _
                have hF9 : Hid (w9.ownsRow N 9 1 vf9 (s'.found ++ [nm]).length (strs (s'.found ++ [nm]))) := by
                  show World.ownsRow _ _ _ _ _ _ _
                  rw [List.length_append, List.length_singleton, show strs (s'.found ++ [nm]) = strs s'.found ++ [.string (B nm)] by simp [strs]]
                  exact ho9
                have hS9 := Lib.hid (hS7.out.trans (SameN.of_below hb9))
                have hO9 := Lib.hid (own_move hO7.out (w1 := w9) (fun k e => hg9.block k (own_lt hO7.out k e) (fun e2 => rows_ne hO7.out hF7.out k e e2.symm)))
                have hm9 := Lib.hid ((hg9.block _ (Array.getElem?_eq_some_iff.1 hm7.out).1 (fun e => by obtain ⟨cs, e1⟩ := own_typed hF7.out mb e.symm; exact absurd (typed_ne hm7.out e1) (by decide))).trans hm7.out)
                obtain ⟨Af9, cf9, rfl⟩ : ∃ A c, vf9 = .slice A (s'.found.length + 1) c := by rcases ho9.2 with ⟨_, h⟩ | ⟨g, cap, cur, e, _⟩; exact absurd h (by omega); exact ⟨_, _, e⟩
                clear ho9 hb9 hg9 hO7 hF7 hm7 hNs7
                have hNw7 := Nat.le_trans hNw.out hS9.out.size
                have hB07 := SameN.below hB0.out hS9.out hw0N.out hw0m.out
                have hCall := ihH.out (d + 1) (by omega) w9 (.slice Ao s'.out.length co) (.slice Af9 (s'.found.length + 1) cf9) ⟨s'.out, s'.found ++ [nm], s'.many + 1⟩ A1 c1 own s1 hNw7 hB07 (fun w' hw' => Kd.C_below hCown.out (SameN.below hB07 hw' hw0N.out hw0m.out)) hownl.out hownc.out hO9.out hF9.out hm9.out ⟨hOk.out.o, hfl7, hm1000.out⟩ hrec2
                rw [hownL.out, show ((d + 1 : Nat) : Int) = (d : Int) + 1 by omega] at hCall
                have hCallH := Lib.hid hCall
                have hdw : IntKind.i64.wrap ((d : Int) + 1) = (d : Int) + 1 := by rw [IntKind.wrap_i64]; omega
                clear hCall hNw7 hB07 hrec2
                go_wp2_with fail
                refine hCallH.out.mono ?_
                rintro e w8 ⟨hS78, vo8, vf8, rfl, hO8, hF8, hm8⟩
                obtain ⟨Ao8, co8, rfl, _, _⟩ := own_reads hO8
                obtain ⟨Af8, cf8, rfl, _, _⟩ := row_reads hF8
                have hS8 := Lib.hid (hS9.out.trans hS78)
                have hO8H := Lib.hid hO8
                have hF8H := Lib.hid hF8
                have hm8H := Lib.hid hm8
                clear hS78 hO8 hF8 hm8
                go_wp2_with fail
                go_roundg gko
                case measure => omega
                case rel => exact ⟨nx, s1, Ao8, co8, Af8, cf8, by first | rfl | simp, by first | rfl | simp, by first | rfl | simp, hnxn, by omega, hnext, hO8H, hF8H, hS8, hm8H, hOk1⟩
      · have hlta : decide ((a : Int) < (n : Int)) = false := by rw [decide_eq_false_iff_not]; omega
        have hsE : s' = sE := by
          have h := hL.out
          rw [show a = b.length by rw [hbn.out]; omega, List.drop_length, lines_end hOk.out.o] at h
          injection h
        subst hsE
        go_wp2_with fail
        exact bodyPost_ret (v := .tuple #[.slice Ao s'.out.length co, .slice Af s'.found.length cf, .bool true]) (by simp [results, Tryz.results44, go_sem]) rfl ⟨hS.out, _, _, rfl, hO.out, hF.out, hmb.out⟩
end Go.Proofs.YtbklhcjcgiblkaaGreatDoor.Ck
end
section
set_option linter.unusedSimpArgs false
set_option linter.unusedVariables false
namespace Go.Proofs.YtbklhcjcgiblkaaGreatDoor.Ck
open Go.RowKit Go.Lib Go.Shelf Go.Maps Go.Proofs.YtbklhcjcgiblkaaGreatDoorW.PrintWords Go.Proofs.YtbklhcjcgiblkaaGreatDoorW.PrintLast Go.Proofs.YtbklhcjcgiblkaaGreatDoorW.PrintMore Go.Proofs.YtbklhcjcgiblkaaGreatDoor.U Go.Proofs.YtbklhcjcgiblkaaGreatDoor.P Go.Proofs.YtbklhcjcgiblkaaGreatDoor.PTh Go.Proofs.YtbklhcjcgiblkaaGreatDoor.MapV
def RefMade (b : Txt) (found : List Txt) (w : World) (e : Ending) (w' : World) : Prop := Below w.heap.size w w' ∧ ∃ A1 c1 A2 c2, e = .returned (.tuple #[.slice A1 b.length c1, .slice A2 found.length c2, .bool true]) ∧ b.length ≤ c1 ∧ (Kd.int .u8).C w' A1 b.length (ints b) ∧ found.length ≤ c2 ∧ Kd.C Kd.string w' A2 found.length (found.map B)
theorem C_nil {α : Type} {d : Kd α} (w : World) (A : Option Addr) : d.C w A 0 [] := ⟨rfl, Nat.zero_le _, fun h => absurd h (Nat.lt_irrefl 0)⟩
theorem put_take (args : List Txt) (i : Nat) (h : i < args.length) : ([32] : Txt).intercalate (args.take (i + 1)) = (if 0 < i then ([32] : Txt).intercalate (args.take i) ++ [32] else []) ++ args[i] := by
  rw [List.take_succ_eq_append_getElem h]
  cases i with
  | zero => simp [List.intercalate]
  | succ i =>
    have hne : args.take (i + 1) ≠ [] := by intro e; have := congrArg List.length e; rw [List.length_take, List.length_nil] at this; omega
    rw [if_pos (by omega)]
    generalize args.take (i + 1) = l at *
    generalize args[i + 1] = x
    clear h
    induction l with
    | nil => exact absurd rfl hne
    | cons a r ih =>
      cases r with
      | nil => simp [List.intercalate, List.intersperse]
      | cons b r =>
        have := ih (by simp)
        simp only [List.intercalate, List.cons_append, List.intersperse_cons_cons, List.flatten_cons, List.append_assoc] at this ⊢
        rw [this]
theorem inter_len (l : List Txt) (K : Nat) (h : ∀ x ∈ l, x.length ≤ K) : (([32] : Txt).intercalate l).length ≤ (K + 1) * l.length := by
  induction l with
  | nil => simp [List.intercalate]
  | cons a r ih =>
    have h1 := h a (by simp)
    have h2 := ih (fun x hx => h x (by simp [hx]))
    cases r with
    | nil => simp [List.intercalate]; omega
    | cons b r =>
      simp only [List.intercalate, List.intersperse_cons_cons, List.flatten_cons, List.length_append, List.length_cons, List.length_nil] at h2 ⊢
      have : (K + 1) * (r.length + 1 + 1) = (K + 1) * (r.length + 1) + (K + 1) := by rw [Nat.mul_add (K + 1) (r.length + 1) 1, Nat.mul_one]
      omega
set_option maxRecDepth 100000 in
set_option maxHeartbeats 8000000 in
theorem refPut_any (args : List Txt) (Aa Ad Af : Option Addr) (ca nd cd nf cf : Nat) (w : World) (hA : Kd.C Kd.string w Aa args.length (args.map B)) (hl : args.length ≤ 2000) (hs : ∀ x ∈ args, x.length ≤ 2000) :
    Calls Tryz.prog 22 #[.string (B kPut), .slice Aa args.length ca, .slice Ad nd cd, .slice Af nf cf] w (RefMade (putL args) [] w) := by
  have hAH := Lib.hid hA
  have hsH := Lib.hid hs
  have hlen : Hid (∀ i, (([32] : Txt).intercalate (args.take i)).length ≤ 2001 * 2000) := fun i => by
    have h1 := inter_len (args.take i) 2000 (fun x hx => hs x (List.mem_of_mem_take hx))
    have h2 : (args.take i).length ≤ 2000 := by rw [List.length_take]; omega
    omega
  obtain ⟨n, hn⟩ : ∃ n, args.length = n := ⟨_, rfl⟩
  have hnH := Lib.hid hn
  rw [hn] at hl ⊢
  clear hA hs hn
  go_enter Tryz.func22, Tryz.ntmps22
  go_wp2_with fail
  go_loopg [11, 12] n (fun gk s11 s12 wr => ∃ (i : Nat) (p : Txt), s11 = .string (B p) ∧ s12 = .int .i64 (i : Int) ∧ i + gk = n ∧ p.length ≤ 2001 * 2000 ∧ Hid (p = ([32] : Txt).intercalate (args.take i)) ∧ wr = w)
  case atStart => exact ⟨0, [], rfl, rfl, by omega, by simp, rfl, rfl⟩
  case round =>
    obtain ⟨i, p, rfl, rfl, hik, hpl, hp, rfl⟩ := hrel
    have hsz : (B p).size = p.length := size_B p
    cases gk with
    | zero =>
      obtain rfl : i = n := by omega
      have hlt : decide ((i : Int) < (i : Int)) = false := by simp
      have hcv := conv_gives (p ++ [10]) (B p ++ ⟨#[10]⟩) (B_append p [10]) wr wr (by simp; omega) (Below.refl _ _)
      have hcv1 := hcv.1
      have hcv2 := Lib.hid hcv.2
      have hJ : Hid (putL args = p ++ [10]) := by show _ = _; rw [hp.out, List.take_of_length_le (by rw [hnH.out]; exact Nat.le_refl _)]; rfl
      obtain ⟨jj, hjj⟩ : ∃ x, p ++ [10] = x := ⟨_, rfl⟩
      have hJ2 := Lib.hid (hJ.out.trans hjj)
      rw [hjj] at hcv1 hcv2
      clear hcv hjj
      go_wp2_with fail
      go_ret3
      obtain ⟨hb, A, c, he, hle, hC⟩ := hcv2.out
      injection he with he
      injection he with e1 e2 e3
      subst e1 e3
      rw [hJ2.out]
      exact ⟨hb, _, _, none, 0, rfl, hle, hC, Nat.le_refl _, C_nil _ _⟩
    | succ gk =>
      have hiN : i < args.length := by rw [hnH.out]; omega
      have hlt : decide ((i : Int) < (n : Int)) = true := by rw [decide_eq_true_iff]; omega
      have hi0 : (0 : Int) ≤ (i : Int) := by omega
      have hi1 : (i : Int) < (n : Int) := by omega
      have hi2 : i < n := by omega
      obtain ⟨ad, hAa, k0⟩ := text_at hAH.out i hiN
      subst hAa
      have hy := hsH.out args[i] (List.getElem_mem hiN)
      have hpt := put_take args i hiN
      obtain ⟨y, hyy⟩ : ∃ y, args[i] = y := ⟨_, rfl⟩
      rw [hyy] at k0 hy hpt
      have hys : (B y).size = y.length := size_B y
      have hwr : IntKind.i64.wrap ((i : Int) + 1) = (i : Int) + 1 := by rw [IntKind.wrap_i64]; omega
      have hlen1 := hlen.out (i + 1)
      clear hyy
      by_cases h0 : 0 < i
      · have hd : decide ((i : Int) > 0) = true := by rw [decide_eq_true_iff]; omega
        rw [if_pos h0, ← hp.out] at hpt
        have hp2 : Hid (p ++ [32] ++ y = ([32] : Txt).intercalate (args.take (i + 1))) := hpt.symm
        have hpl2 : (p ++ [32] ++ y).length ≤ 2001 * 2000 := by rw [hp2.out]; exact hlen1
        have e1 : B p ++ (⟨#[32]⟩ : ByteArray) ++ B y = B (p ++ [32] ++ y) := by rw [show B p ++ (⟨#[32]⟩ : ByteArray) = B (p ++ [32]) from B_append p [32], B_append]
        have e1H := Lib.hid e1
        clear hpt hlen1 e1
        go_wp2_with fail
        go_roundg gk
        case measure => omega
        case rel => exact ⟨i + 1, p ++ [32] ++ y, by first | exact congrArg Value.string e1H.out | exact congrArg Value.string e1H.out.symm | simp [e1H.out], by first | rfl | simp, by omega, hpl2, hp2, rfl⟩
      · have hd : decide ((i : Int) > 0) = false := by rw [decide_eq_false_iff_not]; omega
        rw [if_neg h0, List.nil_append] at hpt
        have hpn : p = [] := by
          have : i = 0 := by omega
          rw [hp.out, this]; simp [List.intercalate]
        have hp2 : Hid (y = ([32] : Txt).intercalate (args.take (i + 1))) := hpt.symm
        have hpl2 : y.length ≤ 2001 * 2000 := by omega
        subst hpn
        have e1 : B [] ++ B y = B y := B_append [] y
        have e1H := Lib.hid e1
        clear hpt hlen1 e1
        go_wp2_with fail
        go_roundg gk
        case measure => omega
        case rel => exact ⟨i + 1, y, by first | exact congrArg Value.string e1H.out | exact congrArg Value.string e1H.out.symm | simp [e1H.out], by first | rfl | simp, by omega, hpl2, hp2, rfl⟩
theorem gather_all (v : Env) : ∀ (args : List Txt) (out b : Txt), allE v out args = some b → gatherE v out args = some b
  | [], out, b, h => h
  | a :: rs, out, b, h => by
    rw [allE] at h
    rw [gatherE]
    cases ha : argE v a with
    | none => rw [ha] at h; cases h
    | some x =>
      rw [ha] at h
      simp only at h ⊢
      split at h
      · exact gather_all v rs _ _ h
      · cases h
theorem gather_one {v : Env} {args : List Txt} {b : Txt} (h : oneE v args = some b) : args.length = 1 ∧ gatherE v [] args = some b := by
  match args, h with
  | [a], h => exact ⟨rfl, by rw [gatherE, show argE v a = some b from h]; rfl⟩
  | [], h => cases h
  | _ :: _ :: _, h => cases h
def Ends (v : Env) (verb : Txt) (all b : Txt) (found : List Txt) : Prop :=
  (verb = kCat ∧ b = all ∧ found = []) ∨ (verb = kRev ∧ b = all.reverse ∧ found = []) ∨ (verb = kSum ∧ b = hexL 16 (hashL all) ++ [10] ∧ found = []) ∨ (verb = kInc ∧ ∃ s, putsE v.fs 11 ⟨[], [], 0⟩ all = some s ∧ b = s.out ∧ found = s.found)
theorem doE_ends {v : Env} {verb : Txt} {args : List Txt} {b : Txt} {found : List Txt} (h : doE v verb args = some (b, found)) :
    (verb = kPut ∧ b = putL args ∧ found = []) ∨ (∃ all, gatherE v [] args = some all ∧ Ends v verb all b found ∧ (verb = kRev ∨ verb = kInc → args.length = 1) ∧ (verb = kSum → args.length ≠ 0)) := by
  unfold doE at h
  split at h
  · rename_i hv
    rw [Option.map_eq_some_iff] at h
    obtain ⟨x, hx, e⟩ := h
    injection e with e1 e2
    exact .inr ⟨x, gather_all v _ _ _ hx, .inl ⟨hv, e1.symm, e2.symm⟩, fun h => by rw [hv] at h; rcases h with h | h <;> exact absurd h (by decide), fun h => by rw [hv] at h; exact absurd h (by decide)⟩
  split at h
  · rename_i hv
    rw [Option.map_eq_some_iff] at h
    obtain ⟨x, hx, e⟩ := h
    injection e with e1 e2
    obtain ⟨g1, g2⟩ := gather_one hx
    exact .inr ⟨x, g2, .inr (.inl ⟨hv, e1.symm, e2.symm⟩), fun _ => g1, fun h => by rw [hv] at h; exact absurd h (by decide)⟩
  split at h
  · rename_i hv
    rw [Option.map_eq_some_iff] at h
    obtain ⟨x, hx, e⟩ := h
    injection e with e1 e2
    unfold sumE at hx
    split at hx
    · cases hx
    · rename_i ha
      rw [Option.map_eq_some_iff] at hx
      obtain ⟨y, hy, e3⟩ := hx
      exact .inr ⟨y, hy, .inr (.inr (.inl ⟨hv, by rw [← e1, e3], e2.symm⟩)), fun h => by rw [hv] at h; rcases h with h | h <;> exact absurd h (by decide), fun _ => by rw [ne_eq, List.length_eq_zero_iff]; exact ha⟩
  split at h
  · rename_i hv
    injection h with e
    injection e with e1 e2
    exact .inl ⟨hv, e1.symm, e2.symm⟩
  split at h
  · rename_i hv
    rw [Option.map_eq_some_iff] at h
    obtain ⟨s, hs, e⟩ := h
    injection e with e1 e2
    unfold incE at hs
    cases ho : oneE v args with
    | none => rw [ho] at hs; cases hs
    | some x =>
      rw [ho] at hs
      obtain ⟨g1, g2⟩ := gather_one ho
      exact .inr ⟨x, g2, .inr (.inr (.inr ⟨hv, s, hs, e1.symm, e2.symm⟩)), fun _ => g1, fun h => by rw [hv] at h; exact absurd h (by decide)⟩
  · cases h
theorem find_short {fs : List FileL} {nm b : Txt} {K : Nat} (hf : ∀ f ∈ fs, f.b.length ≤ K) (h : findL fs nm = some b) : b.length ≤ K := by
  rw [findL, Option.map_eq_some_iff] at h
  obtain ⟨f, hm, rfl⟩ := h
  exact hf f (List.mem_of_find?_eq_some hm)
theorem gather_step {v : Env} {out y : Txt} {rs : List Txt} {all : Txt} (h : gatherE v out (y :: rs) = some all) : ∃ b, findL v.fs y = some b ∧ y ∈ v.decl ∧ gatherE v (out ++ b) rs = some all := by
  rw [gatherE] at h
  unfold argE at h
  cases hf : findL v.fs y with
  | none => rw [hf] at h; cases h
  | some b =>
    rw [hf] at h
    simp only at h
    by_cases hm : y ∈ v.decl
    · rw [if_pos hm] at h
      exact ⟨b, rfl, hm, h⟩
    · rw [if_neg hm] at h; cases h
set_option maxRecDepth 100000 in
set_option maxHeartbeats 16000000 in
theorem refMade_any (v : Env) (verb : Txt) (args : List Txt) (b : Txt) (found : List Txt) (Aa Ad Af : Option Addr) (ca cd cf : Nat) (w : World) (h : doE v verb args = some (b, found))
    (hA : Kd.C Kd.string w Aa args.length (args.map B)) (hl : args.length ≤ 400) (hs : ∀ x ∈ args, x.length ≤ 2000) (hca : args.length ≤ ca) (hD : Kd.C Kd.string w Ad v.decl.length (v.decl.map B)) (hd : v.decl.length ≤ 1000) (hcd : v.decl.length ≤ cd)
    (hF : Kd.C KG w Af (v.fs.map toG).length (v.fs.map toG)) (hf : v.fs.length ≤ 1000) (hfb : ∀ f ∈ v.fs, f.b.length ≤ 200) :
    Calls Tryz.prog 22 #[.string (B verb), .slice Aa args.length ca, .slice Ad v.decl.length cd, .slice Af v.fs.length cf] w (RefMade b found w) := by
  rcases doE_ends h with ⟨rfl, rfl, rfl⟩ | ⟨all, hG0, hE0, hone, hsum⟩
  · exact refPut_any args Aa Ad Af ca _ cd _ cf w hA (by omega) hs
  have hverb : verb = kCat ∨ verb = kRev ∨ verb = kSum ∨ verb = kInc := by
    rcases hE0 with h | h | h | h
    · exact .inl h.1
    · exact .inr (.inl h.1)
    · exact .inr (.inr (.inl h.1))
    · exact .inr (.inr (.inr h.1))
  have hE := Lib.hid hE0
  have hvb := Lib.hid hverb
  have hAH := Lib.hid hA
  have hDH := Lib.hid hD
  have hFH := Lib.hid hF
  have hfbH := Lib.hid hfb
  have hG : Hid (gatherE v [] (args.drop 0) = some all) := hG0
  obtain ⟨n, hn⟩ : ∃ n, args.length = n := ⟨_, rfl⟩
  have hnH := Lib.hid hn
  obtain ⟨nd, hnd⟩ : ∃ n, v.decl.length = n := ⟨_, rfl⟩
  have hndH := Lib.hid hnd
  obtain ⟨nf, hnf⟩ : ∃ n, v.fs.length = n := ⟨_, rfl⟩
  have hnfH := Lib.hid hnf
  have hone' : Hid (verb = kRev ∨ verb = kInc → n = 1) := fun hh => by rw [← hn]; exact hone hh
  have hsum' : Hid (verb = kSum → n ≠ 0) := fun hh => by rw [← hn]; exact hsum hh
  rw [hn] at hl hca ⊢
  rw [hnd] at hd hcd ⊢
  rw [hnf] at hf ⊢
  clear h hE0 hverb hA hD hF hfb hG0 hn hnd hnf hone hsum hs
  go_enter Tryz.func22, Tryz.ntmps22
  go_upto_block 0 with (fail)
  go_cut [20] (fun s20 wx => wx = w)
  case first =>
    rcases hvb.out with rfl | rfl | rfl | rfl
    · go_wp2_with fail
      go_meet
      exact rfl
    · go_wp2_with fail
      go_meet
      exact rfl
    · go_wp2_with fail
      go_meet
      exact rfl
    · go_wp2_with fail
      go_meet
      exact rfl
  case rest =>
    obtain ⟨w1, hw1⟩ : ∃ x, x = wc := ⟨_, rfl⟩
    subst hw1
    obtain rfl : w1 = w := hcut
    go_upto_region 16 with (fail)
    go_cut [66] (fun s66 wx => s66 = .bool false ∧ wx = w1)
    case first =>
      rcases hvb.out with rfl | rfl | rfl | rfl
      · go_wp2_with fail
        go_meet
        exact ⟨rfl, rfl⟩
      · obtain rfl : n = 1 := hone'.out (.inl rfl)
        go_wp2_with fail
        go_meet
        exact ⟨rfl, rfl⟩
      · have hz : ((n : Int) == 0) = false := by rw [beq_eq_false_iff_ne]; have := hsum'.out rfl; omega
        go_wp2_with fail
        go_meet
        exact ⟨rfl, rfl⟩
      · obtain rfl : n = 1 := hone'.out (.inr rfl)
        go_wp2_with fail
        go_meet
        exact ⟨rfl, rfl⟩
    case rest =>
      obtain ⟨rfl, hW0⟩ := hcut
      obtain ⟨W, hW⟩ : ∃ W, W = wc := ⟨_, rfl⟩
      subst hW
      subst hW0
      go_wp2_with fail
      go_loopg [13, 14] n (fun gk s13 s14 wr => ∃ (i : Nat) (out : Txt) (A : Option Addr) (c : Nat), s13 = .slice A out.length c ∧ s14 = .int .i64 (i : Int) ∧ i + gk = n ∧ out.length ≤ 200 * i ∧ Hid (wr.ownsRow W.heap.size 5 1 (.slice A out.length c) out.length (bcells out)) ∧ Hid (gatherE v out (args.drop i) = some all) ∧ Hid (Below W.heap.size W wr))
      case atStart => exact ⟨0, [], none, 0, rfl, rfl, by omega, by simp, World.ownsRow_nil _ _ _ _, hG, Below.refl _ _⟩
      case round =>
        obtain ⟨i, out, A, c, rfl, rfl, hik, hol, hO, hGo, hB⟩ := hrel
        cases gk with
        | zero =>
          obtain rfl : i = n := by omega
          have hlt : decide ((i : Int) < (i : Int)) = false := by simp
          have hall : out = all := by
            have := hGo.out
            rw [List.drop_of_length_le (by rw [hnH.out]; exact Nat.le_refl _), gatherE] at this
            injection this
          subst hall
          obtain ⟨A', c', he, hlc, hCa⟩ := own_reads hO.out
          injection he with e1 _ e3
          subst e1 e3
          have hCaH := Lib.hid hCa
          have hol2 : out.length ≤ 80000 := by omega
          clear hCa
          rcases hE.out with ⟨rfl, rfl, rfl⟩ | ⟨rfl, hb, rfl⟩ | ⟨rfl, hb, rfl⟩ | ⟨rfl, sE, hput, hb, hfd⟩
          · go_wp2_with fail
            go_ret3
            exact ⟨hB.out, _, _, none, 0, rfl, hlc, hCaH.out, Nat.le_refl _, C_nil _ _⟩
          · have hbH := Lib.hid hb
            obtain ⟨la, hla⟩ : ∃ x, out.length = x := ⟨_, rfl⟩
            have hlaH := Lib.hid hla
            rw [hla] at hol2 hlc ⊢
            have hw1 : IntKind.i64.wrap ((la : Int) - 1) = (la : Int) - 1 := by rw [IntKind.wrap_i64]; omega
            clear hb hla
            go_wp2_with fail
            obtain ⟨W1, hW1⟩ : ∃ x, x = wr := ⟨_, rfl⟩
            subst hW1
            go_loopg [17, 18] la (fun gk s17 s18 wr => ∃ (z : Int) (o : Txt) (Ao : Option Addr) (co : Nat), s17 = .slice Ao o.length co ∧ s18 = .int .i64 z ∧ z + 1 = (gk : Int) ∧ o.length + gk = la ∧ Hid (wr.ownsRow W1.heap.size 5 1 (.slice Ao o.length co) o.length (bcells o)) ∧ Hid (o = (out.drop gk).reverse) ∧ Hid (Below W1.heap.size W1 wr))
            case atStart => exact ⟨(la : Int) - 1, [], none, 0, rfl, by first | rfl | rw [hw1], by omega, by simp, World.ownsRow_nil _ _ _ _, by show _ = _; rw [List.drop_of_length_le (by rw [hlaH.out]; exact Nat.le_refl _)]; rfl, Below.refl _ _⟩
            case round =>
              obtain ⟨z, o, Ao, co, rfl, rfl, hz, hol3, hO2, ho, hB2⟩ := hrel
              cases gk with
              | zero =>
                have hlt2 : decide (z ≥ 0) = false := by rw [decide_eq_false_iff_not]; omega
                have hbo : b = o := by rw [hbH.out, ho.out]; rfl
                obtain ⟨A3, c3, he3, hlc3, hC3⟩ := own_reads hO2.out
                injection he3 with e1 _ e3
                subst e1 e3
                have hC3H := Lib.hid hC3
                subst hbo
                clear hC3
                go_wp2_with fail
                go_ret3
                exact ⟨hB.out.trans (hB2.out.mono hB.out.size), _, _, none, 0, rfl, hlc3, hC3H.out, Nat.le_refl _, C_nil _ _⟩
              | succ gk =>
                obtain rfl : z = (gk : Int) := by omega
                have hlt2 : decide ((gk : Int) ≥ 0) = true := by rw [decide_eq_true_iff]; omega
                have hi0 : (0 : Int) ≤ (gk : Int) := by omega
                have hi1 : (gk : Int) < (la : Int) := by omega
                have hi2 : gk < la := by omega
                have hwz : IntKind.i64.wrap ((gk : Int) - 1) = (gk : Int) - 1 := by rw [IntKind.wrap_i64]; omega
                obtain ⟨ad, hAd, q0⟩ := byte_get (Kd.C_below hCaH.out hB2.out) gk (by rw [hlaH.out]; exact hi2)
                subst hAd
                obtain ⟨ch, hch⟩ : ∃ x, out[gk]'(by rw [hlaH.out]; exact hi2) = x := ⟨_, rfl⟩
                rw [hch] at q0
                have ho2 : Hid (o ++ [ch] = (out.drop gk).reverse) := by
                  show _ = _
                  rw [ho.out, List.drop_eq_getElem_cons (i := gk) (by rw [hlaH.out]; exact hi2), hch, List.reverse_cons]
                have hwrs : W1.heap.size ≤ wr.heap.size := hB2.out.size
                clear hch
                go_wp2_with (at_builtin; go_loud (refine print_append_cells (w0 := W1) (W := wr) W1.heap.size rfl _ _ 24 5 (.int .u8 0) 1 1 rfl Tryz.underlying24 infoU8 rfl (by decide) (by decide) (.slice Ao o.length co) o.length (bcells o) [.int .u8 (ch.toNat : Int)] rfl rfl rfl (by intro u hu; rw [List.mem_singleton.1 hu]; rfl) hO2.out hB2.out hwrs (by omega) ?_))
                intro v9 w9 ho9 hb9 hg9 _
                have hO9 : Hid (w9.ownsRow W1.heap.size 5 1 v9 (o ++ [ch]).length (bcells (o ++ [ch]))) := by
                  show World.ownsRow _ _ _ _ _ _ _
                  rw [List.length_append, List.length_singleton, bcells_append]
                  exact ho9
                have hB9 := Lib.hid hb9
                obtain ⟨A9, c9, rfl, _, _⟩ := own_reads hO9.out
                have hol9 : (o ++ [ch]).length + gk = la := by rw [List.length_append, List.length_singleton]; omega
                clear ho9 hb9 hg9
                generalize o ++ [ch] = o9 at *
                go_wp2_with fail
                go_roundg gk
                case measure => omega
                case rel => exact ⟨(gk : Int) - 1, o9, A9, c9, rfl, by first | rfl | rw [hwz], by omega, hol9, hO9, ho2, hB9⟩
          · have hbH := Lib.hid hb
            have hHa := Lib.hid (refHash_any A c out wr hCaH.out (by omega) hlc)
            have hm : hashL out < 18446744073709551616 := hashGo_lt _ _ (by decide)
            have hHx := Lib.hid (fun W => refHex_any (hashL out) W hm)
            have hlx : (hexL 16 (hashL out)).length ≤ 16 := by
              have : ∀ k m, (hexL k m).length = k := by
                intro k
                induction k with
                | zero => intro m; rfl
                | succ k ih => intro m; rw [hexL, List.length_append, ih]; rfl
              rw [this]; exact Nat.le_refl _
            obtain ⟨hx, hhx⟩ : ∃ x, hexL 16 (hashL out) = x := ⟨_, rfl⟩
            rw [hhx] at hHx hlx hbH
            obtain ⟨mh, hmh⟩ : ∃ x, hashL out = x := ⟨_, rfl⟩
            rw [hmh] at hHx hHa
            clear hb hm hhx hmh
            go_wp2_with fail
            refine hHa.out.mono ?_
            rintro e w3 ⟨rfl, hb3⟩
            have hB3 := Lib.hid (hB.out.trans (hb3.mono hB.out.size))
            clear hb3
            go_wp2_with fail
            refine (hHx.out _).mono ?_
            rintro e w4 ⟨rfl, hb4⟩
            have hB4 := Lib.hid (hB3.out.trans (hb4.mono hB3.out.size))
            have hsz : (B hx).size = hx.length := size_B hx
            have hcv := conv_gives (hx ++ [10]) (B hx ++ ⟨#[10]⟩) (B_append hx [10]) W w4 (by simp; omega) hB4.out
            have hcv1 := hcv.1
            have hcv2 := Lib.hid hcv.2
            obtain ⟨jj, hjj⟩ : ∃ x, hx ++ [10] = x := ⟨_, rfl⟩
            rw [hjj] at hcv1 hcv2 hbH
            clear hcv hjj hb4
            go_wp2_with fail
            go_ret3
            obtain ⟨hb, A', c', he, hle, hC⟩ := hcv2.out
            injection he with he
            injection he with e1 e2 e3
            subst e1 e3
            rw [hbH.out]
            exact ⟨hb, _, _, none, 0, rfl, hle, hC, Nat.le_refl _, C_nil _ _⟩
          · have hbH := Lib.hid hb
            have hfdH := Lib.hid hfd
            have hputH := Lib.hid hput
            clear hb hfd hput
            go_wp2_with fail
            obtain ⟨wm, hwm⟩ : ∃ x, wr.alloc (.cells #[.int .i64 0] 3) = x := ⟨_, rfl⟩
            have hmb : wm.heap[wr.heap.size]? = some (.cells #[.int .i64 ((0 : Nat) : Int)] 3 (0, 0)) := by rw [← hwm]; exact heap_alloc_new _ _
            have hbm : Below wr.heap.size wr wm := by rw [← hwm]; exact (Below.refl _ _).alloc (Nat.le_refl _) _
            have hsm : wm.heap.size = wr.heap.size + 1 := by rw [← hwm]; simp
            have hBm : Below W.heap.size W wm := hB.out.trans (hbm.mono hB.out.size)
            have hCall := putsR_any wm.heap.size wr.heap.size v.fs Af cf W hFH.out (by rw [hnfH.out]; exact hf) (fun f hf' => by have := hfbH.out f hf'; omega) (by omega) (by have := hB.out.size; omega) hB.out.size 11 0 rfl wm (.slice none 0 0) (.slice none 0 0) ⟨[], [], 0⟩ A c out sE (Nat.le_refl _) hBm
              (fun w' hw' => Kd.C_below hCaH.out (hbm.trans ⟨hw'.os, hw'.tape, hw'.output, hw'.size, fun k hk => hw'.same k (by omega) (by omega)⟩)) (by omega) hlc (World.ownsRow_nil _ _ _ _) (World.ownsRow_nil _ _ _ _) hmb ⟨by simp, by simp, by simp⟩ hputH.out
            rw [hnfH.out] at hCall
            have hCallH := Lib.hid hCall
            have hBmH := Lib.hid hBm
            have hbw : Hid (W.heap.size ≤ wr.heap.size) := hB.out.size
            rw [hwm]
            clear hCall hmb hbm hsm hBm hwm
            refine hCallH.out.mono ?_
            rintro e w5 ⟨hS5, vo5, vf5, rfl, hO5, hF5, _⟩
            obtain ⟨A5, c5, rfl, hlc5, hC5⟩ := own_reads hO5
            obtain ⟨A6, c6, rfl, hlc6, hC6⟩ := row_reads hF5
            have hC5H := Lib.hid hC5
            have hC6H := Lib.hid hC6
            have hS5H := Lib.hid hS5
            clear hC5 hC6 hS5 hO5 hF5
            go_wp2_with fail
            go_ret3
            rw [hbH.out, hfdH.out]
            exact ⟨SameN.below hBmH.out hS5H.out hBmH.out.size hbw.out, _, _, _, _, rfl, hlc5, hC5H.out, hlc6, hC6H.out⟩
        | succ gk =>
          have hiN : i < args.length := by rw [hnH.out]; omega
          have hlt : decide ((i : Int) < (n : Int)) = true := by rw [decide_eq_true_iff]; omega
          have hi0 : (0 : Int) ≤ (i : Int) := by omega
          have hi1 : (i : Int) < (n : Int) := by omega
          have hi2 : i < n := by omega
          have hwr : IntKind.i64.wrap ((i : Int) + 1) = (i : Int) + 1 := by rw [IntKind.wrap_i64]; omega
          obtain ⟨ad, hAa, k0⟩ := text_at (Kd.C_below hAH.out hB.out) i hiN
          obtain ⟨y, hy⟩ : ∃ y, args[i] = y := ⟨_, rfl⟩
          have hg := hGo.out
          rw [List.drop_eq_getElem_cons hiN, hy] at hg
          obtain ⟨bb, hfd, hdm, hg2⟩ := gather_step hg
          rw [hy] at k0
          subst hAa
          have hG2 := Lib.hid hg2
          have hbb : bb.length ≤ 200 := find_short hfbH.out hfd
          have hdmT : decide (y ∈ v.decl) = true := decide_eq_true hdm
          have hFi := refFind0_any Af cf v.fs y bb W wr hFH.out hB.out (by rw [hnfH.out]; exact hf) hfd
          rw [hnfH.out] at hFi
          have hFiH := Lib.hid hFi
          have hIn := In_C Ad cd v.decl y wr (by rw [hndH.out]; omega) (Kd.C_below hDH.out hB.out) (by rw [hndH.out]; exact hcd)
          rw [hndH.out, hdmT] at hIn
          have hInH := Lib.hid hIn
          clear hy hg hg2 hfd hdm hdmT hFi hIn hGo
          go_wp2_with fail
          refine hFiH.out.mono ?_
          rintro e w3 ⟨rfl, A1, c1, rfl, hc1, hC1⟩
          have hC1H := Lib.hid hC1
          obtain ⟨lb, hlb⟩ : ∃ x, bb.length = x := ⟨_, rfl⟩
          have hlbH := Lib.hid hlb
          rw [hlb] at hbb hc1 ⊢
          clear hC1 hlb
          go_wp2_with fail
          refine hInH.out.mono ?_
          rintro e w4 ⟨rfl, hb4⟩
          have hB4 := Lib.hid (hB.out.trans (hb4.mono hB.out.size))
          have hO4 := Lib.hid (own_move hO.out (w1 := w4) (fun k hk => hb4.block k (own_lt hO.out k hk)))
          have hR4 : Hid (ReadsInt w4 .u8 A1 lb (ints bb)) := by show ReadsInt _ _ _ _ _; rw [← hlbH.out]; exact reads_int (Kd.C_below hC1H.out hB4.out)
          have hbase : W.heap.size ≤ w4.heap.size := hB4.out.size
          clear hb4
          go_wp2_with (at_builtin; go_loud (refine print_append_row (w0 := W) W.heap.size rfl _ _ 24 5 .u8 1 rfl Tryz.underlying24 info5 (by decide) (.slice A out.length c) (ints out) (ints bb) A1 lb c1 rfl rfl (own_num.1 hO4.out) ?hr hB4.out hbase ?hl ?_))
          case hr => exact hR4.out
          case hl => rw [ints_len]; omega
          intro v1 w5 hown hB5' hg _
          have hO5 := Lib.hid (nums_of hown)
          have hB5 := Lib.hid hB5'
          obtain ⟨A5, c5, rfl, _, _⟩ := own_reads hO5.out
          have hol5 : (out ++ bb).length ≤ 200 * (i + 1) := by rw [List.length_append, hlbH.out]; omega
          clear hown hB5' hg
          generalize out ++ bb = ob at *
          go_wp2_with fail
          go_roundg gk
          case measure => omega
          case rel => exact ⟨i + 1, ob, A5, c5, rfl, by first | rfl | simp, by omega, hol5, hO5, hG2, hB5⟩
end Go.Proofs.YtbklhcjcgiblkaaGreatDoor.Ck
end
section
set_option linter.unusedSimpArgs false
set_option linter.unusedVariables false
namespace Go.Proofs.YtbklhcjcgiblkaaGreatDoor.RegP
open Go Go.Proofs.YtbklhcjcgiblkaaGreatDoor.RegG
inductive Tree
  | nil
  | cons (t i : Nat) (r : Tree)
  | fork (i1 : Nat) (r1 : Tree) (i2 : Nat) (r2 : Tree)
def treeOk (md : Region.Mode) (ops : Array Oper) : Nat → Tree → Array Bool → Bool
  | _, .nil, l => Region.ready md ops l == []
  | n + 1, .cons t i r, l =>
    (match t with
    | 0 => Region.free md ops l i && (Region.ready md ops l).contains i
    | 1 => Region.free md ops l i && (Region.ready md ops l).contains i
    | 2 => Region.ready md ops l == [i]
    | _ => false) && treeOk md ops n r (l.setIfInBounds i true)
  | n + 1, .fork i1 r1 i2 r2, l => Region.ready md ops l == [i1, i2] && (treeOk md ops n r1 (l.setIfInBounds i1 true) && treeOk md ops n r2 (l.setIfInBounds i2 true))
  | 0, _, _ => false
section
variable {P : Program} {ops : Array Oper} {Q : Exit → Act → World → Prop} {S : World → Prop}
def wpTree (P : Program) (ops : Array Oper) (Q : Exit → Act → World → Prop) (S : World → Prop) : Tree → Act → World → Prop
  | .nil, a, w => Q .normal a w
  | .cons t i r, a, w => ∃ o, ops[i]? = some o ∧
    match t with
    | 0 => ∃ v, (∀ c a w, Q (.panic c) (a.put o.dst v) w → Q (.panic c) a w) ∧ Region.wanted o (yielded ops a.tmps) = true ∧ (∀ w', (execOp a.eval o).run P w' = .ok (.value v) w') ∧ wpTree P ops Q S r (a.put o.dst v) w
    | 1 => ∃ v, (∀ c a w, Q (.panic c) (a.put o.dst v) w → Q (.panic c) a w) ∧ Region.wanted o (yielded ops a.tmps) = true ∧ (∀ w', S w' → (execOp a.eval o).run P w' = .ok (.value v) w') ∧ wpTree P ops Q S r (a.put o.dst v) w
    | _ => ∀ K' : Act → World → Prop, Shut (∀ a w, S w → (S w → wpTree P ops Q S r a w) → K' a w) → if Region.wanted o (yielded ops a.tmps) = true then Oper.wp P o a w K' Q else K' (a.put o.dst undef) w
  | .fork i1 r1 i2 r2, a, w => ∃ o1 o2, ops[i1]? = some o1 ∧ ops[i2]? = some o2 ∧
    (∀ K' : Act → World → Prop, Shut (∀ a w, S w → (S w → wpTree P ops Q S r1 a w) → K' a w) → if Region.wanted o1 (yielded ops a.tmps) = true then Oper.wp P o1 a w K' Q else K' (a.put o1.dst undef) w) ∧
    (∀ K' : Act → World → Prop, Shut (∀ a w, S w → (S w → wpTree P ops Q S r2 a w) → K' a w) → if Region.wanted o2 (yielded ops a.tmps) = true then Oper.wp P o2 a w K' Q else K' (a.put o2.dst undef) w)
theorem any_of_tree (hs : Region.noSelect ops = true) : ∀ (n : Nat) (t : Tree) (l : Array Bool) (a : Act) (w : World), treeOk .any ops n t l = true → S w → wpTree P ops Q S t a w → wpAnyH P .any ops Q S n l a w
  | n, .nil, l, a, w, hok, _, h => by
    cases n <;> exact wpAnyH_done (by simpa [treeOk] using hok) h _
  | n + 1, .cons t i r, l, a, w, hok, hS, h => by
    obtain ⟨o, ho, h⟩ := h
    rcases t with _ | _ | _ | t
    · replace hok : ((Region.free .any ops l i && (Region.ready .any ops l).contains i) && treeOk .any ops n r (l.setIfInBounds i true)) = true := hok
      obtain ⟨h1, h2⟩ := Bool.and_eq_true_iff.1 hok
      obtain ⟨e2, e3⟩ := Bool.and_eq_true_iff.1 h1
      obtain ⟨v, q1, q2, q3, q4⟩ := h
      exact wpAnyH_take ho hs e2 e3 q1 (.inl ⟨q2, fun w' _ => q3 w'⟩) hS (any_of_tree hs n r _ _ w h2 hS q4)
    · replace hok : ((Region.free .any ops l i && (Region.ready .any ops l).contains i) && treeOk .any ops n r (l.setIfInBounds i true)) = true := hok
      obtain ⟨h1, h2⟩ := Bool.and_eq_true_iff.1 hok
      obtain ⟨e2, e3⟩ := Bool.and_eq_true_iff.1 h1
      obtain ⟨v, q1, q2, q3, q4⟩ := h
      exact wpAnyH_take ho hs e2 e3 q1 (.inl ⟨q2, q3⟩) hS (any_of_tree hs n r _ _ w h2 hS q4)
    · replace hok : ((Region.ready .any ops l == [i]) && treeOk .any ops n r (l.setIfInBounds i true)) = true := hok
      obtain ⟨h1, h2⟩ := Bool.and_eq_true_iff.1 hok
      have hr : Region.ready .any ops l = [i] := eq_of_beq h1
      refine wpAnyH_ready hr (by simp) (AllReadyH.cons ho (fun K' hK => ?_) AllReadyH.nil)
      exact h K' (fun a w hS' hW => hK.out a w hS' (fun hS'' => any_of_tree hs n r _ _ w h2 hS'' (hW hS'')))
    · replace hok : (false && treeOk .any ops n r (l.setIfInBounds i true)) = true := hok
      simp at hok
  | n + 1, .fork i1 r1 i2 r2, l, a, w, hok, hS, h => by
    obtain ⟨o1, o2, ho1, ho2, h1, h2⟩ := h
    replace hok : (Region.ready .any ops l == [i1, i2] && (treeOk .any ops n r1 (l.setIfInBounds i1 true) && treeOk .any ops n r2 (l.setIfInBounds i2 true))) = true := hok
    obtain ⟨e1, e2⟩ := Bool.and_eq_true_iff.1 hok
    obtain ⟨e2, e3⟩ := Bool.and_eq_true_iff.1 e2
    have hr : Region.ready .any ops l = [i1, i2] := eq_of_beq e1
    refine wpAnyH_ready hr (by simp) (AllReadyH.cons ho1 (fun K' hK => ?_) (AllReadyH.cons ho2 (fun K' hK => ?_) AllReadyH.nil))
    · exact h1 K' (fun a w hS' hW => hK.out a w hS' (fun hS'' => any_of_tree hs n r1 _ _ w e2 hS'' (hW hS'')))
    · exact h2 K' (fun a w hS' hW => hK.out a w hS' (fun hS'' => any_of_tree hs n r2 _ _ w e3 hS'' (hW hS'')))
  | 0, .cons _ _ _, l, a, w, hok, _, _ => by simp [treeOk] at hok
  | 0, .fork _ _ _ _, l, a, w, hok, _, _ => by simp [treeOk] at hok
theorem regionT {id : Nat} {a : Act} {w : World} (S : World → Prop) (t : Tree) (hm : P.follows .mixedOrders = true) (hs : Region.noSelect ops = true) (hok : treeOk .any ops ops.size t (Array.replicate ops.size false) = true)
    (hS : S w.drew) (h : wpTree P ops Q S t a w.drew) : (Code.region id ops true).wp P Q a w := by
  refine wp_region_held_drew hm hS fun hS' => ?_
  exact any_of_tree hs _ t _ a _ hok hS' h
theorem pureT {i : Nat} {r : Tree} {a : Act} {w : World} {o : Oper} {v : Value} (ho : ops[i]? = some o) (hQ : ∀ c a w, Q (.panic c) (a.put o.dst v) w → Q (.panic c) a w) (hw : Region.wanted o (yielded ops a.tmps) = true)
    (hv : ∀ w', (execOp a.eval o).run P w' = .ok (.value v) w') (h : wpTree P ops Q S r (a.put o.dst v) w) : wpTree P ops Q S (.cons 0 i r) a w := ⟨o, ho, v, hQ, hw, hv, h⟩
theorem heldT {i : Nat} {r : Tree} {a : Act} {w : World} {o : Oper} {v : Value} (ho : ops[i]? = some o) (hQ : ∀ c a w, Q (.panic c) (a.put o.dst v) w → Q (.panic c) a w) (hw : Region.wanted o (yielded ops a.tmps) = true)
    (hv : ∀ w', S w' → (execOp a.eval o).run P w' = .ok (.value v) w') (h : wpTree P ops Q S r (a.put o.dst v) w) : wpTree P ops Q S (.cons 1 i r) a w := ⟨o, ho, v, hQ, hw, hv, h⟩
theorem doneT {a : Act} {w : World} (h : Q .normal a w) : wpTree P ops Q S .nil a w := h
theorem evT {i : Nat} {r : Tree} {a : Act} {w : World} {o : Oper} (ho : ops[i]? = some o)
    (h : ∀ K' : Act → World → Prop, Shut (∀ a w, S w → (S w → wpTree P ops Q S r a w) → K' a w) → if Region.wanted o (yielded ops a.tmps) = true then Oper.wp P o a w K' Q else K' (a.put o.dst undef) w) : wpTree P ops Q S (.cons 2 i r) a w := ⟨o, ho, h⟩
theorem forkT {i1 i2 : Nat} {r1 r2 : Tree} {a : Act} {w : World} {o1 o2 : Oper} (ho1 : ops[i1]? = some o1) (ho2 : ops[i2]? = some o2)
    (h1 : ∀ K' : Act → World → Prop, Shut (∀ a w, S w → (S w → wpTree P ops Q S r1 a w) → K' a w) → if Region.wanted o1 (yielded ops a.tmps) = true then Oper.wp P o1 a w K' Q else K' (a.put o1.dst undef) w)
    (h2 : ∀ K' : Act → World → Prop, Shut (∀ a w, S w → (S w → wpTree P ops Q S r2 a w) → K' a w) → if Region.wanted o2 (yielded ops a.tmps) = true then Oper.wp P o2 a w K' Q else K' (a.put o2.dst undef) w) : wpTree P ops Q S (.fork i1 r1 i2 r2) a w := ⟨o1, o2, ho1, ho2, h1, h2⟩
end
end Go.Proofs.YtbklhcjcgiblkaaGreatDoor.RegP
end
section
set_option linter.unusedSimpArgs false
set_option linter.unusedVariables false
namespace Go.Proofs.YtbklhcjcgiblkaaGreatDoor.RegP
open Go Go.RowKit Go.Proofs.YtbklhcjcgiblkaaGreatDoor.RegG
section
variable {P : Program} {ops : Array Oper} {Q : Exit → Act → World → Prop} {S : World → Prop}
theorem pu {i : Nat} {r : List (Nat × Nat)} {a : Act} {w : World} {o : Oper} {v : Value} (h : wpPlan P ops Q S r (a.put o.dst v) w) (ho : ops[i]? = some o := by (simp only [gA,gB,gC]); rfl)
    (hQ : ∀ c a w, Q (.panic c) (a.put o.dst v) w → Q (.panic c) a w := by exact fun _ _ _ h => h) (hw : Region.wanted o (yielded ops a.tmps) = true := by rfl)
    (hv : ∀ w', (execOp a.eval o).run P w' = .ok (.value v) w' := by intro w'; go_simp; try with_reducible rfl) : wpPlan P ops Q S ((0, i) :: r) a w := pure1 ho hQ hw hv h
theorem he {i : Nat} {r : List (Nat × Nat)} {a : Act} {w : World} {o : Oper} {v : Value} (h : wpPlan P ops Q S r (a.put o.dst v) w) (ho : ops[i]? = some o := by (simp only [gA,gB,gC]); rfl)
    (hQ : ∀ c a w, Q (.panic c) (a.put o.dst v) w → Q (.panic c) a w := by exact fun _ _ _ h => h) (hw : Region.wanted o (yielded ops a.tmps) = true := by rfl)
    (hv : ∀ w', S w' → (execOp a.eval o).run P w' = .ok (.value v) w' := by intro w' hS_; (try dsimp only at hS_); go_split_ands; go_simp; try with_reducible rfl) : wpPlan P ops Q S ((1, i) :: r) a w := held1 ho hQ hw hv h
theorem sk {i : Nat} {r : List (Nat × Nat)} {a : Act} {w : World} {o : Oper} (h : wpPlan P ops Q S r (a.put o.dst undef) w) (ho : ops[i]? = some o := by (simp only [gA,gB,gC]); rfl)
    (hQ : ∀ c a w, Q (.panic c) (a.put o.dst undef) w → Q (.panic c) a w := by exact fun _ _ _ h => h) (hw : Region.wanted o (yielded ops a.tmps) = false := by rfl) : wpPlan P ops Q S ((4, i) :: r) a w := skip1 ho hQ hw h
theorem puT {i : Nat} {r : Tree} {a : Act} {w : World} {o : Oper} {v : Value} (h : wpTree P ops Q S r (a.put o.dst v) w) (ho : ops[i]? = some o := by (simp only [gA,gB,gC]); rfl)
    (hQ : ∀ c a w, Q (.panic c) (a.put o.dst v) w → Q (.panic c) a w := by exact fun _ _ _ h => h) (hw : Region.wanted o (yielded ops a.tmps) = true := by rfl)
    (hv : ∀ w', (execOp a.eval o).run P w' = .ok (.value v) w' := by intro w'; go_simp; try with_reducible rfl) : wpTree P ops Q S (.cons 0 i r) a w := pureT ho hQ hw hv h
theorem heT {i : Nat} {r : Tree} {a : Act} {w : World} {o : Oper} {v : Value} (h : wpTree P ops Q S r (a.put o.dst v) w) (ho : ops[i]? = some o := by (simp only [gA,gB,gC]); rfl)
    (hQ : ∀ c a w, Q (.panic c) (a.put o.dst v) w → Q (.panic c) a w := by exact fun _ _ _ h => h) (hw : Region.wanted o (yielded ops a.tmps) = true := by rfl)
    (hv : ∀ w', S w' → (execOp a.eval o).run P w' = .ok (.value v) w' := by intro w' hS_; (try dsimp only at hS_); go_split_ands; go_simp; try with_reducible rfl) : wpTree P ops Q S (.cons 1 i r) a w := heldT ho hQ hw hv h
theorem evq {i : Nat} {r : List (Nat × Nat)} {a : Act} {w : World} {o : Oper} (h : ∀ K' : Act → World → Prop, Shut (∀ a w, S w → (S w → wpPlan P ops Q S r a w) → K' a w) → if Region.wanted o (yielded ops a.tmps) = true then Oper.wp P o a w K' Q else K' (a.put o.dst undef) w)
    (ho : ops[i]? = some o := by (simp only [gA,gB,gC]); rfl) : wpPlan P ops Q S ((2, i) :: r) a w := ev1 ho h
theorem laq {i : Nat} {r : List (Nat × Nat)} {a : Act} {w : World} {o : Oper} (h : ∀ K' : Act → World → Prop, Shut (∀ a w, wpPlan P ops Q S r a w → K' a w) → if Region.wanted o (yielded ops a.tmps) = true then Oper.wp P o a w K' Q else K' (a.put o.dst undef) w)
    (ho : ops[i]? = some o := by (simp only [gA,gB,gC]); rfl) : wpPlan P ops Q S ((3, i) :: r) a w := last1 ho h
def okQ (md : Region.Mode) (ops : Array Oper) : List (Bool × Nat) → Array Bool → Bool
  | [], l => Region.ready md ops l == []
  | (ev, i) :: r, l => (if ev = true then Region.ready md ops l == [i] else Region.free md ops l i && (Region.ready md ops l).contains i) && okQ md ops r (l.setIfInBounds i true)
def wpQ (P : Program) (ops : Array Oper) (Q : Exit → Act → World → Prop) (S : World → Prop) : List (Bool × Nat) → Act → World → Prop
  | [], a, w => Q .normal a w
  | (ev, i) :: r, a, w => ∃ o, ops[i]? = some o ∧
    match ev with
    | false => ∃ v, (∀ c a w, Q (.panic c) (a.put o.dst v) w → Q (.panic c) a w) ∧ ((Region.wanted o (yielded ops a.tmps) = true ∧ ∀ w', S w' → (execOp a.eval o).run P w' = .ok (.value v) w') ∨ (Region.wanted o (yielded ops a.tmps) = false ∧ v = undef)) ∧ wpQ P ops Q S r (a.put o.dst v) w
    | true => ∀ K' : Act → World → Prop, Shut (∀ a w, S w → (S w → wpQ P ops Q S r a w) → K' a w) → if Region.wanted o (yielded ops a.tmps) = true then Oper.wp P o a w K' Q else K' (a.put o.dst undef) w
theorem any_of_Q (hs : Region.noSelect ops = true) : ∀ (plan : List (Bool × Nat)) (l : Array Bool) (a : Act) (w : World), okQ .any ops plan l = true → S w → wpQ P ops Q S plan a w → wpAnyH P .any ops Q S plan.length l a w
  | [], l, a, w, hok, _, h => wpAnyH_done (by simpa [okQ] using hok) h _
  | (ev, i) :: r, l, a, w, hok, hS, h => by
    obtain ⟨o, ho, h⟩ := h
    cases ev with
    | false =>
      replace hok : ((Region.free .any ops l i && (Region.ready .any ops l).contains i) && okQ .any ops r (l.setIfInBounds i true)) = true := hok
      obtain ⟨h1, h2⟩ := Bool.and_eq_true_iff.1 hok
      obtain ⟨e2, e3⟩ := Bool.and_eq_true_iff.1 h1
      obtain ⟨v, q1, q2, q4⟩ := h
      exact wpAnyH_take ho hs e2 e3 q1 q2 hS (any_of_Q hs r _ _ w h2 hS q4)
    | true =>
      replace hok : ((Region.ready .any ops l == [i]) && okQ .any ops r (l.setIfInBounds i true)) = true := hok
      obtain ⟨h1, h2⟩ := Bool.and_eq_true_iff.1 hok
      have hr : Region.ready .any ops l = [i] := eq_of_beq h1
      refine wpAnyH_ready hr (by simp) (AllReadyH.cons ho (fun K' hK => ?_) AllReadyH.nil)
      exact h K' (fun a w hS' hW => hK.out a w hS' (fun hS'' => any_of_Q hs r _ _ w h2 hS'' (hW hS'')))
theorem regionQ {id : Nat} {a : Act} {w : World} (S : World → Prop) (plan : List (Bool × Nat)) (hm : P.follows .mixedOrders = true) (hs : Region.noSelect ops = true) (hl : plan.length = ops.size) (hok : okQ .any ops plan (Array.replicate ops.size false) = true)
    (hS : S w.drew) (h : wpQ P ops Q S plan a w.drew) : (Code.region id ops true).wp P Q a w := by
  refine wp_region_held_drew hm hS fun hS' => ?_
  rw [← hl]
  rw [← hl] at hok
  exact any_of_Q hs plan _ a _ hok hS' h
theorem qp {i : Nat} {r : List (Bool × Nat)} {a : Act} {w : World} {o : Oper} {v : Value} (h : wpQ P ops Q S r (a.put o.dst v) w) (ho : ops[i]? = some o := by (simp only [gA,gB,gC]); rfl)
    (hQ : ∀ c a w, Q (.panic c) (a.put o.dst v) w → Q (.panic c) a w := by exact fun _ _ _ h => h) (hw : Region.wanted o (yielded ops a.tmps) = true := by rfl)
    (hv : ∀ w', (execOp a.eval o).run P w' = .ok (.value v) w' := by intro w'; go_simp; try with_reducible rfl) : wpQ P ops Q S ((false, i) :: r) a w := ⟨o, ho, v, hQ, .inl ⟨hw, fun w' _ => hv w'⟩, h⟩
theorem qh {i : Nat} {r : List (Bool × Nat)} {a : Act} {w : World} {o : Oper} {v : Value} (h : wpQ P ops Q S r (a.put o.dst v) w) (ho : ops[i]? = some o := by (simp only [gA,gB,gC]); rfl)
    (hQ : ∀ c a w, Q (.panic c) (a.put o.dst v) w → Q (.panic c) a w := by exact fun _ _ _ h => h) (hw : Region.wanted o (yielded ops a.tmps) = true := by rfl)
    (hv : ∀ w', S w' → (execOp a.eval o).run P w' = .ok (.value v) w' := by intro w' hS_; (try dsimp only at hS_); go_split_ands; go_simp; try with_reducible rfl) : wpQ P ops Q S ((false, i) :: r) a w := ⟨o, ho, v, hQ, .inl ⟨hw, hv⟩, h⟩
theorem qs {i : Nat} {r : List (Bool × Nat)} {a : Act} {w : World} {o : Oper} (h : wpQ P ops Q S r (a.put o.dst undef) w) (ho : ops[i]? = some o := by (simp only [gA,gB,gC]); rfl)
    (hQ : ∀ c a w, Q (.panic c) (a.put o.dst undef) w → Q (.panic c) a w := by exact fun _ _ _ h => h) (hw : Region.wanted o (yielded ops a.tmps) = false := by rfl) : wpQ P ops Q S ((false, i) :: r) a w := ⟨o, ho, undef, hQ, .inr ⟨hw, rfl⟩, h⟩
theorem qe {i : Nat} {r : List (Bool × Nat)} {a : Act} {w : World} {o : Oper} (h : ∀ K' : Act → World → Prop, Shut (∀ a w, S w → (S w → wpQ P ops Q S r a w) → K' a w) → if Region.wanted o (yielded ops a.tmps) = true then Oper.wp P o a w K' Q else K' (a.put o.dst undef) w)
    (ho : ops[i]? = some o := by (simp only [gA,gB,gC]); rfl) : wpQ P ops Q S ((true, i) :: r) a w := ⟨o, ho, h⟩
theorem qd {a : Act} {w : World} (h : Q .normal a w) : wpQ P ops Q S [] a w := h
end
end Go.Proofs.YtbklhcjcgiblkaaGreatDoor.RegP
end
