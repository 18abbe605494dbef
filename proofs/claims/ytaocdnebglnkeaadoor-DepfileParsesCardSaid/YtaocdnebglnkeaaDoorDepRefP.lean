/- bellowsref14.Parse walked: it answers as refL does. -/
import Derived.Test.YtaocdnebglnkeaaDoorDepRefL
import Derived.Test.YtaocdnebglnkeaaDoorPathRefD
import Derived.Test.YtaocdnebglnkeaaDoorPBellowsref13In0
import Derived.Test.YtaocdnebglnkeaaDoorWRepsOne
set_option linter.unusedSimpArgs false
set_option linter.unusedVariables false
namespace Go.Proofs.YtaocdnebglnkeaaDoor.P
open Go.RowKit Go.Lib Go.Shelf Go.Proofs.YtaocdnebglnkeaaDoorW.PrintWords Go.Proofs.YtaocdnebglnkeaaDoorW.PrintLast Go.Proofs.YtaocdnebglnkeaaDoorW.PrintMore Go.Proofs.YtaocdnebglnkeaaDoor.U Go.Proofs.YtaocdnebglnkeaaDoor.Dp

theorem byteT (c : UInt8) (k : Nat) (hk : k < 256) (h : c = UInt8.ofNat k) : ((c.toNat : Int) == (k : Int)) = true ∧ ((c.toNat : Int) != (k : Int)) = false := by
  have h1 : ((c.toNat : Int) == (k : Int)) = true := by rw [beq_iff_eq]; exact (toNat_eq c k hk).2 h
  exact ⟨h1, by rw [bne, h1]; rfl⟩
theorem byteF (c : UInt8) (k : Nat) (hk : k < 256) (h : ¬ c = UInt8.ofNat k) : ((c.toNat : Int) == (k : Int)) = false ∧ ((c.toNat : Int) != (k : Int)) = true := by
  have h1 : ((c.toNat : Int) == (k : Int)) = false := by rw [beq_eq_false_iff_ne]; exact fun e => h ((toNat_eq c k hk).1 e)
  exact ⟨h1, by rw [bne, h1]; rfl⟩
theorem eqByte (c : UInt8) (k : Nat) (hk : k < 256) : ((c.toNat : Int) == (k : Int)) = decide (c = UInt8.ofNat k) := by
  rw [Bool.eq_iff_iff, beq_iff_eq, decide_eq_true_iff]; exact toNat_eq c k hk
theorem neByte (c : UInt8) (k : Nat) (hk : k < 256) : ((c.toNat : Int) != (k : Int)) = !decide (c = UInt8.ofNat k) := by
  rw [bne, eqByte c k hk]
theorem byte_in (p : Txt) (c : UInt8) (r : Txt) : ∀ h : p.length < (B (p ++ c :: r)).size, (((B (p ++ c :: r))[p.length]'h).toNat : Int) = (c.toNat : Int) := by
  intro h
  have : (B (p ++ c :: r))[p.length]'h = c := by
    show (p ++ c :: r).toArray[p.length] = c
    simp
  rw [this]
theorem byte_in2 (p : Txt) (c d : UInt8) (r : Txt) : ∀ h : p.length + 1 < (B (p ++ c :: d :: r)).size, (((B (p ++ c :: d :: r))[p.length + 1]'h).toNat : Int) = (d.toNat : Int) := by
  intro h
  have : (B (p ++ c :: d :: r))[p.length + 1]'h = d := by
    show (p ++ c :: d :: r).toArray[p.length + 1] = d
    simp
  rw [this]
theorem rep2_plain (c : UInt8) (r : Txt) (h : ¬ (c = 92 ∧ r.head? = some 10)) : rep2 (c :: r) = c :: rep2 r := by
  cases r with
  | nil => rfl
  | cons d r => rw [rep2, if_neg (by simpa using h)]
theorem tokG_len (x : Txt) : ∀ w, ∀ t ∈ tokG w x, t.length ≤ w.length + x.length + 1 := by
  induction x with
  | nil =>
    intro w t ht
    rw [tokG, Fld.flushF] at ht
    split at ht
    · cases ht
    · rw [List.mem_singleton.1 ht]; simp
  | cons c x ih =>
    intro w t ht
    rw [tokG] at ht
    split at ht
    · have := ih _ t ht; simp at this ⊢; omega
    · rcases List.mem_append.1 ht with ht | ht
      · rcases List.mem_append.1 ht with ht | ht
        · rw [Fld.flushF] at ht
          split at ht
          · cases ht
          · rw [List.mem_singleton.1 ht]; simp; omega
        · unfold sepF at ht
          split at ht
          · cases ht
          · rw [List.mem_singleton.1 ht]; simp
      · have := ih [] t ht; simp at this ⊢; omega
theorem belowN {w w1 w2 : World} (h1 : Below w.heap.size w w1) (h2 : Below w1.heap.size w1 w2) : Below w.heap.size w w2 := h1.trans (h2.mono h1.size)
theorem nl_left (l : List Txt) : ∃ a, l = List.replicate a [10] ++ l.dropWhile isNL ∧ ∀ t T, l.dropWhile isNL = t :: T → isNL t = false := by
  induction l with
  | nil => exact ⟨0, rfl, fun t T h => by cases h⟩
  | cons x l ih =>
    by_cases hx : isNL x = true
    · obtain ⟨a, h1, h2⟩ := ih
      have hx' : x = [10] := by simpa [isNL] using hx
      refine ⟨a + 1, ?_, ?_⟩
      · rw [List.dropWhile_cons, if_pos hx, List.replicate_succ, List.cons_append, ← h1, hx']
      · rw [List.dropWhile_cons, if_pos hx]; exact h2
    · refine ⟨0, ?_, ?_⟩
      · rw [List.dropWhile_cons, if_neg hx]; rfl
      · intro t T h
        rw [List.dropWhile_cons, if_neg hx] at h
        injection h with h _
        rw [← h]; simpa using hx
theorem nl_right (l : List Txt) : ∃ K, l = stripR l ++ List.replicate K [10] ∧ ∀ t T, stripR l = T ++ [t] → isNL t = false := by
  obtain ⟨K, h1, h2⟩ := nl_left l.reverse
  refine ⟨K, ?_, fun t T h => ?_⟩
  · have := congrArg List.reverse h1
    rwa [List.reverse_reverse, List.reverse_append, List.reverse_replicate] at this
  · have : l.reverse.dropWhile isNL = t :: T.reverse := by
      have := congrArg List.reverse h
      unfold stripR at this
      simpa using this
    exact h2 t _ this
/-- A row of tokens, stripped. -/
theorem nl_split (l : List Txt) : (stripT l = [] ∧ ∃ a, l = List.replicate a [10]) ∨
    (∃ a K x X y Y, l = List.replicate a [10] ++ stripT l ++ List.replicate K [10] ∧ stripT l = x :: X ∧ isNL x = false ∧ stripT l = Y ++ [y] ∧ isNL y = false) := by
  obtain ⟨a, h1, h2⟩ := nl_left l
  obtain ⟨K, h3, h4⟩ := nl_right (l.dropWhile isNL)
  have hs : stripR (l.dropWhile isNL) = stripT l := rfl
  rw [hs] at h3 h4
  cases hM : stripT l with
  | nil =>
    left
    rw [hM, List.nil_append] at h3
    refine ⟨rfl, a + K, ?_⟩
    rw [h1, h3, List.replicate_append_replicate]
  | cons x X =>
    right
    obtain ⟨Y, y, hY⟩ : ∃ Y y, x :: X = Y ++ [y] := ⟨(x :: X).dropLast, (x :: X).getLast (by simp), (List.dropLast_concat_getLast (by simp)).symm⟩
    rw [hM] at h3 h4
    refine ⟨a, K, x, X, y, Y, ?_, rfl, h2 x (X ++ List.replicate K [10]) (by rw [h3]; rfl), hY, h4 y Y hY⟩
    rw [List.append_assoc, ← h3]; exact h1
theorem reps_map (w : World) : ∀ l : List Txt, Reps (Kd.string.K w) 1 (l.map B) (l.map fun t => Value.string (B t))
  | [] => Reps.none _ _
  | t :: l => by rw [List.map_cons, List.map_cons]; exact Reps.one (show Kd.string.K w (B t) [.string (B t)] from rfl) (reps_map w l)
theorem row_reads {w : World} {b : Nat} {e : TypeId} {v : Value} {l : List Txt} (h : w.ownsRow b e 1 v l.length (l.map fun t => Value.string (B t))) :
    ∃ A c, v = .slice A (l.map B).length c ∧ (l.map B).length ≤ c ∧ Kd.string.C w A (l.map B).length (l.map B) := by
  have h0 : OwnRow (Kd.string.K w) e 1 w b v (l.map B) := ⟨_, by rw [List.length_map]; exact h, reps_map w l⟩
  exact h0.reads
theorem in_loop (acc : List Txt) (c : Txt) (hn : acc.length < 100000) (d : Nat) : ∀ i : Nat, i + d = acc.length → Ev (fun k => bellowsref13_In.l0 k (acc.map B) (B c) (i : Int)) (decide (c ∈ acc.drop i)) := by
  induction d with
  | zero =>
    intro i hi
    refine Ev.unroll (Ev.some fun k => ?_)
    rw [bellowsref13_In.l0, if_neg (by rw [List.length_map]; omega), List.drop_of_length_le (by omega)]
    simp
  | succ d ih =>
    intro i hi
    have hin : i < acc.length := by omega
    have hr := ih (i + 1) (by omega)
    have hw := wrapH i (by omega)
    have hrd : rdOf ByteArray.empty (acc.map B) (i : Int) = B acc[i] := by rw [rdOf_B _ _ (by simpa using hin)]; simp
    have hd : acc.drop i = acc[i] :: acc.drop (i + 1) := List.drop_eq_getElem_cons hin
    refine Ev.unroll ?_
    have e : (fun k => bellowsref13_In.l0 (k + 1) (acc.map B) (B c) (i : Int)) = fun k => if acc[i] = c then some true else bellowsref13_In.l0 k (acc.map B) (B c) ((i + 1 : Nat) : Int) := by
      funext k
      rw [bellowsref13_In.l0, if_pos (by rw [List.length_map]; omega), if_pos (by omega), hrd, toList_B, toList_B, hw.out]
    rw [e, hd]
    by_cases h : acc[i] = c
    · simp only [h, if_true]; simp; exact Ev.now _
    · simp only [h, if_false]
      refine Ev.eqn hr ?_
      have h' : ¬ c = acc[i] := fun e => h e.symm
      rw [decide_eq_decide, List.mem_cons]
      exact ⟨.inr, fun hq => hq.resolve_left h'⟩
theorem In_any (acc : List Txt) (c : Txt) (hn : acc.length < 100000) (v : Value) (b : Nat) (e : TypeId) (W : World) (hO : W.ownsRow b e 1 v acc.length (acc.map fun t => Value.string (B t))) :
    Calls Tryd.prog 17 #[v, .string (B c)] W fun e w' => e = .returned (.bool (decide (c ∈ acc))) ∧ Below W.heap.size W w' := by
  obtain ⟨A, cp, rfl, hle, hC⟩ := row_reads hO
  obtain ⟨K, hK⟩ := in_loop acc c hn acc.length 0 (by omega)
  rw [List.drop_zero] at hK
  exact (bellowsref13_In.calls K A cp (acc.map B) (B c) _ W hC hle (hK K (Nat.le_refl _))).mono fun e w' h => ⟨h.1, h.2.below⟩
theorem refClean_any (l : Txt) (W : World) : Calls Tryd.prog 16 #[.string (B l)] W fun e w' => e = .returned (.tuple #[.string (B (cleanL l).1), .int .i64 (cleanL l).2]) ∧ Below W.heap.size W w' := by
  obtain ⟨K, hK⟩ := PTh.ref_Clean l
  exact bellowsref03_Clean.calls K (B l) _ _ W (hK K (Nat.le_refl _))
theorem tokG_few (x : Txt) : ∀ w, (tokG w x).length ≤ 2 * x.length + 1 := by
  induction x with
  | nil => intro w; rw [tokG, Fld.flushF]; split <;> simp
  | cons c x ih =>
    intro w
    rw [tokG]
    split
    · have := ih (w ++ [c]); simp; omega
    · have h1 := ih []
      have h2 : (Fld.flushF w).length ≤ 1 := by unfold Fld.flushF; split <;> simp
      have h3 : (sepF c).length ≤ 1 := by unfold sepF; split <;> simp
      simp; omega
def RefPost (text : Txt) (w : World) (e : Ending) (w' : World) : Prop := Below w.heap.size w w' ∧
  ∃ v, e = .returned (.tuple #[.string (B (refL text).1), v, .bool (refL text).2.2]) ∧ Kd.R Kd.string 9 w' w.heap.size (fun _ => True) v ((refL text).2.1.map B)
theorem ref_bad {text : Txt} {w w' : World} (h : refL text = ([], [], false)) (hb : Below w.heap.size w w') : RefPost text w (.returned (.tuple #[.string (B []), .slice none 0 0, .bool false])) w' := by
  refine ⟨hb, .slice none 0 0, ?_, ?_⟩
  · rw [h]
  · rw [h]; exact Kd.R_nil _ _ _ _ _
set_option maxRecDepth 100000 in
set_option maxHeartbeats 16000000 in
theorem RefParse_any (text : Txt) (w : World) : Calls Tryd.prog 7 #[.string (B text)] w (RefPost text w) := by
  obtain ⟨n, hn⟩ : ∃ n, text.length = n := ⟨_, rfl⟩
  have s1 : (B text).size = n := by rw [size_B, hn]
  by_cases hl : 16384 < n
  · have hP := Lib.hid (show refL text = ([], [], false) by rw [refL, if_pos (by omega)])
    have d1 : decide ((16384 : Int) < (n : Int)) = true := by rw [decide_eq_true_iff]; omega
    go_enter Tryd.func7, Tryd.ntmps7
    go_wp2_with fail
    go_ret3
    exact ref_bad hP.out (Below.refl _ _)
  · have d1 : decide ((16384 : Int) < (n : Int)) = false := by rw [decide_eq_false_iff_not]; omega
    obtain ⟨TT, hTT⟩ : ∃ TT, tokG [] (rep2 text) = TT := ⟨_, rfl⟩
    have hP := Lib.hid (show refL text = refT (stripT TT) by rw [refL, if_neg (by omega), hTT])
    have hTL : Hid (∀ t ∈ TT, t.length ≤ 20000) := fun t ht => by
      have h1 := tokG_len (rep2 text) [] t (by rw [hTT]; exact ht)
      have h2 := rep2_len text
      simp at h1; omega
    have hTn : Hid (TT.length ≤ 40000) := by
      have h1 := tokG_few (rep2 text) []
      have h2 := rep2_len text
      show _ ≤ _
      rw [← hTT]; omega
    have hT0 := Lib.hid hTT
    clear hTT
    go_enter Tryd.func7, Tryd.ntmps7
    go_wp2_with fail
    go_loopg [5, 6, 7] (n + 1) (fun gk s5 s6 s7 wr => ∃ i : Nat, s7 = .int .i64 (i : Int) ∧ n + 1 ≤ i + gk ∧
      ((∃ (p r word : Txt) (acc : List Txt), Hid (i = p.length) ∧ Hid (text = p ++ r) ∧ Hid (acc ++ tokG word (rep2 r) = TT) ∧ s6 = .string (B word) ∧ Hid (wr.ownsRow w.heap.size 9 1 s5 acc.length (acc.map fun t => Value.string (B t))) ∧ Hid (Below w.heap.size w wr) ∧ acc.length ≤ 2 * i ∧ word.length ≤ i) ∨
       (i = n + 1 ∧ Hid (wr.ownsRow w.heap.size 9 1 s5 TT.length (TT.map fun t => Value.string (B t))) ∧ Hid (Below w.heap.size w wr))))
    case atStart => exact ⟨0, rfl, by omega, .inl ⟨[], text, [], [], rfl, rfl, hT0, rfl, own_nil _ _ _ _, Below.refl _ _, Nat.zero_le _, Nat.zero_le _⟩⟩
    case round =>
      obtain ⟨i, rfl, hgk, ⟨p, r, word, acc, hip, hsplit, hT, h6, hO, hBe, hacc, hwl⟩ | ⟨hi, hO, hBe⟩⟩ := hrel
      case inl =>
        subst h6
        have hin : i ≤ n := by rw [← hn, hsplit.out, hip.out]; simp
        obtain ⟨gk, rfl⟩ : ∃ g, gk = g + 1 := ⟨gk - 1, by omega⟩
        have d2 : decide ((i : Int) ≤ (n : Int)) = true := by rw [decide_eq_true_iff]; omega
        cases r with
        | nil =>
          obtain ⟨rfl, hi⟩ : i = n ∧ True := ⟨by rw [← hn, hsplit.out, hip.out]; simp, trivial⟩
          have d3 : decide ((i : Int) + 1 < (i : Int)) = false := by rw [decide_eq_false_iff_not]; omega
          have d4 : decide ((i : Int) < (i : Int)) = false := by simp
          have hT2 : Hid (acc ++ Fld.flushF word ++ ([] : List Txt) = TT) := by show _ = _; rw [← hT.out]; simp [tokG, rep2]
          clear hT
          have hfll : (Fld.flushF word).length ≤ 1 := by unfold Fld.flushF; split <;> simp
          have hl8 : (acc ++ Fld.flushF word).length ≤ 40000 := by rw [List.length_append]; omega
          by_cases hw0 : word = []
          · have ew : (B word).toList.isEmpty = true := by rw [toList_B, hw0]; rfl
            have ew2 : (!(B word).toList.isEmpty) = false := by rw [ew]; rfl
            have ew3 : word.isEmpty = true := by rw [hw0]; rfl
            have ew4 : (!word.isEmpty) = false := by rw [ew3]; rfl
            have hO8 : Hid (wr.ownsRow w.heap.size 9 1 u5 (acc ++ Fld.flushF word).length ((acc ++ Fld.flushF word).map fun t => Value.string (B t))) := by
              rw [Fld.flushF, if_pos hw0, List.append_nil]; exact hO
            have hB8 := hBe
            clear hO hw0
            go_wp2_with fail
            go_roundg gk
            case measure => omega
            case rel => exact ⟨i + 1, by first | rfl | simp, by omega, .inr ⟨by omega, by have h := hO8.out; rw [show acc ++ Fld.flushF word = TT by rw [← hT2.out, List.append_nil]] at h; exact h, hB8⟩⟩
          · have ew : (B word).toList.isEmpty = false := by rw [toList_B]; cases hq : word with | nil => exact absurd hq hw0 | cons _ _ => rfl
            have ew2 : (!(B word).toList.isEmpty) = true := by rw [ew]; rfl
            have ew3 : word.isEmpty = false := by rw [toList_B] at ew; exact ew
            have ew4 : (!word.isEmpty) = true := by rw [ew3]; rfl
            have hfl : Hid (Fld.flushF word = [word]) := by show _ = _; rw [Fld.flushF, if_neg hw0]
            clear hw0
            go_wp2_with (at_builtin; go_loud (refine print_append_cells (w0 := w) (W := wr) w.heap.size rfl _ _ 22 9 (.string ⟨#[]⟩) 1 16 rfl Tryd.underlying22 infoStr rfl (by decide) (by decide) u5 (acc.length) _ [.string (B word)] rfl rfl rfl (by intro u hu; rw [List.mem_singleton.1 hu]; rfl) hO.out hBe.out hBe.out.size (by omega) ?_))
            intro v8 w8 hown hbel _ _
            have hO8 : Hid (w8.ownsRow w.heap.size 9 1 v8 (acc ++ [word]).length ((acc ++ [word]).map fun t => Value.string (B t))) := by
              show World.ownsRow _ _ _ _ _ _ _
              simpa [Nat.add_assoc] using hown
            have hB8 := Lib.hid hbel
            clear hown hbel
            rw [← hfl.out] at hO8
            go_wp2_with fail
            go_roundg gk
            case measure => omega
            case rel => exact ⟨i + 1, by first | rfl | simp, by omega, .inr ⟨by omega, by have h := hO8.out; rw [show acc ++ Fld.flushF word = TT by rw [← hT2.out, List.append_nil]] at h; exact h, hB8⟩⟩
        | cons c r =>
          have hlt : i < n := by rw [← hn, hsplit.out, hip.out]; simp
          have d4 : decide ((i : Int) < (n : Int)) = true := by rw [decide_eq_true_iff]; omega
          have d5 : ((i : Int) == (n : Int)) = false := by rw [beq_eq_false_iff_ne]; omega
          have hidx : ∀ h : i < (B text).size, (((B text)[i]'h).toNat : Int) = (c.toNat : Int) := by
            rw [hsplit.out, hip.out]; exact byte_in p c r
          have c256 := c.toNat_lt
          by_cases hct : c = 92 ∧ r.head? = some 10
          · obtain ⟨rfl, h10⟩ := hct
            cases r with
            | nil => cases h10
            | cons d r =>
              obtain rfl : d = 10 := by simpa using h10
              have hlt2 : i + 1 < n := by rw [← hn, hsplit.out, hip.out]; simp
              have d3 : decide ((i : Int) + 1 < (n : Int)) = true := by rw [decide_eq_true_iff]; omega
              have hidx2 : ∀ h : i + 1 < (B text).size, (((B text)[i + 1]'h).toNat : Int) = ((10 : UInt8).toNat : Int) := by
                rw [hsplit.out, hip.out]; exact byte_in2 p 92 10 r
              have hT2 : Hid (acc ++ Fld.flushF word ++ tokG [] (rep2 r) = TT) := by
                show _ = _
                rw [← hT.out, show rep2 (92 :: 10 :: r) = 32 :: rep2 r by rw [rep2, if_pos ⟨rfl, rfl⟩], tokG, if_neg (by decide)]
                simp [sepF]
              clear hT
              have hfll : (Fld.flushF word).length ≤ 1 := by unfold Fld.flushF; split <;> simp
              have hl8 : (acc ++ Fld.flushF word).length ≤ 40000 := by rw [List.length_append]; omega
              by_cases hw0 : word = []
              · have ew : (B word).toList.isEmpty = true := by rw [toList_B, hw0]; rfl
                have ew2 : (!(B word).toList.isEmpty) = false := by rw [ew]; rfl
                have ew3 : word.isEmpty = true := by rw [hw0]; rfl
                have ew4 : (!word.isEmpty) = false := by rw [ew3]; rfl
                have hO8 : Hid (wr.ownsRow w.heap.size 9 1 u5 (acc ++ Fld.flushF word).length ((acc ++ Fld.flushF word).map fun t => Value.string (B t))) := by
                  rw [Fld.flushF, if_pos hw0, List.append_nil]; exact hO
                have hB8 := hBe
                clear hO hw0
                go_wp2_with fail
                go_roundg gk
                case measure => omega
                case rel => exact ⟨i + 2, by first | rfl | (simp; done) | (simp; omega), by omega, .inl ⟨p ++ [92, 10], r, [], acc ++ Fld.flushF word, (by show _ = _; simp [hip.out]), (by show _ = _; simp [hsplit.out]), hT2, rfl, hO8, hB8, by simp; omega, by simp⟩⟩
              · have ew : (B word).toList.isEmpty = false := by rw [toList_B]; cases hq : word with | nil => exact absurd hq hw0 | cons _ _ => rfl
                have ew2 : (!(B word).toList.isEmpty) = true := by rw [ew]; rfl
                have ew3 : word.isEmpty = false := by rw [toList_B] at ew; exact ew
                have ew4 : (!word.isEmpty) = true := by rw [ew3]; rfl
                have hfl : Hid (Fld.flushF word = [word]) := by show _ = _; rw [Fld.flushF, if_neg hw0]
                clear hw0
                go_wp2_with (at_builtin; go_loud (refine print_append_cells (w0 := w) (W := wr) w.heap.size rfl _ _ 22 9 (.string ⟨#[]⟩) 1 16 rfl Tryd.underlying22 infoStr rfl (by decide) (by decide) u5 (acc.length) _ [.string (B word)] rfl rfl rfl (by intro u hu; rw [List.mem_singleton.1 hu]; rfl) hO.out hBe.out hBe.out.size (by omega) ?_))
                intro v8 w8 hown hbel _ _
                have hO8 : Hid (w8.ownsRow w.heap.size 9 1 v8 (acc ++ [word]).length ((acc ++ [word]).map fun t => Value.string (B t))) := by
                  show World.ownsRow _ _ _ _ _ _ _
                  simpa [Nat.add_assoc] using hown
                have hB8 := Lib.hid hbel
                clear hown hbel
                rw [← hfl.out] at hO8
                go_wp2_with fail
                go_roundg gk
                case measure => omega
                case rel => exact ⟨i + 2, by first | rfl | (simp; done) | (simp; omega), by omega, .inl ⟨p ++ [92, 10], r, [], acc ++ Fld.flushF word, (by show _ = _; simp [hip.out]), (by show _ = _; simp [hsplit.out]), hT2, rfl, hO8, hB8, by simp; omega, by simp⟩⟩
          · have hr2 := rep2_plain c r hct
            have hT1 : Hid (acc ++ (if wordB c = true then tokG (word ++ [c]) (rep2 r) else Fld.flushF word ++ sepF c ++ tokG [] (rep2 r)) = TT) := by
              show _ = _
              rw [← hT.out, hr2, tokG]
            have e1 : (B text).extract i (i + 1) = B [c] := by
              rw [extract_B, hsplit.out, hip.out, List.take_length_add_append]; simp
            have zw : (B word).size = word.length := size_B _
            have zc : (B [c]).size = 1 := rfl
            have nb : (9223372036854775807 < word.length + 1) = False := eq_false (by omega)
            have EX : Hid (B word ++ B [c] = B (word ++ [c])) := B_append _ _
            clear hT hr2
            by_cases hwc : wordB c = true
            · have hT2 : Hid (acc ++ tokG (word ++ [c]) (rep2 r) = TT) := by have := hT1.out; rwa [if_pos hwc] at this
              obtain ⟨x32, x10, x58⟩ : c ≠ 32 ∧ c ≠ 10 ∧ c ≠ 58 := by simp [wordB] at hwc; exact ⟨hwc.1.1, hwc.1.2, hwc.2⟩
              obtain ⟨q32, r32⟩ : ((c.toNat : Int) == 32) = false ∧ ((c.toNat : Int) != 32) = true := byteF c 32 (by decide) x32
              obtain ⟨q10, r10⟩ : ((c.toNat : Int) == 10) = false ∧ ((c.toNat : Int) != 10) = true := byteF c 10 (by decide) x10
              obtain ⟨q58, r58⟩ : ((c.toNat : Int) == 58) = false ∧ ((c.toNat : Int) != 58) = true := byteF c 58 (by decide) x58
              clear hT1
              cases r with
              | nil =>
                have d3 : decide ((i : Int) + 1 < (n : Int)) = false := by rw [decide_eq_false_iff_not, ← hn, hsplit.out, hip.out]; simp
                clear hct
                go_wp2_with fail
                go_roundg gk
                case measure => omega
                case rel => exact ⟨i + 1, by first | rfl | simp, by omega, .inl ⟨p ++ [c], [], word ++ [c], acc, (by show _ = _; simp [hip.out]), (by show _ = _; simp [hsplit.out]), hT2, by first | rfl | (rw [EX.out]; done) | (congr 1; exact EX.out), hO, hBe, by omega, by simp; omega⟩⟩
              | cons d r1 =>
                have hlt2 : i + 1 < n := by rw [← hn, hsplit.out, hip.out]; simp
                have d3 : decide ((i : Int) + 1 < (n : Int)) = true := by rw [decide_eq_true_iff]; omega
                by_cases x92 : c = 92
                · have hidx2 : ∀ h : i + 1 < (B text).size, (((B text)[i + 1]'h).toNat : Int) = (d.toNat : Int) := by
                    rw [hsplit.out, hip.out]; exact byte_in2 p c d r1
                  obtain ⟨y10, z10⟩ : ((d.toNat : Int) == 10) = false ∧ ((d.toNat : Int) != 10) = true := byteF d 10 (by decide) (fun e => hct ⟨x92, by rw [e]; rfl⟩)
                  obtain ⟨q92, r92⟩ : ((c.toNat : Int) == 92) = true ∧ ((c.toNat : Int) != 92) = false := byteT c 92 (by decide) x92
                  clear hct x92
                  go_wp2_with fail
                  go_roundg gk
                  case measure => omega
                  case rel => exact ⟨i + 1, by first | rfl | simp, by omega, .inl ⟨p ++ [c], (d :: r1), word ++ [c], acc, (by show _ = _; simp [hip.out]), (by show _ = _; simp [hsplit.out]), hT2, by first | rfl | (rw [EX.out]; done) | (congr 1; exact EX.out), hO, hBe, by omega, by simp; omega⟩⟩
                · obtain ⟨q92, r92⟩ : ((c.toNat : Int) == 92) = false ∧ ((c.toNat : Int) != 92) = true := byteF c 92 (by decide) x92
                  clear hct
                  go_wp2_with fail
                  go_roundg gk
                  case measure => omega
                  case rel => exact ⟨i + 1, by first | rfl | simp, by omega, .inl ⟨p ++ [c], (d :: r1), word ++ [c], acc, (by show _ = _; simp [hip.out]), (by show _ = _; simp [hsplit.out]), hT2, by first | rfl | (rw [EX.out]; done) | (congr 1; exact EX.out), hO, hBe, by omega, by simp; omega⟩⟩
            · clear hct
              have hT2' : Hid (acc ++ (Fld.flushF word ++ sepF c ++ tokG [] (rep2 r)) = TT) := by have := hT1.out; rwa [if_neg hwc] at this
              have x92 : c ≠ 92 := by rintro rfl; exact hwc (by decide)
              obtain ⟨q92, r92⟩ : ((c.toNat : Int) == 92) = false ∧ ((c.toNat : Int) != 92) = true := byteF c 92 (by decide) x92
              clear hT1
              by_cases x32 : c = 32
              · have hT2 : Hid (acc ++ Fld.flushF word ++ tokG [] (rep2 r) = TT) := by show _ = _; rw [← hT2'.out]; simp [sepF, x32]
                obtain ⟨q32, r32⟩ : ((c.toNat : Int) == 32) = true ∧ ((c.toNat : Int) != 32) = false := byteT c 32 (by decide) x32
                clear x32
                clear hT2'
                by_cases hlt2 : i + 1 < n
                · have d3 : decide ((i : Int) + 1 < (n : Int)) = true := by rw [decide_eq_true_iff]; omega
                  have hfll : (Fld.flushF word).length ≤ 1 := by unfold Fld.flushF; split <;> simp
                  have hl8 : (acc ++ Fld.flushF word).length ≤ 40000 := by rw [List.length_append]; omega
                  by_cases hw0 : word = []
                  · have ew : (B word).toList.isEmpty = true := by rw [toList_B, hw0]; rfl
                    have ew2 : (!(B word).toList.isEmpty) = false := by rw [ew]; rfl
                    have ew3 : word.isEmpty = true := by rw [hw0]; rfl
                    have ew4 : (!word.isEmpty) = false := by rw [ew3]; rfl
                    have hO8 : Hid (wr.ownsRow w.heap.size 9 1 u5 (acc ++ Fld.flushF word).length ((acc ++ Fld.flushF word).map fun t => Value.string (B t))) := by
                      rw [Fld.flushF, if_pos hw0, List.append_nil]; exact hO
                    have hB8 := hBe
                    clear hO hw0
                    go_wp2_with fail
                    go_roundg gk
                    case measure => omega
                    case rel => exact ⟨i + 1, by first | rfl | simp, by omega, .inl ⟨p ++ [c], r, [], acc ++ Fld.flushF word, (by show _ = _; simp [hip.out]), (by show _ = _; simp [hsplit.out]), hT2, rfl, hO8, hB8, by simp; omega, by simp⟩⟩
                  · have ew : (B word).toList.isEmpty = false := by rw [toList_B]; cases hq : word with | nil => exact absurd hq hw0 | cons _ _ => rfl
                    have ew2 : (!(B word).toList.isEmpty) = true := by rw [ew]; rfl
                    have ew3 : word.isEmpty = false := by rw [toList_B] at ew; exact ew
                    have ew4 : (!word.isEmpty) = true := by rw [ew3]; rfl
                    have hfl : Hid (Fld.flushF word = [word]) := by show _ = _; rw [Fld.flushF, if_neg hw0]
                    clear hw0
                    go_wp2_with (at_builtin; go_loud (refine print_append_cells (w0 := w) (W := wr) w.heap.size rfl _ _ 22 9 (.string ⟨#[]⟩) 1 16 rfl Tryd.underlying22 infoStr rfl (by decide) (by decide) u5 (acc.length) _ [.string (B word)] rfl rfl rfl (by intro u hu; rw [List.mem_singleton.1 hu]; rfl) hO.out hBe.out hBe.out.size (by omega) ?_))
                    intro v8 w8 hown hbel _ _
                    have hO8 : Hid (w8.ownsRow w.heap.size 9 1 v8 (acc ++ [word]).length ((acc ++ [word]).map fun t => Value.string (B t))) := by
                      show World.ownsRow _ _ _ _ _ _ _
                      simpa [Nat.add_assoc] using hown
                    have hB8 := Lib.hid hbel
                    clear hown hbel
                    rw [← hfl.out] at hO8
                    go_wp2_with fail
                    go_roundg gk
                    case measure => omega
                    case rel => exact ⟨i + 1, by first | rfl | simp, by omega, .inl ⟨p ++ [c], r, [], acc ++ Fld.flushF word, (by show _ = _; simp [hip.out]), (by show _ = _; simp [hsplit.out]), hT2, rfl, hO8, hB8, by simp; omega, by simp⟩⟩
                · have d3 : decide ((i : Int) + 1 < (n : Int)) = false := by rw [decide_eq_false_iff_not]; omega
                  have hfll : (Fld.flushF word).length ≤ 1 := by unfold Fld.flushF; split <;> simp
                  have hl8 : (acc ++ Fld.flushF word).length ≤ 40000 := by rw [List.length_append]; omega
                  by_cases hw0 : word = []
                  · have ew : (B word).toList.isEmpty = true := by rw [toList_B, hw0]; rfl
                    have ew2 : (!(B word).toList.isEmpty) = false := by rw [ew]; rfl
                    have ew3 : word.isEmpty = true := by rw [hw0]; rfl
                    have ew4 : (!word.isEmpty) = false := by rw [ew3]; rfl
                    have hO8 : Hid (wr.ownsRow w.heap.size 9 1 u5 (acc ++ Fld.flushF word).length ((acc ++ Fld.flushF word).map fun t => Value.string (B t))) := by
                      rw [Fld.flushF, if_pos hw0, List.append_nil]; exact hO
                    have hB8 := hBe
                    clear hO hw0
                    go_wp2_with fail
                    go_roundg gk
                    case measure => omega
                    case rel => exact ⟨i + 1, by first | rfl | simp, by omega, .inl ⟨p ++ [c], r, [], acc ++ Fld.flushF word, (by show _ = _; simp [hip.out]), (by show _ = _; simp [hsplit.out]), hT2, rfl, hO8, hB8, by simp; omega, by simp⟩⟩
                  · have ew : (B word).toList.isEmpty = false := by rw [toList_B]; cases hq : word with | nil => exact absurd hq hw0 | cons _ _ => rfl
                    have ew2 : (!(B word).toList.isEmpty) = true := by rw [ew]; rfl
                    have ew3 : word.isEmpty = false := by rw [toList_B] at ew; exact ew
                    have ew4 : (!word.isEmpty) = true := by rw [ew3]; rfl
                    have hfl : Hid (Fld.flushF word = [word]) := by show _ = _; rw [Fld.flushF, if_neg hw0]
                    clear hw0
                    go_wp2_with (at_builtin; go_loud (refine print_append_cells (w0 := w) (W := wr) w.heap.size rfl _ _ 22 9 (.string ⟨#[]⟩) 1 16 rfl Tryd.underlying22 infoStr rfl (by decide) (by decide) u5 (acc.length) _ [.string (B word)] rfl rfl rfl (by intro u hu; rw [List.mem_singleton.1 hu]; rfl) hO.out hBe.out hBe.out.size (by omega) ?_))
                    intro v8 w8 hown hbel _ _
                    have hO8 : Hid (w8.ownsRow w.heap.size 9 1 v8 (acc ++ [word]).length ((acc ++ [word]).map fun t => Value.string (B t))) := by
                      show World.ownsRow _ _ _ _ _ _ _
                      simpa [Nat.add_assoc] using hown
                    have hB8 := Lib.hid hbel
                    clear hown hbel
                    rw [← hfl.out] at hO8
                    go_wp2_with fail
                    go_roundg gk
                    case measure => omega
                    case rel => exact ⟨i + 1, by first | rfl | simp, by omega, .inl ⟨p ++ [c], r, [], acc ++ Fld.flushF word, (by show _ = _; simp [hip.out]), (by show _ = _; simp [hsplit.out]), hT2, rfl, hO8, hB8, by simp; omega, by simp⟩⟩
              · have hT2 : Hid (acc ++ Fld.flushF word ++ ([c] :: tokG [] (rep2 r)) = TT) := by show _ = _; rw [← hT2'.out]; simp [sepF, x32]
                obtain ⟨q32, r32⟩ : ((c.toNat : Int) == 32) = false ∧ ((c.toNat : Int) != 32) = true := byteF c 32 (by decide) x32
                clear hT2'
                have h3 : c = 10 ∨ (¬ c = 10 ∧ c = 58) := by
                  by_cases h : c = 10
                  · exact .inl h
                  · right
                    refine ⟨h, ?_⟩
                    apply Classical.byContradiction
                    intro h58
                    exact hwc (by simp [wordB, x32, h, h58])
                rcases h3 with x10 | ⟨x10, x58⟩
                · obtain ⟨q10, r10⟩ : ((c.toNat : Int) == 10) = true ∧ ((c.toNat : Int) != 10) = false := byteT c 10 (by decide) x10
                  clear x10
                  by_cases hlt2 : i + 1 < n
                  · have d3 : decide ((i : Int) + 1 < (n : Int)) = true := by rw [decide_eq_true_iff]; omega
                    have hfll : (Fld.flushF word).length ≤ 1 := by unfold Fld.flushF; split <;> simp
                    have hl8 : (acc ++ Fld.flushF word).length ≤ 40000 := by rw [List.length_append]; omega
                    by_cases hw0 : word = []
                    · have ew : (B word).toList.isEmpty = true := by rw [toList_B, hw0]; rfl
                      have ew2 : (!(B word).toList.isEmpty) = false := by rw [ew]; rfl
                      have ew3 : word.isEmpty = true := by rw [hw0]; rfl
                      have ew4 : (!word.isEmpty) = false := by rw [ew3]; rfl
                      have hO8 : Hid (wr.ownsRow w.heap.size 9 1 u5 (acc ++ Fld.flushF word).length ((acc ++ Fld.flushF word).map fun t => Value.string (B t))) := by
                        rw [Fld.flushF, if_pos hw0, List.append_nil]; exact hO
                      have hB8 := hBe
                      clear hO hw0
                      go_wp2_with (at_builtin; go_loud (refine print_append_cells (w0 := w) (W := wr) w.heap.size rfl _ _ 22 9 (.string ⟨#[]⟩) 1 16 rfl Tryd.underlying22 infoStr rfl (by decide) (by decide) u5 ((acc ++ Fld.flushF word).length) _ [.string (B [c])] rfl rfl rfl (by intro u hu; rw [List.mem_singleton.1 hu]; rfl) hO8.out hB8.out hB8.out.size (by omega) ?_))
                      intro v9 w9 hown hbel _ _
                      have hO9 : Hid (w9.ownsRow w.heap.size 9 1 v9 ((acc ++ Fld.flushF word) ++ [[c]]).length (((acc ++ Fld.flushF word) ++ [[c]]).map fun t => Value.string (B t))) := by
                        show World.ownsRow _ _ _ _ _ _ _
                        simpa [Nat.add_assoc] using hown
                      have hB9 := Lib.hid hbel
                      clear hown hbel
                      go_wp2_with fail
                      go_roundg gk
                      case measure => omega
                      case rel => exact ⟨i + 1, by first | rfl | simp, by omega, .inl ⟨p ++ [c], r, [], acc ++ Fld.flushF word ++ [[c]], (by show _ = _; simp [hip.out]), (by show _ = _; simp [hsplit.out]), (by show _ = _; rw [← hT2.out]; simp), rfl, hO9, hB9, by simp; omega, by simp⟩⟩
                    · have ew : (B word).toList.isEmpty = false := by rw [toList_B]; cases hq : word with | nil => exact absurd hq hw0 | cons _ _ => rfl
                      have ew2 : (!(B word).toList.isEmpty) = true := by rw [ew]; rfl
                      have ew3 : word.isEmpty = false := by rw [toList_B] at ew; exact ew
                      have ew4 : (!word.isEmpty) = true := by rw [ew3]; rfl
                      have hfl : Hid (Fld.flushF word = [word]) := by show _ = _; rw [Fld.flushF, if_neg hw0]
                      clear hw0
                      go_wp2_with (at_builtin; go_loud (refine print_append_cells (w0 := w) (W := wr) w.heap.size rfl _ _ 22 9 (.string ⟨#[]⟩) 1 16 rfl Tryd.underlying22 infoStr rfl (by decide) (by decide) u5 (acc.length) _ [.string (B word)] rfl rfl rfl (by intro u hu; rw [List.mem_singleton.1 hu]; rfl) hO.out hBe.out hBe.out.size (by omega) ?_))
                      intro v8 w8 hown hbel _ _
                      have hO8 : Hid (w8.ownsRow w.heap.size 9 1 v8 (acc ++ [word]).length ((acc ++ [word]).map fun t => Value.string (B t))) := by
                        show World.ownsRow _ _ _ _ _ _ _
                        simpa [Nat.add_assoc] using hown
                      have hB8 := Lib.hid hbel
                      clear hown hbel
                      rw [← hfl.out] at hO8
                      go_wp2_with (at_builtin; go_loud (refine print_append_cells (w0 := w) (W := w8) w.heap.size rfl _ _ 22 9 (.string ⟨#[]⟩) 1 16 rfl Tryd.underlying22 infoStr rfl (by decide) (by decide) v8 ((acc ++ Fld.flushF word).length) _ [.string (B [c])] rfl rfl rfl (by intro u hu; rw [List.mem_singleton.1 hu]; rfl) hO8.out hB8.out hB8.out.size (by omega) ?_))
                      intro v9 w9 hown hbel _ _
                      have hO9 : Hid (w9.ownsRow w.heap.size 9 1 v9 ((acc ++ Fld.flushF word) ++ [[c]]).length (((acc ++ Fld.flushF word) ++ [[c]]).map fun t => Value.string (B t))) := by
                        show World.ownsRow _ _ _ _ _ _ _
                        simpa [Nat.add_assoc] using hown
                      have hB9 := Lib.hid hbel
                      clear hown hbel
                      go_wp2_with fail
                      go_roundg gk
                      case measure => omega
                      case rel => exact ⟨i + 1, by first | rfl | simp, by omega, .inl ⟨p ++ [c], r, [], acc ++ Fld.flushF word ++ [[c]], (by show _ = _; simp [hip.out]), (by show _ = _; simp [hsplit.out]), (by show _ = _; rw [← hT2.out]; simp), rfl, hO9, hB9, by simp; omega, by simp⟩⟩
                  · have d3 : decide ((i : Int) + 1 < (n : Int)) = false := by rw [decide_eq_false_iff_not]; omega
                    have hfll : (Fld.flushF word).length ≤ 1 := by unfold Fld.flushF; split <;> simp
                    have hl8 : (acc ++ Fld.flushF word).length ≤ 40000 := by rw [List.length_append]; omega
                    by_cases hw0 : word = []
                    · have ew : (B word).toList.isEmpty = true := by rw [toList_B, hw0]; rfl
                      have ew2 : (!(B word).toList.isEmpty) = false := by rw [ew]; rfl
                      have ew3 : word.isEmpty = true := by rw [hw0]; rfl
                      have ew4 : (!word.isEmpty) = false := by rw [ew3]; rfl
                      have hO8 : Hid (wr.ownsRow w.heap.size 9 1 u5 (acc ++ Fld.flushF word).length ((acc ++ Fld.flushF word).map fun t => Value.string (B t))) := by
                        rw [Fld.flushF, if_pos hw0, List.append_nil]; exact hO
                      have hB8 := hBe
                      clear hO hw0
                      go_wp2_with (at_builtin; go_loud (refine print_append_cells (w0 := w) (W := wr) w.heap.size rfl _ _ 22 9 (.string ⟨#[]⟩) 1 16 rfl Tryd.underlying22 infoStr rfl (by decide) (by decide) u5 ((acc ++ Fld.flushF word).length) _ [.string (B [c])] rfl rfl rfl (by intro u hu; rw [List.mem_singleton.1 hu]; rfl) hO8.out hB8.out hB8.out.size (by omega) ?_))
                      intro v9 w9 hown hbel _ _
                      have hO9 : Hid (w9.ownsRow w.heap.size 9 1 v9 ((acc ++ Fld.flushF word) ++ [[c]]).length (((acc ++ Fld.flushF word) ++ [[c]]).map fun t => Value.string (B t))) := by
                        show World.ownsRow _ _ _ _ _ _ _
                        simpa [Nat.add_assoc] using hown
                      have hB9 := Lib.hid hbel
                      clear hown hbel
                      go_wp2_with fail
                      go_roundg gk
                      case measure => omega
                      case rel => exact ⟨i + 1, by first | rfl | simp, by omega, .inl ⟨p ++ [c], r, [], acc ++ Fld.flushF word ++ [[c]], (by show _ = _; simp [hip.out]), (by show _ = _; simp [hsplit.out]), (by show _ = _; rw [← hT2.out]; simp), rfl, hO9, hB9, by simp; omega, by simp⟩⟩
                    · have ew : (B word).toList.isEmpty = false := by rw [toList_B]; cases hq : word with | nil => exact absurd hq hw0 | cons _ _ => rfl
                      have ew2 : (!(B word).toList.isEmpty) = true := by rw [ew]; rfl
                      have ew3 : word.isEmpty = false := by rw [toList_B] at ew; exact ew
                      have ew4 : (!word.isEmpty) = true := by rw [ew3]; rfl
                      have hfl : Hid (Fld.flushF word = [word]) := by show _ = _; rw [Fld.flushF, if_neg hw0]
                      clear hw0
                      go_wp2_with (at_builtin; go_loud (refine print_append_cells (w0 := w) (W := wr) w.heap.size rfl _ _ 22 9 (.string ⟨#[]⟩) 1 16 rfl Tryd.underlying22 infoStr rfl (by decide) (by decide) u5 (acc.length) _ [.string (B word)] rfl rfl rfl (by intro u hu; rw [List.mem_singleton.1 hu]; rfl) hO.out hBe.out hBe.out.size (by omega) ?_))
                      intro v8 w8 hown hbel _ _
                      have hO8 : Hid (w8.ownsRow w.heap.size 9 1 v8 (acc ++ [word]).length ((acc ++ [word]).map fun t => Value.string (B t))) := by
                        show World.ownsRow _ _ _ _ _ _ _
                        simpa [Nat.add_assoc] using hown
                      have hB8 := Lib.hid hbel
                      clear hown hbel
                      rw [← hfl.out] at hO8
                      go_wp2_with (at_builtin; go_loud (refine print_append_cells (w0 := w) (W := w8) w.heap.size rfl _ _ 22 9 (.string ⟨#[]⟩) 1 16 rfl Tryd.underlying22 infoStr rfl (by decide) (by decide) v8 ((acc ++ Fld.flushF word).length) _ [.string (B [c])] rfl rfl rfl (by intro u hu; rw [List.mem_singleton.1 hu]; rfl) hO8.out hB8.out hB8.out.size (by omega) ?_))
                      intro v9 w9 hown hbel _ _
                      have hO9 : Hid (w9.ownsRow w.heap.size 9 1 v9 ((acc ++ Fld.flushF word) ++ [[c]]).length (((acc ++ Fld.flushF word) ++ [[c]]).map fun t => Value.string (B t))) := by
                        show World.ownsRow _ _ _ _ _ _ _
                        simpa [Nat.add_assoc] using hown
                      have hB9 := Lib.hid hbel
                      clear hown hbel
                      go_wp2_with fail
                      go_roundg gk
                      case measure => omega
                      case rel => exact ⟨i + 1, by first | rfl | simp, by omega, .inl ⟨p ++ [c], r, [], acc ++ Fld.flushF word ++ [[c]], (by show _ = _; simp [hip.out]), (by show _ = _; simp [hsplit.out]), (by show _ = _; rw [← hT2.out]; simp), rfl, hO9, hB9, by simp; omega, by simp⟩⟩
                · obtain ⟨q10, r10⟩ : ((c.toNat : Int) == 10) = false ∧ ((c.toNat : Int) != 10) = true := byteF c 10 (by decide) x10
                  obtain ⟨q58, r58⟩ : ((c.toNat : Int) == 58) = true ∧ ((c.toNat : Int) != 58) = false := byteT c 58 (by decide) x58
                  clear x58
                  by_cases hlt2 : i + 1 < n
                  · have d3 : decide ((i : Int) + 1 < (n : Int)) = true := by rw [decide_eq_true_iff]; omega
                    have hfll : (Fld.flushF word).length ≤ 1 := by unfold Fld.flushF; split <;> simp
                    have hl8 : (acc ++ Fld.flushF word).length ≤ 40000 := by rw [List.length_append]; omega
                    by_cases hw0 : word = []
                    · have ew : (B word).toList.isEmpty = true := by rw [toList_B, hw0]; rfl
                      have ew2 : (!(B word).toList.isEmpty) = false := by rw [ew]; rfl
                      have ew3 : word.isEmpty = true := by rw [hw0]; rfl
                      have ew4 : (!word.isEmpty) = false := by rw [ew3]; rfl
                      have hO8 : Hid (wr.ownsRow w.heap.size 9 1 u5 (acc ++ Fld.flushF word).length ((acc ++ Fld.flushF word).map fun t => Value.string (B t))) := by
                        rw [Fld.flushF, if_pos hw0, List.append_nil]; exact hO
                      have hB8 := hBe
                      clear hO hw0
                      go_wp2_with (at_builtin; go_loud (refine print_append_cells (w0 := w) (W := wr) w.heap.size rfl _ _ 22 9 (.string ⟨#[]⟩) 1 16 rfl Tryd.underlying22 infoStr rfl (by decide) (by decide) u5 ((acc ++ Fld.flushF word).length) _ [.string (B [c])] rfl rfl rfl (by intro u hu; rw [List.mem_singleton.1 hu]; rfl) hO8.out hB8.out hB8.out.size (by omega) ?_))
                      intro v9 w9 hown hbel _ _
                      have hO9 : Hid (w9.ownsRow w.heap.size 9 1 v9 ((acc ++ Fld.flushF word) ++ [[c]]).length (((acc ++ Fld.flushF word) ++ [[c]]).map fun t => Value.string (B t))) := by
                        show World.ownsRow _ _ _ _ _ _ _
                        simpa [Nat.add_assoc] using hown
                      have hB9 := Lib.hid hbel
                      clear hown hbel
                      go_wp2_with fail
                      go_roundg gk
                      case measure => omega
                      case rel => exact ⟨i + 1, by first | rfl | simp, by omega, .inl ⟨p ++ [c], r, [], acc ++ Fld.flushF word ++ [[c]], (by show _ = _; simp [hip.out]), (by show _ = _; simp [hsplit.out]), (by show _ = _; rw [← hT2.out]; simp), rfl, hO9, hB9, by simp; omega, by simp⟩⟩
                    · have ew : (B word).toList.isEmpty = false := by rw [toList_B]; cases hq : word with | nil => exact absurd hq hw0 | cons _ _ => rfl
                      have ew2 : (!(B word).toList.isEmpty) = true := by rw [ew]; rfl
                      have ew3 : word.isEmpty = false := by rw [toList_B] at ew; exact ew
                      have ew4 : (!word.isEmpty) = true := by rw [ew3]; rfl
                      have hfl : Hid (Fld.flushF word = [word]) := by show _ = _; rw [Fld.flushF, if_neg hw0]
                      clear hw0
                      go_wp2_with (at_builtin; go_loud (refine print_append_cells (w0 := w) (W := wr) w.heap.size rfl _ _ 22 9 (.string ⟨#[]⟩) 1 16 rfl Tryd.underlying22 infoStr rfl (by decide) (by decide) u5 (acc.length) _ [.string (B word)] rfl rfl rfl (by intro u hu; rw [List.mem_singleton.1 hu]; rfl) hO.out hBe.out hBe.out.size (by omega) ?_))
                      intro v8 w8 hown hbel _ _
                      have hO8 : Hid (w8.ownsRow w.heap.size 9 1 v8 (acc ++ [word]).length ((acc ++ [word]).map fun t => Value.string (B t))) := by
                        show World.ownsRow _ _ _ _ _ _ _
                        simpa [Nat.add_assoc] using hown
                      have hB8 := Lib.hid hbel
                      clear hown hbel
                      rw [← hfl.out] at hO8
                      go_wp2_with (at_builtin; go_loud (refine print_append_cells (w0 := w) (W := w8) w.heap.size rfl _ _ 22 9 (.string ⟨#[]⟩) 1 16 rfl Tryd.underlying22 infoStr rfl (by decide) (by decide) v8 ((acc ++ Fld.flushF word).length) _ [.string (B [c])] rfl rfl rfl (by intro u hu; rw [List.mem_singleton.1 hu]; rfl) hO8.out hB8.out hB8.out.size (by omega) ?_))
                      intro v9 w9 hown hbel _ _
                      have hO9 : Hid (w9.ownsRow w.heap.size 9 1 v9 ((acc ++ Fld.flushF word) ++ [[c]]).length (((acc ++ Fld.flushF word) ++ [[c]]).map fun t => Value.string (B t))) := by
                        show World.ownsRow _ _ _ _ _ _ _
                        simpa [Nat.add_assoc] using hown
                      have hB9 := Lib.hid hbel
                      clear hown hbel
                      go_wp2_with fail
                      go_roundg gk
                      case measure => omega
                      case rel => exact ⟨i + 1, by first | rfl | simp, by omega, .inl ⟨p ++ [c], r, [], acc ++ Fld.flushF word ++ [[c]], (by show _ = _; simp [hip.out]), (by show _ = _; simp [hsplit.out]), (by show _ = _; rw [← hT2.out]; simp), rfl, hO9, hB9, by simp; omega, by simp⟩⟩
                  · have d3 : decide ((i : Int) + 1 < (n : Int)) = false := by rw [decide_eq_false_iff_not]; omega
                    have hfll : (Fld.flushF word).length ≤ 1 := by unfold Fld.flushF; split <;> simp
                    have hl8 : (acc ++ Fld.flushF word).length ≤ 40000 := by rw [List.length_append]; omega
                    by_cases hw0 : word = []
                    · have ew : (B word).toList.isEmpty = true := by rw [toList_B, hw0]; rfl
                      have ew2 : (!(B word).toList.isEmpty) = false := by rw [ew]; rfl
                      have ew3 : word.isEmpty = true := by rw [hw0]; rfl
                      have ew4 : (!word.isEmpty) = false := by rw [ew3]; rfl
                      have hO8 : Hid (wr.ownsRow w.heap.size 9 1 u5 (acc ++ Fld.flushF word).length ((acc ++ Fld.flushF word).map fun t => Value.string (B t))) := by
                        rw [Fld.flushF, if_pos hw0, List.append_nil]; exact hO
                      have hB8 := hBe
                      clear hO hw0
                      go_wp2_with (at_builtin; go_loud (refine print_append_cells (w0 := w) (W := wr) w.heap.size rfl _ _ 22 9 (.string ⟨#[]⟩) 1 16 rfl Tryd.underlying22 infoStr rfl (by decide) (by decide) u5 ((acc ++ Fld.flushF word).length) _ [.string (B [c])] rfl rfl rfl (by intro u hu; rw [List.mem_singleton.1 hu]; rfl) hO8.out hB8.out hB8.out.size (by omega) ?_))
                      intro v9 w9 hown hbel _ _
                      have hO9 : Hid (w9.ownsRow w.heap.size 9 1 v9 ((acc ++ Fld.flushF word) ++ [[c]]).length (((acc ++ Fld.flushF word) ++ [[c]]).map fun t => Value.string (B t))) := by
                        show World.ownsRow _ _ _ _ _ _ _
                        simpa [Nat.add_assoc] using hown
                      have hB9 := Lib.hid hbel
                      clear hown hbel
                      go_wp2_with fail
                      go_roundg gk
                      case measure => omega
                      case rel => exact ⟨i + 1, by first | rfl | simp, by omega, .inl ⟨p ++ [c], r, [], acc ++ Fld.flushF word ++ [[c]], (by show _ = _; simp [hip.out]), (by show _ = _; simp [hsplit.out]), (by show _ = _; rw [← hT2.out]; simp), rfl, hO9, hB9, by simp; omega, by simp⟩⟩
                    · have ew : (B word).toList.isEmpty = false := by rw [toList_B]; cases hq : word with | nil => exact absurd hq hw0 | cons _ _ => rfl
                      have ew2 : (!(B word).toList.isEmpty) = true := by rw [ew]; rfl
                      have ew3 : word.isEmpty = false := by rw [toList_B] at ew; exact ew
                      have ew4 : (!word.isEmpty) = true := by rw [ew3]; rfl
                      have hfl : Hid (Fld.flushF word = [word]) := by show _ = _; rw [Fld.flushF, if_neg hw0]
                      clear hw0
                      go_wp2_with (at_builtin; go_loud (refine print_append_cells (w0 := w) (W := wr) w.heap.size rfl _ _ 22 9 (.string ⟨#[]⟩) 1 16 rfl Tryd.underlying22 infoStr rfl (by decide) (by decide) u5 (acc.length) _ [.string (B word)] rfl rfl rfl (by intro u hu; rw [List.mem_singleton.1 hu]; rfl) hO.out hBe.out hBe.out.size (by omega) ?_))
                      intro v8 w8 hown hbel _ _
                      have hO8 : Hid (w8.ownsRow w.heap.size 9 1 v8 (acc ++ [word]).length ((acc ++ [word]).map fun t => Value.string (B t))) := by
                        show World.ownsRow _ _ _ _ _ _ _
                        simpa [Nat.add_assoc] using hown
                      have hB8 := Lib.hid hbel
                      clear hown hbel
                      rw [← hfl.out] at hO8
                      go_wp2_with (at_builtin; go_loud (refine print_append_cells (w0 := w) (W := w8) w.heap.size rfl _ _ 22 9 (.string ⟨#[]⟩) 1 16 rfl Tryd.underlying22 infoStr rfl (by decide) (by decide) v8 ((acc ++ Fld.flushF word).length) _ [.string (B [c])] rfl rfl rfl (by intro u hu; rw [List.mem_singleton.1 hu]; rfl) hO8.out hB8.out hB8.out.size (by omega) ?_))
                      intro v9 w9 hown hbel _ _
                      have hO9 : Hid (w9.ownsRow w.heap.size 9 1 v9 ((acc ++ Fld.flushF word) ++ [[c]]).length (((acc ++ Fld.flushF word) ++ [[c]]).map fun t => Value.string (B t))) := by
                        show World.ownsRow _ _ _ _ _ _ _
                        simpa [Nat.add_assoc] using hown
                      have hB9 := Lib.hid hbel
                      clear hown hbel
                      go_wp2_with fail
                      go_roundg gk
                      case measure => omega
                      case rel => exact ⟨i + 1, by first | rfl | simp, by omega, .inl ⟨p ++ [c], r, [], acc ++ Fld.flushF word ++ [[c]], (by show _ = _; simp [hip.out]), (by show _ = _; simp [hsplit.out]), (by show _ = _; rw [← hT2.out]; simp), rfl, hO9, hB9, by simp; omega, by simp⟩⟩
      case inr =>
        subst hi
        have d2 : decide (((n + 1 : Nat) : Int) ≤ (n : Int)) = false := by rw [decide_eq_false_iff_not]; omega
        have d2' : decide ((n : Int) + 1 ≤ (n : Int)) = false := by rw [decide_eq_false_iff_not]; omega
        have hOo := hO.out.2
        rcases hOo with ⟨hv, h0⟩ | ⟨g, cap, cur, hv, hg, hh, hmc, hcm, hcs, htk⟩
        · subst hv
          have hTT : TT = [] := List.length_eq_zero_iff.1 h0
          have hres : Hid (refL text = ([], [], false)) := by show _ = _; rw [hP.out, hTT]; rfl
          clear hO hT0 h0 hTT
          go_wp2_with fail
          go_loopg [9] 0 (fun gk s9 wq => s9 = .int .i64 0 ∧ wq = wr)
          case atStart => exact ⟨rfl, rfl⟩
          case round =>
            obtain ⟨rfl, hwq⟩ := hrel
            subst hwq
            go_wp2_with fail
            go_loopg [10] 0 (fun gk s10 wq => s10 = .int .i64 0 ∧ wq = wr)
            case atStart => exact ⟨rfl, rfl⟩
            case round =>
              obtain ⟨rfl, hwq⟩ := hrel
              subst hwq
              go_wp2_with fail
              go_ret3
              exact ref_bad hres.out hBe.out
        · subst hv
          obtain ⟨m, hm⟩ : ∃ m, TT.length = m := ⟨_, rfl⟩
          have hgl : g < wr.heap.size := (Array.getElem?_eq_some_iff.1 hh).1
          have hcl : Hid (∀ j t, TT[j]? = some t → wr.cell? ⟨g, j, none⟩ = some (.string (B t))) := by
            intro j t hj
            rw [cell_of_heap hh]
            have hjl := (List.getElem?_eq_some_iff.1 hj).1
            have h3 : (cur.toList.take (TT.length * 1))[j]? = some (.string (B t)) := by rw [htk, List.getElem?_map, hj]; rfl
            rw [List.getElem?_take_of_lt (by omega)] at h3
            simpa using h3
          rw [hm] at hmc hO hTn ⊢
          have hm63 : m ≤ 9223372036854775807 := by have := hcm; simp [maxLen] at this; omega
          clear hh hcs htk hg
          rcases nl_split TT with ⟨hM, a, ha⟩ | ⟨a, K, x, X, y, Y, hsp, hxX, hx, hyY, hy⟩
          · have hres : Hid (refL text = ([], [], false)) := by show _ = _; rw [hP.out, hM]; rfl
            obtain rfl : m = a := by rw [← hm, ha, List.length_replicate]
            have hcl2 : Hid (∀ j, j < m → wr.cell? ⟨g, j, none⟩ = some (.string (B [10]))) := fun j hj => hcl.out j [10] (by rw [ha, List.getElem?_replicate, if_pos hj])
            clear hM ha hcl hT0 hO
            go_wp2_with fail
            go_loopg [9] m (fun gk s9 wq => ∃ j : Nat, s9 = .int .i64 (j : Int) ∧ j + gk = m ∧ wr = wq)
            case atStart => exact ⟨0, rfl, Nat.zero_add _, rfl⟩
            case round =>
              obtain ⟨j, rfl, hjk, hwq⟩ := hrel
              subst hwq
              cases gk with
              | zero =>
                obtain rfl : m = j := by omega
                have e1 : decide ((m : Int) < (m : Int)) = false := by simp
                go_wp2_with fail
                go_loopg [10] 0 (fun gk s10 wq => s10 = .int .i64 (m : Int) ∧ wr = wq)
                case atStart => exact ⟨rfl, rfl⟩
                case round =>
                  obtain ⟨rfl, hwq⟩ := hrel
                  subst hwq
                  go_wp2_with fail
                  all_goals (go_ret3; exact ref_bad hres.out hBe.out)
              | succ gk =>
                have e1 : decide ((j : Int) < (m : Int)) = true := by rw [decide_eq_true_iff]; omega
                have c1 := hcl2.out j (by omega)
                have i1 : (0 : Int) ≤ (j : Int) := by omega
                have i2 : (j : Int) < (m : Int) := by omega
                go_wp2_with fail
                go_roundg gk
                case measure => omega
                case rel => exact ⟨j + 1, by first | rfl | simp, by omega, rfl⟩
          · obtain ⟨M, hMM⟩ : ∃ M, stripT TT = M := ⟨_, rfl⟩
            rw [hMM] at hsp hxX hyY
            have hP2 : Hid (refL text = refT M) := by show _ = _; rw [hP.out, hMM]
            obtain ⟨ml, hml⟩ : ∃ ml, M.length = ml := ⟨_, rfl⟩
            have hmz : m = a + ml + K := by rw [← hm, hsp]; simp [hml]; omega
            have hm1 : a + ml + K ≤ m := by omega
            have hm2 : m ≤ a + ml + K := by omega
            clear hmz
            have hml0 : 0 < ml := by rw [← hml, hxX]; simp
            have hMl : ∀ t ∈ M, t.length ≤ 20000 := fun t ht => hTL.out t (by rw [hsp]; simp [ht])
            have cL : Hid (∀ j, j < a → wr.cell? ⟨g, j, none⟩ = some (.string (B [10]))) := fun j hj => hcl.out j [10] (by rw [hsp, List.append_assoc, List.getElem?_append_left (by simpa using hj), List.getElem?_replicate, if_pos hj])
            have cM : Hid (∀ j (h : j < M.length), wr.cell? ⟨g, a + j, none⟩ = some (.string (B M[j]))) := fun j hj => hcl.out (a + j) M[j] (by
              rw [hsp, List.append_assoc, List.getElem?_append_right (by simp), List.length_replicate, Nat.add_sub_cancel_left, List.getElem?_append_left hj, List.getElem?_eq_getElem hj])
            have cR : Hid (∀ j, j < K → wr.cell? ⟨g, a + ml + j, none⟩ = some (.string (B [10]))) := fun j hj => hcl.out (a + ml + j) [10] (by
              rw [hsp, List.getElem?_append_right (by simp [hml]), List.length_append, List.length_replicate, hml, Nat.add_sub_cancel_left, List.getElem?_replicate, if_pos hj])
            have cx : wr.cell? ⟨g, a, none⟩ = some (.string (B x)) := by
              have h := cM.out 0 (by omega)
              rw [Nat.add_zero] at h
              rw [h]; simp [hxX]
            have cy : wr.cell? ⟨g, a + ml - 1, none⟩ = some (.string (B y)) := by
              have h := cM.out (ml - 1) (by omega)
              rw [show a + (ml - 1) = a + ml - 1 by omega] at h
              have hl : M.length = Y.length + 1 := by rw [hyY]; simp
              rw [h]
              simp only [hyY]
              rw [List.getElem_append_right (by omega)]
              simp
            have x10 : (x == [10]) = false := hx
            have y10 : (y == [10]) = false := hy
            have hMH := Lib.hid hMl
            have hlH := Lib.hid hml
            clear hsp hyY hx hy hcl hT0 hO hP hTL hMl hMM hml
            go_wp2_with fail
            go_loopg [9] a (fun gk s9 wq => ∃ j : Nat, s9 = .int .i64 (j : Int) ∧ j + gk = a ∧ wr = wq)
            case atStart => exact ⟨0, rfl, Nat.zero_add _, rfl⟩
            case round =>
              obtain ⟨j, rfl, hjk, hwq⟩ := hrel
              subst hwq
              have e1 : decide ((j : Int) < (m : Int)) = true := by rw [decide_eq_true_iff]; omega
              have i1 : (0 : Int) ≤ (j : Int) := by omega
              have i2 : (j : Int) < (m : Int) := by omega
              cases gk with
              | zero =>
                obtain rfl : a = j := by omega
                go_wp2_with fail
                go_loopg [10] K (fun gk s10 wq => s10 = .int .i64 ((a + ml + gk : Nat) : Int) ∧ gk ≤ K ∧ wr = wq)
                case atStart => exact ⟨by first | (congr 1; omega) | (simp; omega), Nat.le_refl _, rfl⟩
                case round =>
                  obtain ⟨rfl, hgK, hwq⟩ := hrel
                  subst hwq
                  have e2 : decide ((a : Int) < ((a + ml + gk : Nat) : Int)) = true := by rw [decide_eq_true_iff]; omega
                  obtain ⟨z, hz⟩ : ∃ z, a + ml + gk = z + 1 := ⟨a + ml + gk - 1, by omega⟩
                  have hzz : (((a + ml + gk : Nat) : Int)) = (z : Int) + 1 := by omega
                  rw [hzz] at e2
                  rw [hzz]
                  have hz1 : a + ml + gk ≤ z + 1 := by omega
                  have hz2 : z + 1 ≤ a + ml + gk := by omega
                  clear hz hzz
                  have i3 : (0 : Int) ≤ (z : Int) := by omega
                  have i4 : (z : Int) < (m : Int) := by omega
                  cases gk with
                  | zero =>
                    have cz : wr.cell? ⟨g, z, none⟩ = some (.string (B y)) := by rw [← cy]; congr 2; omega
                    have hzl : z + 1 - a = ml := by omega
                    have hlen : M.length = X.length + 1 := by rw [hxX]; rfl
                    have hXl : ml = X.length + 1 := by rw [← hlH.out]; exact hlen
                    clear cy cL cR hlen
                    cases X with
                    | nil =>
                      have l2 : decide ((ml : Int) < 2) = true := by rw [decide_eq_true_iff, hXl]; simp
                      have hres : Hid (refL text = ([], [], false)) := by show _ = _; rw [hP2.out, hxX]; rfl
                      clear hXl
                      go_wp2_with fail
                      go_ret3
                      exact ref_bad hres.out hBe.out
                    | cons b R =>
                      have l2 : decide ((ml : Int) < 2) = false := by rw [decide_eq_false_iff_not, hXl]; simp; omega
                      have i5 : (1 : Int) < (ml : Int) := by rw [hXl]; simp; omega
                      have i6 : (0 : Int) < (ml : Int) := by omega
                      have hR1 : ml ≤ R.length + 2 := by rw [hXl]; simp
                      have hR2 : R.length + 2 ≤ ml := by rw [hXl]; simp
                      have cb : wr.cell? ⟨g, a + 1, none⟩ = some (.string (B b)) := by
                        have h := cM.out 1 (by rw [hlH.out]; omega)
                        rw [h]; simp [hxX]
                      have cR : Hid (∀ j (h : j < R.length), wr.cell? ⟨g, a + (2 + j), none⟩ = some (.string (B R[j]))) := fun j hj => by
                        have h := cM.out (2 + j) (by rw [hlH.out]; omega)
                        rw [h]
                        simp only [hxX]
                        rw [List.getElem_cons, dif_neg (by omega)]
                        simp only [show 2 + j - 1 = j + 1 by omega, List.getElem_cons_succ]
                      have hxl := hMH.out x (by rw [hxX]; simp)
                      have hRL : Hid (∀ t ∈ R, t.length ≤ 20000) := fun t ht => hMH.out t (by rw [hxX]; simp [ht])
                      have hP3 : Hid (refL text = if x = [58] ∨ b ≠ [58] then ([], [], false) else if (cleanL x).2 ≠ 0 then ([], [], false) else ansR (cleanL x).1 (depsR R [])) := by
                        show _ = _; rw [hP2.out, hxX, refT]
                      clear hXl hP2 hxX hMH cM hlH
                      by_cases hx58 : x = [58]
                      · have x58 : (x == [58]) = true := by rw [hx58]; rfl
                        have hres : Hid (refL text = ([], [], false)) := by show _ = _; rw [hP3.out, if_pos (.inl hx58)]
                        clear hx58
                        go_wp2_with fail
                        go_ret3
                        exact ref_bad hres.out hBe.out
                      · have x58 : (x == [58]) = false := by rw [beq_eq_false_iff_ne]; exact hx58
                        by_cases hb58 : b = [58]
                        · have b58 : (b == [58]) = true := by rw [hb58]; rfl
                          have b58n : (b != [58]) = false := by rw [hb58]; rfl
                          have hP4 : Hid (refL text = if (cleanL x).2 ≠ 0 then ([], [], false) else ansR (cleanL x).1 (depsR R [])) := by
                            show _ = _; rw [hP3.out, if_neg (by rw [not_or, Classical.not_not]; exact ⟨hx58, hb58⟩)]
                          clear hx58 hb58 hP3
                          go_wp2_with fail
                          have hCo := Lib.hid (fun W => refClean_any x W)
                          have hP5 : Hid (refL text = if (cleanL x).2 ≠ 0 then ([], [], false) else ansR (cleanL x).1 (depsR R [])) := hP4.out
                          clear hP4
                          generalize cleanL x = co at *
                          obtain ⟨oc, oe⟩ := co
                          try simp only at hP5 hCo
                          refine (hCo.out _).mono ?_
                          rintro e w3 ⟨rfl, hb3⟩
                          have hB3 := Lib.hid (belowN hBe.out hb3)
                          have hg3 : g < w3.heap.size := Nat.lt_of_lt_of_le hgl hb3.size
                          have cR3 : Hid (∀ j (h : j < R.length), w3.cell? ⟨g, a + (2 + j), none⟩ = some (.string (B R[j]))) := fun j hj => (hb3.cell (p := ⟨g, a + (2 + j), none⟩) hgl).trans (cR.out j hj)
                          clear hb3 hCo cR
                          by_cases ho : oe = 0
                          case neg =>
                            have dd : (oe != 0) = true := by simpa using ho
                            have hres : Hid (refL text = ([], [], false)) := by show _ = _; rw [hP5.out, if_pos ho]
                            go_wp2_with fail
                            go_ret3
                            exact ref_bad hres.out hB3.out
                          case pos =>
                            subst ho
                            obtain ⟨RR, hRR⟩ : ∃ RR, depsR R [] = RR := ⟨_, rfl⟩
                            have hPR : Hid (refL text = ansR oc RR) := by show _ = _; rw [hP5.out, if_neg (by simp), hRR]
                            have hDR := Lib.hid hRR
                            obtain ⟨rl, hrl⟩ : ∃ rl, R.length = rl := ⟨_, rfl⟩
                            rw [hrl] at hR1 hR2
                            have hrH := Lib.hid hrl
                            have hrl4 : rl + 2 ≤ 9223372036854775807 := by omega
                            clear hP5 hRR hrl
                            have hw3s := hB3.out.size
                            go_wp2_with fail
                            go_loopg [13, 14] rl (fun gk s13 s14 wq => ∃ (j : Nat) (acc : List Txt), s14 = .int .i64 ((2 + j : Nat) : Int) ∧ j + gk = rl ∧ Hid (depsR (R.drop j) acc = RR) ∧
                              Hid (wq.ownsRow w3.heap.size 9 1 s13 acc.length (acc.map fun x => Value.string (B x))) ∧ Hid (Below w3.heap.size w3 wq) ∧ acc.length ≤ j)
                            case atStart => exact ⟨0, [], rfl, Nat.zero_add _, hDR, own_nil _ _ _ _, Below.refl _ _, Nat.le_refl _⟩
                            case round =>
                              obtain ⟨w4, hw4⟩ : ∃ x, x = wr := ⟨_, rfl⟩
                              subst hw4
                              obtain ⟨j, acc, rfl, hjk, hG, hO, hB4, haj⟩ := hrel
                              cases gk with
                              | zero =>
                                obtain rfl : rl = j := by omega
                                have hfin : Hid (refL text = (oc, acc, true)) := by
                                  have : RR = some acc := by rw [← hG.out, ← hrH.out, List.drop_length]; rfl
                                  show _ = _
                                  rw [hPR.out, this]; rfl
                                have e3 : decide (((2 + rl : Nat) : Int) < (ml : Int)) = false := by rw [decide_eq_false_iff_not]; omega
                                obtain ⟨z2, hz2⟩ : ∃ z2, 2 + rl = z2 := ⟨_, rfl⟩
                                have hz6 : ml ≤ z2 := by omega
                                rw [hz2] at e3 ⊢
                                have e4 : (z2 < ml) = False := eq_false (by omega)
                                have e5 : ¬ z2 < ml := by omega
                                clear hz2
                                go_wp2_with fail
                                go_ret3
                                refine ⟨belowN hB3.out hB4.out, u13, ?_, ?_⟩
                                · rw [hfin.out]; rfl
                                · rw [hfin.out]
                                  exact Kd.R_lower (Kd.R_of_own (enc := Value.string) (by simpa [encs, Function.comp_def] using hO.out) (fun _ _ => trivial)) hw3s
                              | succ gk =>
                                have hjn : j < R.length := by rw [hrH.out]; omega
                                obtain ⟨p, hp⟩ : ∃ p, R[j] = p := ⟨_, rfl⟩
                                have hdr : R.drop j = p :: R.drop (j + 1) := by rw [List.drop_eq_getElem_cons hjn, hp]
                                have e3 : decide (((2 + j : Nat) : Int) < (ml : Int)) = true := by rw [decide_eq_true_iff]; omega
                                have i7 : (0 : Int) ≤ ((2 + j : Nat) : Int) := by omega
                                have i8 : ((2 + j : Nat) : Int) < (ml : Int) := by omega
                                have cp : w4.cell? ⟨g, a + (2 + j), none⟩ = some (.string (B p)) := by
                                  rw [hB4.out.cell (p := ⟨g, a + (2 + j), none⟩) hg3, cR3.out j hjn, hp]
                                have hG2 : Hid ((if p = [58] ∨ p = [10] ∨ (cleanL p).2 ≠ 0 then none else if (cleanL p).1 ∈ acc then depsR (R.drop (j + 1)) acc else depsR (R.drop (j + 1)) (acc ++ [(cleanL p).1])) = RR) := by
                                  show _ = _
                                  rw [← hG.out, hdr, depsR]
                                have hCp := Lib.hid (fun W => refClean_any p W)
                                have hcp := clean_len p
                                clear hG hdr hp
                                generalize cleanL p = cq at *
                                obtain ⟨c, e⟩ := cq
                                try simp only at hG2 hCp hcp
                                obtain ⟨z2, hz2⟩ : ∃ z2, 2 + j = z2 := ⟨_, rfl⟩
                                have hz3 := Lib.hid hz2
                                have hz4 : z2 ≤ 2 + j := by omega
                                have hz5 : 2 + j ≤ z2 := by omega
                                rw [hz2] at e3 i7 i8 cp ⊢
                                clear hz2
                                go_wp2_with fail
                                refine (hCp.out _).mono ?_
                                rintro e w5 ⟨rfl, hb5⟩
                                have hB5 := Lib.hid (belowN hB4.out hb5)
                                have hO5 := Lib.hid (pw_own_below hO.out hb5)
                                have hg4 : g < w4.heap.size := Nat.lt_of_lt_of_le hg3 hB4.out.size
                                have cp5 := (hb5.cell (p := ⟨g, a + z2, none⟩) hg4).trans cp
                                clear hb5 cp hO hB4
                                by_cases hp58 : p = [58]
                                · have p58 : (p == [58]) = true := by rw [hp58]; rfl
                                  have hres : Hid (refL text = ([], [], false)) := by show _ = _; rw [hPR.out, ← hG2.out, if_pos (.inl hp58)]; rfl
                                  clear hp58 hG2
                                  go_wp2_with fail
                                  go_ret3
                                  exact ref_bad hres.out (belowN hB3.out hB5.out)
                                · have p58 : (p == [58]) = false := by rw [beq_eq_false_iff_ne]; exact hp58
                                  by_cases hp10 : p = [10]
                                  · have p10 : (p == [10]) = true := by rw [hp10]; rfl
                                    have hres : Hid (refL text = ([], [], false)) := by show _ = _; rw [hPR.out, ← hG2.out, if_pos (.inr (.inl hp10))]; rfl
                                    clear hp58 hp10 hG2
                                    go_wp2_with fail
                                    go_ret3
                                    exact ref_bad hres.out (belowN hB3.out hB5.out)
                                  · have p10 : (p == [10]) = false := by rw [beq_eq_false_iff_ne]; exact hp10
                                    by_cases he0 : e = 0
                                    case neg =>
                                      have dd : (e != 0) = true := by simpa using he0
                                      have hres : Hid (refL text = ([], [], false)) := by show _ = _; rw [hPR.out, ← hG2.out, if_pos (.inr (.inr he0))]; rfl
                                      clear hp58 hp10 hG2
                                      go_wp2_with fail
                                      go_ret3
                                      exact ref_bad hres.out (belowN hB3.out hB5.out)
                                    case pos =>
                                      subst he0
                                      have hng : ¬ (p = [58] ∨ p = [10] ∨ (0 : Int) ≠ 0) := by rw [not_or, not_or]; exact ⟨hp58, hp10, by simp⟩
                                      have hG3 : Hid ((if c ∈ acc then depsR (R.drop (j + 1)) acc else depsR (R.drop (j + 1)) (acc ++ [c])) = RR) := by
                                        show _ = _
                                        rw [← hG2.out, if_neg hng]
                                      have hrl20 : acc.length < 100000 := by have := hTn.out; omega
                                      have hIn := Lib.hid (In_any acc c hrl20 u13 w3.heap.size 9 w5 hO5.out)
                                      clear hp58 hp10 hG2
                                      go_wp2_with fail
                                      refine (hIn.out).mono ?_
                                      rintro e w6 ⟨rfl, hb6⟩
                                      have hB6 := Lib.hid (belowN hB5.out hb6)
                                      have hO6 := Lib.hid (pw_own_below hO5.out hb6)
                                      clear hb6 hIn
                                      by_cases hmem : c ∈ acc
                                      · have hG4 : Hid (depsR (R.drop (j + 1)) acc = RR) := by show _ = _; rw [← hG3.out, if_pos hmem]
                                        rw [decide_eq_true hmem]
                                        clear hmem
                                        go_wp2_with fail
                                        go_roundg gk
                                        case measure => omega
                                        case rel => exact ⟨j + 1, acc, by first | rfl | (congr 1; omega) | (simp; omega), by omega, hG4, hO6, hB6, by omega⟩
                                      · have hG4 : Hid (depsR (R.drop (j + 1)) (acc ++ [c]) = RR) := by show _ = _; rw [← hG3.out, if_neg hmem]
                                        rw [decide_eq_false hmem]
                                        clear hmem
                                        go_wp2_with (at_builtin; go_loud (refine print_append_cells (w0 := w3) (W := w6) w3.heap.size rfl _ _ 22 9 (.string ⟨#[]⟩) 1 16 rfl Tryd.underlying22 infoStr rfl (by decide) (by decide) u13 acc.length _ [.string (B c)] rfl rfl rfl (by intro u hu; rw [List.mem_singleton.1 hu]; rfl) hO6.out hB6.out hB6.out.size (by omega) ?_))
                                        intro v7 w7 hown hb7 _ _
                                        have hO7 : Hid (w7.ownsRow w3.heap.size 9 1 v7 (acc ++ [c]).length ((acc ++ [c]).map fun x => Value.string (B x))) := by
                                          show World.ownsRow _ _ _ _ _ _ _
                                          simpa using hown
                                        have hB7 := Lib.hid hb7
                                        clear hown hb7
                                        go_wp2_with fail
                                        go_roundg gk
                                        case measure => omega
                                        case rel => exact ⟨j + 1, acc ++ [c], by first | rfl | (congr 1; omega) | (simp; omega), by omega, hG4, hO7, hB7, by simp; omega⟩
                        · have b58 : (b == [58]) = false := by rw [beq_eq_false_iff_ne]; exact hb58
                          have b58n : (b != [58]) = true := by rw [bne, b58]; rfl
                          have hres : Hid (refL text = ([], [], false)) := by show _ = _; rw [hP3.out, if_pos (.inr hb58)]
                          clear hx58 hb58
                          go_wp2_with fail
                          go_ret3
                          exact ref_bad hres.out hBe.out
                  | succ gk =>
                    have cz : wr.cell? ⟨g, z, none⟩ = some (.string (B [10])) := by rw [← cR.out gk (by omega)]; congr 2; omega
                    go_wp2_with fail
                    go_roundg gk
                    case measure => omega
                    case rel => exact ⟨by congr 1; omega, by omega, rfl⟩
              | succ gk =>
                have c1 := cL.out j (by omega)
                go_wp2_with fail
                go_roundg gk
                case measure => omega
                case rel => exact ⟨j + 1, by first | rfl | simp, by omega, rfl⟩
/-- bellowsref14.Parse, in the print's shape. -/
def bellowsref14_Parse.f (a0 : ByteArray) : Option (ByteArray × List ByteArray × Bool) := some (B (refL a0.data.toList).1, (refL a0.data.toList).2.1.map B, (refL a0.data.toList).2.2)
theorem bellowsref14_Parse.calls (a0 : ByteArray) (r1 : ByteArray) (r2 : List ByteArray) (r3 : Bool) (w : World) (h : bellowsref14_Parse.f a0 = some (r1, r2, r3)) :
    Calls Tryd.prog 7 #[.string a0] w fun e w' => ∃ v0_ : Value, e = .returned (.tuple #[.string r1, v0_, .bool r3]) ∧ Kd.R Kd.string 9 w' w.heap.size (fun _ => True) v0_ r2 ∧ Below w.heap.size w w' := by
  have h' := Option.some.inj h
  have e1 : B (refL a0.data.toList).1 = r1 := congrArg (·.1) h'
  have e2 : (refL a0.data.toList).2.1.map B = r2 := congrArg (·.2.1) h'
  have e3 : (refL a0.data.toList).2.2 = r3 := congrArg (·.2.2) h'
  have := RefParse_any a0.data.toList w
  rw [← B_of] at this
  refine this.mono ?_
  rintro e w' ⟨hb, v, rfl, hR⟩
  subst e1 e2 e3
  exact ⟨v, rfl, hR, hb⟩
end Go.Proofs.YtaocdnebglnkeaaDoor.P
