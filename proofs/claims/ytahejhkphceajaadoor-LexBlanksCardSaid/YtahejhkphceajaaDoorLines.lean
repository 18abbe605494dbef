/- lex.Lines walked: what it answers for any text is linesL. -/
import Derived.Test.YtahejhkphceajaaDoorLinesC
import Derived.OwnWalk
import Derived.Laws.AppendOwn
import Derived.Maps.AppendAt
import Derived.Below
set_option linter.unusedSimpArgs false
set_option linter.unusedVariables false
namespace Go.Proofs.YtahejhkphceajaaDoor.Ln
open Go.RowKit Go.Lib Go.Shelf Go.Proofs.YtahejhkphceajaaDoorW.PrintWords Go.Proofs.YtahejhkphceajaaDoor.U Go.Proofs.YtahejhkphceajaaDoor.Idx

theorem infoLine : (Tryd.prog.info? 35).map (fun i => (i.zero, i.size, i.bytes)) = some (some (.agg #[.bool false, .string ⟨#[]⟩, .int .i64 0]), 3, 32) := by kernel_rfl
def lcells (o : LineT) : List Value := [.bool o.inner, .string (B o.text), .int .i64 (o.num : Int)]
theorem set_text {w : World} {b : Nat} {x y z u : Value} {t : TypeId} (h : w.heap[b]? = some (.cells #[x, y, z] t (0, 0))) : (w.setCell ⟨b, 1, none⟩ u).heap[b]? = some (.cells #[x, u, z] t (0, 0)) := by
  have hlt := (Array.getElem?_eq_some_iff.1 h).1
  have h' : w.heap[b] = .cells #[x, y, z] t (0, 0) := by simpa [Array.getElem?_eq_getElem hlt] using h
  show (w.heap.modify b _)[b]? = _
  rw [Array.getElem?_eq_getElem (by simpa using hlt), Array.getElem_modify_self, h']
  rfl
def IsOpen (w : World) (base : Nat) (op : Option LineT) (v out : Value) : Prop :=
  match op with
  | none => v = .pointer none
  | some o => ∃ b, base ≤ b ∧ v = .pointer (some ⟨b, 0, none⟩) ∧ w.heap[b]? = some (.cells (lcells o).toArray 35 (0, 0)) ∧ out.ownBlock ≠ some b
theorem _root_.Go.RowKit.Below.next {a b c : World} (h : Below a.heap.size a b) (k : Below b.heap.size b c) : Below a.heap.size a c := h.trans (k.mono h.size)
theorem spl_le (c : UInt8) (l : Txt) : ∀ p ∈ spl c l, p.length ≤ l.length := by
  induction l with
  | nil => intro p hp; simp [spl] at hp; subst hp; simp
  | cons b l ih =>
    rw [spl]
    by_cases hb : b = c
    · rw [if_pos hb]
      intro p hp
      rcases List.mem_cons.1 hp with rfl | hp
      · simp
      · have := ih p hp; simp; omega
    · rw [if_neg hb]
      cases h : spl c l with
      | nil => exact absurd h (spl_ne c l)
      | cons q qs =>
        rw [h] at ih
        intro p hp
        rcases List.mem_cons.1 hp with rfl | hp
        · have := ih q (by simp); simpa using this
        · have := ih p (by simp [hp]); simp; omega
set_option maxRecDepth 100000 in
set_option maxHeartbeats 4000000 in
theorem Lines_long (l : Txt) (h : 16384 < l.length) (w : World) :
    Calls Tryd.prog 6 #[.string (B l)] w fun e w' => e = .returned (.tuple #[.slice none 0 0, .int .i64 0, .int .i64 3]) ∧ w = w' := by
  have s1 : (B l).size = l.length := size_B l
  have d1 : decide ((16384 : Int) < (l.length : Int)) = true := by rw [decide_eq_true_iff]; omega
  go_enter Tryd.func6, Tryd.ntmps6
  go_wp2_with fail
  go_step3
  go_wp2_with fail
  rw [Exit.noGoto_ret]
  exact bodyPost_ret (v := .tuple #[.slice none 0 0, .int .i64 0, .int .i64 3]) (by simp [results, Tryd.results6, go_sem]) rfl ⟨rfl, rfl⟩
set_option maxRecDepth 100000 in
set_option maxHeartbeats 4000000 in
theorem Lines_any (l : Txt) (h : l.length ≤ 16384) (w : World) (hm : ∃ m, w.cell? ⟨0, 0, none⟩ = some (.int .i64 m)) :
    Calls Tryd.prog 6 #[.string (B l)] w fun e w' => ∃ v, e = .returned (.tuple #[v, .int .i64 ((linesL l).2.1 : Int), .int .i64 (linesL l).2.2]) ∧ Below w.heap.size w w' ∧
      w'.ownsRow (w.heap.size + 1) 35 3 v (linesL l).1.length ((linesL l).1.flatMap lcells) := by
  have s1 : (B l).size = l.length := size_B l
  have d1 : decide ((16384 : Int) < (l.length : Int)) = false := by rw [decide_eq_false_iff_not]; omega
  obtain ⟨R, hR⟩ : ∃ R, linesGo (spl 10 l).length (spl 10 l) 0 [] none = R := ⟨_, rfl⟩
  have hRes : linesL l = resL R := by
    rw [linesL, if_neg (by omega), hR]
  have hle := spl_le 10 l
  have hSp := Lib.hid (Split_any 10 l (by omega) w hm)
  have hRR := Lib.hid hR
  have hRS := Lib.hid hRes
  have hne := spl_ne 10 l
  have hcnt : (spl 10 l).length ≤ l.length + 1 := by rw [spl_len]; have := List.count_le_length (a := (10 : UInt8)) (l := l); omega
  clear hR hRes
  generalize spl 10 l = ps at *
  obtain ⟨N, hN⟩ : ∃ N, ps.length = N := ⟨_, rfl⟩
  rw [hN] at hSp hcnt
  go_enter Tryd.func6, Tryd.ntmps6
  go_wp2_with fail
  go_step3
  go_wp2_with fail
  refine hSp.out.mono ?_
  rintro e w1 ⟨rfl, hw1⟩
  have hB1 : Hid (Below w.heap.size w w1) := by rw [← hw1]; exact (Below.refl _ w).alloc (Nat.le_refl _) _
  have hP1 : Hid (w1.heap[w.heap.size]? = some (.cells ((ps.map B).map Value.string).toArray 9 (0, 0))) := by rw [← hw1]; exact heap_alloc_new _ _
  have hS1 : Hid (w1.heap.size = w.heap.size + 1) := by show _ = _; rw [← hw1]; simp
  clear hw1 hSp
  go_wp2_with fail
  go_step3
  go_wp2_with fail
  go_loopg [7, 8, 18] N (fun gk s7 s8 s18 wr => ∃ (i : Nat) (out : List LineT) (op : Option LineT) (v7 v8 : Value), s18 = .int .i64 (i : Int) ∧ s7 = v7 ∧ s8 = v8 ∧ i + gk = N ∧ Hid (linesGo N (ps.drop i) i out op = R) ∧
    Hid (wr.ownsRow (w.heap.size + 1) 35 3 v7 out.length (out.flatMap lcells)) ∧ Hid (IsOpen wr (w.heap.size + 1) op v8 v7) ∧ Hid (Below w.heap.size w wr) ∧
    Hid (wr.heap[w.heap.size]? = some (.cells ((ps.map B).map Value.string).toArray 9 (0, 0))) ∧ out.length ≤ i ∧ Hid (∀ o, op = some o → o.text.length ≤ 16384 * i))
  case atStart => exact ⟨0, [], none, _, _, rfl, rfl, rfl, Nat.zero_add _, by show _ = _; rw [← hRR.out, hN]; rfl, own_nil _ _ _ _, rfl, hB1.out, hP1.out, Nat.le_refl _, fun o h => by cases h⟩
  case round =>
    obtain ⟨i, out, op, v7, v8, rfl, h7, h8, hik, hG, hOw, hOp, hBw, hPs, hoi, hTx⟩ := hrel
    subst h7
    cases gk with
    | zero =>
      obtain rfl : i = N := by omega
      have hfin : Hid (R = .ok out) := by
        show _ = _
        rw [← hG.out, ← hN, List.drop_length]; rfl
      have hlt : decide ((i : Int) < (i : Int)) = false := by simp
      go_wp2_with fail
      rw [Exit.noGoto_ret]
      refine bodyPost_ret (v := .tuple #[_, .int .i64 0, .int .i64 0]) (by simp [results, Tryd.results6, go_sem] <;> rfl) rfl ?_
      rw [hRS.out, hfin.out]
      exact ⟨_, rfl, hBw.out, hOw.out⟩
    | succ gk =>
      have hiN : i < ps.length := by omega
      obtain ⟨s, hs⟩ : ∃ s, ps[i] = s := ⟨_, rfl⟩
      have hdr : ps.drop i = s :: ps.drop (i + 1) := by rw [List.drop_eq_getElem_cons hiN, hs]
      have hsl : s.length ≤ 16384 := by rw [← hs]; exact Nat.le_trans (hle _ (List.getElem_mem hiN)) h
      have hcell : wr.cell? ⟨w.heap.size, i, none⟩ = some (.string (B s)) := by
        rw [cell_of_heap hPs.out]
        simp [hiN, hs]
      have hlt : decide ((i : Int) < (N : Int)) = true := by rw [decide_eq_true_iff]; omega
      have hG2 : Hid (linesGo N (s :: ps.drop (i + 1)) i out op = R) := by rw [← hdr]; exact hG.out
      have hBad := Lib.hid (bad_any s)
      have ss : (B s).size = s.length := size_B s
      clear hG
      cases hok : okL s with
      | false =>
        have hfin : Hid (R = .error (i + 1)) := by
          show _ = _
          rw [← hG2.out, linesGo, if_pos hok]
        rw [hok] at hBad
        go_wp2_with fail
        refine (hBad.out _).mono ?_
        rintro e w2 ⟨rfl, hb2⟩
        have hB2 := Lib.hid (hBw.out.next hb2)
        clear hb2
        go_wp2_with fail
        rw [Exit.noGoto_ret]
        refine bodyPost_ret (v := .tuple #[.slice none 0 0, .int .i64 ((i + 1 : Nat) : Int), .int .i64 10]) (by simp [results, Tryd.results6, go_sem]) rfl ?_
        rw [hRS.out, hfin.out]
        exact ⟨_, rfl, hB2.out, own_nil _ _ _ _⟩
      | true =>
        rw [hok] at hBad
        have hEm := Lib.hid (empty_any s)
        have hUn := Lib.hid (unpaired_any s (by omega))
        cases op with
        | none =>
          obtain rfl : v8 = .pointer none := hOp.out
          subst h8
          cases hem : emptyL s with
          | true =>
            rw [hem] at hEm
            have hG3 : Hid (linesGo N (ps.drop (i + 1)) (i + 1) out none = R) := by
              show _ = _
              rw [← hG2.out, linesGo, if_neg (by simp [hok]), if_pos ⟨rfl, hem⟩]
            go_wp2_with fail
            refine (hBad.out _).mono ?_
            rintro e w2 ⟨rfl, hb2⟩
            have hB2 := Lib.hid (hBw.out.next hb2)
            have hg2 : wr.grownBy w2 none := ⟨hb2.os, hb2.tape, hb2.output, hb2.size, fun k hk _ => hb2.block k hk⟩
            have hO2 := Lib.hid (hOw.out.kept hg2 (Classical.em _))
            have hP2 := Lib.hid ((hb2.block _ (Array.getElem?_eq_some_iff.1 hPs.out).1).trans hPs.out)
            clear hb2 hg2
            go_wp2_with fail
            refine (hEm.out _).mono ?_
            rintro e w3 ⟨rfl, rfl⟩
            go_wp2_with fail
            go_roundg gk
            case measure => omega
            case rel => exact ⟨i + 1, out, none, _, _, rfl, rfl, rfl, by omega, hG3, hO2, rfl, hB2, hP2, by omega, fun o h => by cases h⟩
          | false =>
            rw [hem] at hEm
            obtain ⟨c, r, hcr⟩ : ∃ c r, s = c :: r := by
              cases s with
              | nil => exact absurd hem (by decide)
              | cons c r => exact ⟨c, r, rfl⟩
            subst hcr
            have h0 : ∀ h : 0 < (B (c :: r)).size, (((B (c :: r))[0]'h).toNat : Int) = (c.toNat : Int) := fun h => rfl
            have hsB : (B (c :: r)).size = r.length + 1 := by rw [size_B]; rfl
            have hcl := c.toNat_lt
            go_wp2_with fail
            refine (hBad.out _).mono ?_
            rintro e w2 ⟨rfl, hb2⟩
            have hB2 := Lib.hid (hBw.out.next hb2)
            have hg2 : wr.grownBy w2 none := ⟨hb2.os, hb2.tape, hb2.output, hb2.size, fun k hk _ => hb2.block k hk⟩
            have hO2 := Lib.hid (hOw.out.kept hg2 (Classical.em _))
            have hP2 := Lib.hid ((hb2.block _ (Array.getElem?_eq_some_iff.1 hPs.out).1).trans hPs.out)
            clear hb2 hg2
            go_wp2_with fail
            refine (hEm.out _).mono ?_
            rintro e w3 ⟨rfl, rfl⟩
            go_wp2_with fail
            have hTr := Lib.hid (trimmed_any (c :: r) (by omega))
            have hnew : (w2.alloc (.cells #[.bool ((c.toNat : Int) == 32), .string (B (c :: r)), .int .i64 ((i : Int) + 1)] 35)).heap[w2.heap.size]? = some (.cells #[.bool ((c.toNat : Int) == 32), .string (B (c :: r)), .int .i64 ((i : Int) + 1)] 35 (0, 0)) := heap_alloc_new _ _
            have c1 := cell_of_heap hnew 1
            have f1 := frozen_of_heap hnew 1
            have hO3 := Lib.hid (hO2.out.alloc (.cells #[.bool ((c.toNat : Int) == 32), .string (B (c :: r)), .int .i64 ((i : Int) + 1)] 35))
            cases hod : oddL (c :: r) with
            | true =>
              rw [hod] at hUn
              refine (hUn.out _).mono ?_
              rintro e w3 ⟨rfl, rfl⟩
              have hw0 : ((i : Int) + 1 == (N : Int)) = decide (i + 1 = N) := by rw [Bool.eq_iff_iff, beq_iff_eq, decide_eq_true_iff]; omega
              by_cases hlast : i + 1 = N
              · have hd : ((i : Int) + 1 == (N : Int)) = true := by rw [hw0, decide_eq_true hlast]
                have hfin : Hid (R = .error (i + 1)) := by
                  show _ = _
                  rw [← hG2.out, linesGo, if_neg (by simp [hok]), if_neg (by simp [hem]), if_pos hod, if_pos hlast]
                go_wp2_with fail
                rw [Exit.noGoto_ret]
                refine bodyPost_ret (v := .tuple #[.slice none 0 0, .int .i64 ((i + 1 : Nat) : Int), .int .i64 10]) (by simp [results, Tryd.results6, go_sem]) rfl ?_
                rw [hRS.out, hfin.out]
                exact ⟨_, rfl, hB2.out.alloc hB2.out.size _, own_nil _ _ _ _⟩
              · have hd : ((i : Int) + 1 == (N : Int)) = false := by rw [hw0, decide_eq_false hlast]
                go_wp2_with fail
                go_region
                go_wp2_with fail
                have hEx : (B (c :: r)).extract 0 r.length = B ((c :: r).dropLast) := by
                  rw [extract_B, List.drop_zero, List.dropLast_eq_take]; rfl
                have hin : ((c.toNat : Int) == 32) = ((c :: r).head? == some 32) := by
                  rw [Bool.eq_iff_iff, beq_iff_eq, beq_iff_eq, List.head?_cons, Option.some.injEq]
                  exact toNat_eq c 32 (by decide)
                have hG3 : Hid (linesGo N (ps.drop (i + 1)) (i + 1) out (some ⟨(c.toNat : Int) == 32, (c :: r).dropLast, i + 1⟩) = R) := by
                  show _ = _
                  rw [← hG2.out, linesGo, if_neg (by simp [hok]), if_neg (by simp [hem]), if_pos hod, if_neg hlast, hin]
                  rfl
                have hsz2 := hB2.out.size
                have hhs2 := (Array.getElem?_eq_some_iff.1 hP2.out).1
                go_roundg gk
                case measure => omega
                case rel =>
                  refine ⟨i + 1, out, some ⟨(c.toNat : Int) == 32, (c :: r).dropLast, i + 1⟩, _, _, rfl, rfl, rfl, by omega, hG3, (hO2.out.alloc _).drew, ?_, (hB2.out.alloc hB2.out.size _).drew, ?_, by omega, ?_⟩
                  · refine ⟨w2.heap.size, by omega, rfl, (heap_alloc_new w2 _).trans (by rw [hEx]; rfl), fun e => by have := (hO2.out.lt _ e).2; simp at this⟩
                  · exact (Below.heap_alloc _ _ _ (Array.getElem?_eq_some_iff.1 hP2.out).1).trans hP2.out
                  · intro o ho
                    obtain rfl := Option.some.inj ho
                    show ((c :: r).dropLast).length ≤ 16384 * (i + 1)
                    rw [List.length_dropLast]; simp at hsl ⊢; omega
            | false =>
              rw [hod] at hUn
              refine (hUn.out _).mono ?_
              rintro e w3 ⟨rfl, rfl⟩
              go_wp2_with fail
              refine (hTr.out _).mono ?_
              rintro e w3 ⟨rfl, rfl⟩
              obtain ⟨i0, hi, hz0, hz1, hz2⟩ := info_parts infoLine
              go_wp2_with (at_builtin; refine wpList_append_own _ rfl _ _ 23 rfl (w.heap.size + 1) 35 i0 _ 3 32 Tryd.underlying23 hi hz0 hz1 hz2 rfl (by decide) _ _ _ rfl ((hO2.out.alloc _).alloc _) ⟨w2.heap.size + 1, 0, none⟩ 1 1 [.bool ((c.toNat : Int) == 32), .string (B (trimmedL (c :: r))), .int .i64 ((i : Int) + 1)] rfl rfl ?ap1 ?ap2 ?ap3 ?ap4 ?ap5 ?_)
              case ap1 =>
                intro j u hj
                have hn2 := heap_alloc_new (w2.alloc (.cells #[.bool ((c.toNat : Int) == 32), .string (B (trimmedL (c :: r))), .int .i64 ((i : Int) + 1)] 35)) (.cells #[.bool ((c.toNat : Int) == 32), .string (B (trimmedL (c :: r))), .int .i64 ((i : Int) + 1)] 35)
                have hsz3 : (w2.alloc (.cells #[.bool ((c.toNat : Int) == 32), .string (B (trimmedL (c :: r))), .int .i64 ((i : Int) + 1)] 35)).heap.size = w2.heap.size + 1 := by simp
                rw [hsz3] at hn2
                have g0 := cell_of_heap hn2 0
                have g1 := cell_of_heap hn2 1
                have g2 := cell_of_heap hn2 2
                rcases j with _ | _ | _ | j <;> simp at hj <;> subst hj
                · simp [Addr.add]
                · simp [Addr.add]
                · simp [Addr.add]
              case ap2 => simp [Value.oneCell']
              case ap3 => unfold maxLen; omega
              case ap4 => omega
              case ap5 => have := hB2.out.size; simp; omega
              intro v' w4 hown' hg _
              have hsz2 := hB2.out.size
              have hhs := (Array.getElem?_eq_some_iff.1 hP2.out).1
              have hB4 : Hid (Below w.heap.size w w4) := ((hB2.out.alloc hB2.out.size _).alloc (by simp; omega) _).grown hg (by simp; omega) (fun k hk => by have := (hO2.out.lt k hk).1; omega)
              have hP4 : Hid (w4.heap[w.heap.size]? = some (.cells ((ps.map B).map Value.string).toArray 9 (0, 0))) := by
                show _ = _
                rw [hg.block w.heap.size (by simp; omega) (fun e => by have := (hO2.out.lt _ e.symm).1; omega)]
                rw [Below.heap_alloc _ _ _ (by simp; omega), Below.heap_alloc _ _ _ hhs]
                exact hP2.out
              have hG3 : Hid (linesGo N (ps.drop (i + 1)) (i + 1) (out ++ [⟨(c.toNat : Int) == 32, trimmedL (c :: r), i + 1⟩]) none = R) := by
                have hin : ((c.toNat : Int) == 32) = ((c :: r).head? == some 32) := by
                  rw [Bool.eq_iff_iff, beq_iff_eq, beq_iff_eq, List.head?_cons, Option.some.injEq]
                  exact toNat_eq c 32 (by decide)
                show _ = _
                rw [← hG2.out, linesGo, if_neg (by simp [hok]), if_neg (by simp [hem]), if_neg (by simp [hod]), hin]
                rfl
              have hO4 : Hid (w4.ownsRow (w.heap.size + 1) 35 3 v' (out ++ [(⟨(c.toNat : Int) == 32, trimmedL (c :: r), i + 1⟩ : LineT)]).length ((out ++ [(⟨(c.toNat : Int) == 32, trimmedL (c :: r), i + 1⟩ : LineT)]).flatMap lcells)) := by
                show World.ownsRow _ _ _ _ _ _ _
                simpa [lcells] using hown'
              clear hown' hg
              go_wp2_with fail
              go_roundg gk
              case measure => omega
              case rel => exact ⟨i + 1, _, none, _, _, rfl, rfl, rfl, by omega, hG3, hO4, rfl, hB4, hP4, by simp; omega, fun o h => by cases h⟩
        | some o =>
          obtain ⟨b, hb, hv8, hcb, hob⟩ := hOp.out
          subst hv8
          subst h8
          have htx := hTx.out o rfl
          have hTL := Lib.hid (TrimLeft_any 32 (by decide) s)
          have hbl : b < wr.heap.size := (Array.getElem?_eq_some_iff.1 hcb).1
          go_wp2_with fail
          refine (hBad.out _).mono ?_
          rintro e w2 ⟨rfl, hb2⟩
          have hB2 := Lib.hid (hBw.out.next hb2)
          have hg2 : wr.grownBy w2 none := ⟨hb2.os, hb2.tape, hb2.output, hb2.size, fun k hk _ => hb2.block k hk⟩
          have hO2 := Lib.hid (hOw.out.kept hg2 (Classical.em _))
          have hP2 := Lib.hid ((hb2.block _ (Array.getElem?_eq_some_iff.1 hPs.out).1).trans hPs.out)
          have hc2 := Lib.hid ((hb2.block _ hbl).trans hcb)
          have c1 : w2.cell? ⟨b, 1, none⟩ = some (.string (B o.text)) := by rw [cell_of_heap hc2.out]; rfl
          have f1 : w2.frozen? ⟨b, 1, none⟩ = false := frozen_of_heap hc2.out 1
          have so : (B o.text).size = o.text.length := size_B _
          have sl : (B (trimL 32 s)).size = (trimL 32 s).length := size_B _
          have ht3 := trimL_len 32 s
          have hil : i ≤ 16385 := by omega
          clear hb2 hg2
          go_wp2_with fail
          go_region_with (go_at_call 13; refine (hTL.out _).mono ?_; rintro e w3 ⟨rfl, rfl⟩)
          all_goals go_wp2_with fail
          all_goals
            obtain ⟨w3, hw3⟩ : ∃ w3, (w2.setCell ⟨b, 1, none⟩ (.string (B (o.text ++ trimL 32 s)))).drew = w3 := ⟨_, rfl⟩
            have hc3 : Hid (w3.heap[b]? = some (.cells #[.bool o.inner, .string (B (o.text ++ trimL 32 s)), .int .i64 (o.num : Int)] 35 (0, 0))) := by rw [← hw3]; exact set_text hc2.out
            have hB3 : Hid (Below w.heap.size w w3) := by rw [← hw3]; exact (hB2.out.setCell (p := ⟨b, 1, none⟩) (by show w.heap.size ≤ b; omega) _).drew
            have hO3 : Hid (w3.ownsRow (w.heap.size + 1) 35 3 u7 out.length (out.flatMap lcells)) := by rw [← hw3]; exact (ownsRow_setCell_other hO2.out (a := ⟨b, 1, none⟩) hob _).drew
            have hP3 : Hid (w3.heap[w.heap.size]? = some (.cells ((ps.map B).map Value.string).toArray 9 (0, 0))) := by
              rw [← hw3]; exact (Below.heap_setCell _ ⟨b, 1, none⟩ _ _ (by show w.heap.size ≠ b; omega)).trans hP2.out
            rw [B_append, hw3]
            have hlen : (o.text ++ trimL 32 s).length ≤ 16384 * (i + 1) := by rw [List.length_append]; omega
            clear hc2 hB2 hO2 hP2 c1 f1 hw3
            obtain ⟨t, ht⟩ : ∃ t, o.text ++ trimL 32 s = t := ⟨_, rfl⟩
            have hopd : opened i s (some o) = ⟨o.inner, t, o.num⟩ := by rw [opened, ht]
            rw [ht] at hlen hc3
            rw [ht]
            have hsz3 := hB3.out.size
            have st : (B t).size = t.length := size_B t
            have c0 : w3.cell? ⟨b, 0, none⟩ = some (.bool o.inner) := by rw [cell_of_heap hc3.out]; rfl
            have c1 : w3.cell? ⟨b, 1, none⟩ = some (.string (B t)) := by rw [cell_of_heap hc3.out]; rfl
            have c2 : w3.cell? ⟨b, 2, none⟩ = some (.int .i64 (o.num : Int)) := by rw [cell_of_heap hc3.out]; rfl
            have f1 : w3.frozen? ⟨b, 1, none⟩ = false := frozen_of_heap hc3.out 1
            cases hod : oddL s with
            | true =>
              rw [hod] at hUn
              refine (hUn.out _).mono ?_
              rintro e w4 ⟨rfl, rfl⟩
              have hw0 : ((i : Int) + 1 == (N : Int)) = decide (i + 1 = N) := by rw [Bool.eq_iff_iff, beq_iff_eq, decide_eq_true_iff]; omega
              by_cases hlast : i + 1 = N
              · have hd : ((i : Int) + 1 == (N : Int)) = true := by rw [hw0, decide_eq_true hlast]
                have hfin : Hid (R = .error (i + 1)) := by
                  show _ = _
                  rw [← hG2.out, linesGo, if_neg (by simp [hok]), if_neg (by simp), if_pos hod, if_pos hlast]
                go_wp2_with fail
                rw [Exit.noGoto_ret]
                refine bodyPost_ret (v := .tuple #[.slice none 0 0, .int .i64 ((i + 1 : Nat) : Int), .int .i64 10]) (by simp [results, Tryd.results6, go_sem]) rfl ?_
                rw [hRS.out, hfin.out]
                exact ⟨_, rfl, hB3.out, own_nil _ _ _ _⟩
              · have hd : ((i : Int) + 1 == (N : Int)) = false := by rw [hw0, decide_eq_false hlast]
                have hne : t ≠ [] := by have h := opened_ne i s (some o) hod; rw [hopd] at h; exact h
                obtain ⟨m, hm'⟩ : ∃ m, t.length = m + 1 := ⟨t.length - 1, by have := List.length_pos_iff.2 hne; omega⟩
                rw [hm'] at st
                go_wp2_with fail
                go_region
                go_wp2_with fail
                have hEx : (B t).extract 0 m = B t.dropLast := by
                  rw [extract_B, List.drop_zero, List.dropLast_eq_take, hm']; rfl
                have hG3 : Hid (linesGo N (ps.drop (i + 1)) (i + 1) out (some ⟨o.inner, t.dropLast, o.num⟩) = R) := by
                  show _ = _
                  rw [← hG2.out, linesGo, if_neg (by simp [hok]), if_neg (by simp), if_pos hod, if_neg hlast, hopd]
                go_roundg gk
                case measure => omega
                case rel =>
                  refine ⟨i + 1, out, some ⟨o.inner, t.dropLast, o.num⟩, _, _, rfl, rfl, rfl, by omega, hG3, (ownsRow_setCell_other hO3.out (a := ⟨b, 1, none⟩) hob _).drew, ?_, (hB3.out.setCell (p := ⟨b, 1, none⟩) (by show w.heap.size ≤ b; omega) _).drew, ?_, by omega, ?_⟩
                  · refine ⟨b, hb, rfl, (set_text hc3.out).trans (by rw [hEx]; rfl), hob⟩
                  · exact (Below.heap_setCell _ ⟨b, 1, none⟩ _ _ (by show w.heap.size ≠ b; omega)).trans hP3.out
                  · intro o' ho'
                    obtain rfl := Option.some.inj ho'
                    show (t.dropLast).length ≤ 16384 * (i + 1)
                    rw [List.length_dropLast]; omega
            | false =>
              rw [hod] at hUn
              have hTr := Lib.hid (trimmed_any t (by omega))
              refine (hUn.out _).mono ?_
              rintro e w4 ⟨rfl, rfl⟩
              go_wp2_with fail
              refine (hTr.out _).mono ?_
              rintro e w4 ⟨rfl, rfl⟩
              obtain ⟨i0, hi, hz0, hz1, hz2⟩ := info_parts infoLine
              have hb4 := set_text (u := .string (B (trimmedL t))) hc3.out
              have hO4 := ownsRow_setCell_other hO3.out (a := ⟨b, 1, none⟩) hob (.string (B (trimmedL t)))
              have hB4 := hB3.out.setCell (p := ⟨b, 1, none⟩) (by show w.heap.size ≤ b; omega) (.string (B (trimmedL t)))
              have hP4 := (Below.heap_setCell w3 ⟨b, 1, none⟩ (.string (B (trimmedL t))) w.heap.size (by show w.heap.size ≠ b; omega)).trans hP3.out
              have hhs := (Array.getElem?_eq_some_iff.1 hP4).1
              have hz : (w3.setCell ⟨b, 1, none⟩ (.string (B (trimmedL t)))).heap.size = w3.heap.size := by simp
              have hbs : w.heap.size + 1 ≤ w3.heap.size := by rw [hz] at hhs; omega
              have hn2 := heap_alloc_new (w3.setCell ⟨b, 1, none⟩ (.string (B (trimmedL t)))) (.cells #[.bool o.inner, .string (B (trimmedL t)), .int .i64 (o.num : Int)] 35)
              rw [hz] at hn2
              have hO5 := Lib.hid (hO4.alloc (.cells #[.bool o.inner, .string (B (trimmedL t)), .int .i64 (o.num : Int)] 35))
              have hB5 := Lib.hid (hB4.alloc (Nat.le_trans (Nat.le_succ _) (by rw [hz]; exact hbs)) (.cells #[.bool o.inner, .string (B (trimmedL t)), .int .i64 (o.num : Int)] 35))
              have hP5 := Lib.hid ((Below.heap_alloc _ (.cells #[.bool o.inner, .string (B (trimmedL t)), .int .i64 (o.num : Int)] 35) _ hhs).trans hP4)
              have hG3 : Hid (linesGo N (ps.drop (i + 1)) (i + 1) (out ++ [⟨o.inner, trimmedL t, o.num⟩]) none = R) := by
                show _ = _
                rw [← hG2.out, linesGo, if_neg (by simp [hok]), if_neg (by simp), if_neg (by simp [hod]), hopd]
              have hn3 := Lib.hid hn2
              have hb5 := Lib.hid hb4
              clear hO4 hB4 hP4 hhs hn2 hb4
              go_wp2_with (at_builtin; refine wpList_append_own _ rfl _ _ 23 rfl (w.heap.size + 1) 35 i0 _ 3 32 Tryd.underlying23 hi hz0 hz1 hz2 rfl (by decide) _ _ _ rfl hO5.out _ 1 1 [.bool o.inner, .string (B (trimmedL t)), .int .i64 (o.num : Int)] rfl rfl ?ap1 ?ap2 ?ap3 ?ap4 ?ap5 ?_)
              case ap1 =>
                intro j u hj
                have g0 := cell_of_heap hn3.out 0
                have g1 := cell_of_heap hn3.out 1
                have g2 := cell_of_heap hn3.out 2
                rcases j with _ | _ | _ | j <;> simp at hj <;> subst hj
                · simpa [Addr.add] using g0
                · simpa [Addr.add] using g1
                · simpa [Addr.add] using g2
              case ap2 => simp [Value.oneCell']
              case ap3 => unfold maxLen; omega
              case ap4 => omega
              case ap5 => simp; omega
              intro v' w4 hown' hg _
              have hB6 : Hid (Below w.heap.size w w4) := hB5.out.grown hg (by simp; omega) (fun k hk => by have := (hO5.out.lt k hk).1; omega)
              have hP6 : Hid (w4.heap[w.heap.size]? = some (.cells ((ps.map B).map Value.string).toArray 9 (0, 0))) :=
                (hg.block w.heap.size (by simp; omega) (fun e => by have := (hO5.out.lt _ e.symm).1; omega)).trans hP5.out
              have hO6 : Hid (w4.ownsRow (w.heap.size + 1) 35 3 v' (out ++ [(⟨o.inner, trimmedL t, o.num⟩ : LineT)]).length ((out ++ [(⟨o.inner, trimmedL t, o.num⟩ : LineT)]).flatMap lcells)) := by
                show World.ownsRow _ _ _ _ _ _ _
                simpa [lcells] using hown'
              clear hown' hg
              go_wp2_with fail
              go_roundg gk
              case measure => omega
              case rel => exact ⟨i + 1, _, none, _, _, rfl, rfl, rfl, by omega, hG3, hO6, rfl, hB6, hP6, by simp; omega, fun o h => by cases h⟩
end Go.Proofs.YtahejhkphceajaaDoor.Ln
