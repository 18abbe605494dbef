/- Laid together by wip/tools/shake.py from texts of this claim: Lines, LinesF, MfParseB, MfParseC, MfParse, MfTold, MfOut, PrBackL, MfSize, MfSame, PBellowslaw12Awake0, PrAgain, CardPrintAgain. -/
import Derived.Test.YtbjekebkgidhaaaGreatDoorSq5
import Derived.OwnWalk
import Derived.Laws.AppendOwn
import Derived.Maps.AppendAt
import Derived.Below
import Derived.Test.YtbjekebkgidhaaaGreatDoorRows
import Derived.WalkKit
import Derived.ProofKit
import Derived.OpenShut
import Derived.ShutString
import Derived.ChangeOld
import Derived.SizedLaws
import Derived.Carry
import Derived.LaidMore
import Derived.Lay
import Derived.SevenTiedAt
import Derived.Stop.Joined
import Derived.Test.YtbjekebkgidhaaaGreatDoorTie
import Derived.Test.YtbjekebkgidhaaaGreatDoorCards
section
set_option linter.unusedSimpArgs false
set_option linter.unusedVariables false
namespace Go.Proofs.YtbjekebkgidhaaaGreatDoor.Ln
open Go.RowKit Go.Lib Go.Shelf Go.Proofs.YtbjekebkgidhaaaGreatDoorW.PrintWords Go.Proofs.YtbjekebkgidhaaaGreatDoor.U Go.Proofs.YtbjekebkgidhaaaGreatDoor.Idx
theorem infoLine : (Tryz.prog.info? 72).map (fun i => (i.zero, i.size, i.bytes)) = some (some (.agg #[.bool false, .string ⟨#[]⟩, .int .i64 0]), 3, 32) := by kernel_rfl
def lcells (o : LineT) : List Value := [.bool o.inner, .string (B o.text), .int .i64 (o.num : Int)]
theorem set_text {w : World} {b : Nat} {x y z u : Value} {t : TypeId} (h : w.heap[b]? = some (.cells #[x, y, z] t (0, 0))) : (w.setCell ⟨b, 1, none⟩ u).heap[b]? = some (.cells #[x, u, z] t (0, 0)) := by
  have hlt := (Array.getElem?_eq_some_iff.1 h).1
  have h' : w.heap[b] = .cells #[x, y, z] t (0, 0) := by simpa [Array.getElem?_eq_getElem hlt] using h
  show (w.heap.modify b _)[b]? = _
  rw [Array.getElem?_eq_getElem (by simpa using hlt), Array.getElem_modify_self, h']
  rfl
def IsOpen (w : World) (base : Nat) (op : Option LineT) (v out : Value) : Prop :=
  match op with
  | none => v = .pointer none
  | some o => ∃ b, base ≤ b ∧ v = .pointer (some ⟨b, 0, none⟩) ∧ w.heap[b]? = some (.cells (lcells o).toArray 72 (0, 0)) ∧ out.ownBlock ≠ some b
theorem spl_le (c : UInt8) (l : Txt) : ∀ p ∈ spl c l, p.length ≤ l.length := by
  induction l with
  | nil => intro p hp; simp [spl] at hp; subst hp; simp
  | cons b l ih =>
    rw [spl]
    by_cases hb : b = c
    · rw [if_pos hb]
      intro p hp
      rcases List.mem_cons.1 hp with rfl | hp
      · simp
      · have := ih p hp; simp; omega
    · rw [if_neg hb]
      cases h : spl c l with
      | nil => exact absurd h (spl_ne c l)
      | cons q qs =>
        rw [h] at ih
        intro p hp
        rcases List.mem_cons.1 hp with rfl | hp
        · have := ih q (by simp); simpa using this
        · have := ih p (by simp [hp]); simp; omega
set_option maxRecDepth 100000 in
set_option maxHeartbeats 4000000 in
theorem Lines_long (l : Txt) (h : 16384 < l.length) (w : World) :
    Calls Tryz.prog 18 #[.string (B l)] w fun e w' => e = .returned (.tuple #[.slice none 0 0, .int .i64 0, .int .i64 3]) ∧ w = w' := by
  have s1 : (B l).size = l.length := size_B l
  have d1 : decide ((16384 : Int) < (l.length : Int)) = true := by rw [decide_eq_true_iff]; omega
  go_enter Tryz.func18, Tryz.ntmps18
  go_wp2_with fail
  go_step3
  go_wp2_with fail
  rw [Exit.noGoto_ret]
  exact bodyPost_ret (v := .tuple #[.slice none 0 0, .int .i64 0, .int .i64 3]) (by simp [results, Tryz.results18, go_sem]) rfl ⟨rfl, rfl⟩
set_option maxRecDepth 100000 in
set_option maxHeartbeats 4000000 in
theorem Lines_any (l : Txt) (h : l.length ≤ 16384) (w : World) (hm : ∃ m, w.cell? ⟨1, 0, none⟩ = some (.int .i64 m)) :
    Calls Tryz.prog 18 #[.string (B l)] w fun e w' => ∃ v, e = .returned (.tuple #[v, .int .i64 ((linesL l).2.1 : Int), .int .i64 (linesL l).2.2]) ∧ Below w.heap.size w w' ∧
      w'.ownsRow (w.heap.size + 1) 72 3 v (linesL l).1.length ((linesL l).1.flatMap lcells) := by
  have s1 : (B l).size = l.length := size_B l
  have d1 : decide ((16384 : Int) < (l.length : Int)) = false := by rw [decide_eq_false_iff_not]; omega
  obtain ⟨R, hR⟩ : ∃ R, linesGo (spl 10 l).length (spl 10 l) 0 [] none = R := ⟨_, rfl⟩
  have hRes : linesL l = resL R := by
    rw [linesL, if_neg (by omega), hR]
  have hle := spl_le 10 l
  have hSp := Lib.hid (Split_any 10 l (by omega) w hm)
  have hRR := Lib.hid hR
  have hRS := Lib.hid hRes
  have hne := spl_ne 10 l
  have hcnt : (spl 10 l).length ≤ l.length + 1 := by rw [spl_len]; have := List.count_le_length (a := (10 : UInt8)) (l := l); omega
  clear hR hRes
  generalize spl 10 l = ps at *
  obtain ⟨N, hN⟩ : ∃ N, ps.length = N := ⟨_, rfl⟩
  rw [hN] at hSp hcnt
  go_enter Tryz.func18, Tryz.ntmps18
  go_wp2_with fail
  go_step3
  go_wp2_with fail
  refine hSp.out.mono ?_
  rintro e w1 ⟨rfl, hw1⟩
  have hB1 : Hid (Below w.heap.size w w1) := by rw [← hw1]; exact (Below.refl _ w).alloc (Nat.le_refl _) _
  have hP1 : Hid (w1.heap[w.heap.size]? = some (.cells ((ps.map B).map Value.string).toArray 9 (0, 0))) := by rw [← hw1]; exact heap_alloc_new _ _
  have hS1 : Hid (w1.heap.size = w.heap.size + 1) := by show _ = _; rw [← hw1]; simp
  clear hw1 hSp
  go_wp2_with fail
  go_step3
  go_wp2_with fail
  go_loopg [7, 8, 18] N (fun gk s7 s8 s18 wr => ∃ (i : Nat) (out : List LineT) (op : Option LineT) (v7 v8 : Value), s18 = .int .i64 (i : Int) ∧ s7 = v7 ∧ s8 = v8 ∧ i + gk = N ∧ Hid (linesGo N (ps.drop i) i out op = R) ∧
    Hid (wr.ownsRow (w.heap.size + 1) 72 3 v7 out.length (out.flatMap lcells)) ∧ Hid (IsOpen wr (w.heap.size + 1) op v8 v7) ∧ Hid (Below w.heap.size w wr) ∧
    Hid (wr.heap[w.heap.size]? = some (.cells ((ps.map B).map Value.string).toArray 9 (0, 0))) ∧ out.length ≤ i ∧ Hid (∀ o, op = some o → o.text.length ≤ 16384 * i))
  case atStart => exact ⟨0, [], none, _, _, rfl, rfl, rfl, Nat.zero_add _, by show _ = _; rw [← hRR.out, hN]; rfl, own_nil _ _ _ _, rfl, hB1.out, hP1.out, Nat.le_refl _, fun o h => by cases h⟩
  case round =>
    obtain ⟨i, out, op, v7, v8, rfl, h7, h8, hik, hG, hOw, hOp, hBw, hPs, hoi, hTx⟩ := hrel
    subst h7
    cases gk with
    | zero =>
      obtain rfl : i = N := by omega
      have hfin : Hid (R = .ok out) := by
        show _ = _
        rw [← hG.out, ← hN, List.drop_length]; rfl
      have hlt : decide ((i : Int) < (i : Int)) = false := by simp
      go_wp2_with fail
      rw [Exit.noGoto_ret]
      refine bodyPost_ret (v := .tuple #[_, .int .i64 0, .int .i64 0]) (by simp [results, Tryz.results18, go_sem] <;> rfl) rfl ?_
      rw [hRS.out, hfin.out]
      exact ⟨_, rfl, hBw.out, hOw.out⟩
    | succ gk =>
      have hiN : i < ps.length := by omega
      obtain ⟨s, hs⟩ : ∃ s, ps[i] = s := ⟨_, rfl⟩
      have hdr : ps.drop i = s :: ps.drop (i + 1) := by rw [List.drop_eq_getElem_cons hiN, hs]
      have hsl : s.length ≤ 16384 := by rw [← hs]; exact Nat.le_trans (hle _ (List.getElem_mem hiN)) h
      have hcell : wr.cell? ⟨w.heap.size, i, none⟩ = some (.string (B s)) := by
        rw [cell_of_heap hPs.out]
        simp [hiN, hs]
      have hlt : decide ((i : Int) < (N : Int)) = true := by rw [decide_eq_true_iff]; omega
      have hG2 : Hid (linesGo N (s :: ps.drop (i + 1)) i out op = R) := by rw [← hdr]; exact hG.out
      have hBad := Lib.hid (bad_any s)
      have ss : (B s).size = s.length := size_B s
      clear hG
      cases hok : okL s with
      | false =>
        have hfin : Hid (R = .error (i + 1)) := by
          show _ = _
          rw [← hG2.out, linesGo, if_pos hok]
        rw [hok] at hBad
        go_wp2_with fail
        refine (hBad.out _).mono ?_
        rintro e w2 ⟨rfl, hb2⟩
        have hB2 := Lib.hid (hBw.out.next hb2)
        clear hb2
        go_wp2_with fail
        rw [Exit.noGoto_ret]
        refine bodyPost_ret (v := .tuple #[.slice none 0 0, .int .i64 ((i + 1 : Nat) : Int), .int .i64 10]) (by simp [results, Tryz.results18, go_sem]) rfl ?_
        rw [hRS.out, hfin.out]
        exact ⟨_, rfl, hB2.out, own_nil _ _ _ _⟩
      | true =>
        rw [hok] at hBad
        have hEm := Lib.hid (empty_any s)
        have hUn := Lib.hid (unpaired_any s (by omega))
        cases op with
        | none =>
          obtain rfl : v8 = .pointer none := hOp.out
          subst h8
          cases hem : emptyL s with
          | true =>
            rw [hem] at hEm
            have hG3 : Hid (linesGo N (ps.drop (i + 1)) (i + 1) out none = R) := by
              show _ = _
              rw [← hG2.out, linesGo, if_neg (by simp [hok]), if_pos ⟨rfl, hem⟩]
            go_wp2_with fail
            refine (hBad.out _).mono ?_
            rintro e w2 ⟨rfl, hb2⟩
            have hB2 := Lib.hid (hBw.out.next hb2)
            have hg2 : wr.grownBy w2 none := ⟨hb2.os, hb2.tape, hb2.output, hb2.size, fun k hk _ => hb2.block k hk⟩
            have hO2 := Lib.hid (hOw.out.kept hg2 (Classical.em _))
            have hP2 := Lib.hid ((hb2.block _ (Array.getElem?_eq_some_iff.1 hPs.out).1).trans hPs.out)
            clear hb2 hg2
            go_wp2_with fail
            refine (hEm.out _).mono ?_
            rintro e w3 ⟨rfl, rfl⟩
            go_wp2_with fail
            go_roundg gk
            case measure => omega
            case rel => exact ⟨i + 1, out, none, _, _, rfl, rfl, rfl, by omega, hG3, hO2, rfl, hB2, hP2, by omega, fun o h => by cases h⟩
          | false =>
            rw [hem] at hEm
            obtain ⟨c, r, hcr⟩ : ∃ c r, s = c :: r := by
              cases s with
              | nil => exact absurd hem (by decide)
              | cons c r => exact ⟨c, r, rfl⟩
            subst hcr
            have h0 : ∀ h : 0 < (B (c :: r)).size, (((B (c :: r))[0]'h).toNat : Int) = (c.toNat : Int) := fun h => rfl
            have hsB : (B (c :: r)).size = r.length + 1 := by rw [size_B]; rfl
            have hcl := c.toNat_lt
            go_wp2_with fail
            refine (hBad.out _).mono ?_
            rintro e w2 ⟨rfl, hb2⟩
            have hB2 := Lib.hid (hBw.out.next hb2)
            have hg2 : wr.grownBy w2 none := ⟨hb2.os, hb2.tape, hb2.output, hb2.size, fun k hk _ => hb2.block k hk⟩
            have hO2 := Lib.hid (hOw.out.kept hg2 (Classical.em _))
            have hP2 := Lib.hid ((hb2.block _ (Array.getElem?_eq_some_iff.1 hPs.out).1).trans hPs.out)
            clear hb2 hg2
            go_wp2_with fail
            refine (hEm.out _).mono ?_
            rintro e w3 ⟨rfl, rfl⟩
            go_wp2_with fail
            have hTr := Lib.hid (trimmed_any (c :: r) (by omega))
            have hnew : (w2.alloc (.cells #[.bool ((c.toNat : Int) == 32), .string (B (c :: r)), .int .i64 ((i : Int) + 1)] 72)).heap[w2.heap.size]? = some (.cells #[.bool ((c.toNat : Int) == 32), .string (B (c :: r)), .int .i64 ((i : Int) + 1)] 72 (0, 0)) := heap_alloc_new _ _
            have c1 := cell_of_heap hnew 1
            have f1 := frozen_of_heap hnew 1
            have hO3 := Lib.hid (hO2.out.alloc (.cells #[.bool ((c.toNat : Int) == 32), .string (B (c :: r)), .int .i64 ((i : Int) + 1)] 72))
            cases hod : oddL (c :: r) with
            | true =>
              rw [hod] at hUn
              refine (hUn.out _).mono ?_
              rintro e w3 ⟨rfl, rfl⟩
              have hw0 : ((i : Int) + 1 == (N : Int)) = decide (i + 1 = N) := by rw [Bool.eq_iff_iff, beq_iff_eq, decide_eq_true_iff]; omega
              by_cases hlast : i + 1 = N
              · have hd : ((i : Int) + 1 == (N : Int)) = true := by rw [hw0, decide_eq_true hlast]
                have hfin : Hid (R = .error (i + 1)) := by
                  show _ = _
                  rw [← hG2.out, linesGo, if_neg (by simp [hok]), if_neg (by simp [hem]), if_pos hod, if_pos hlast]
                go_wp2_with fail
                rw [Exit.noGoto_ret]
                refine bodyPost_ret (v := .tuple #[.slice none 0 0, .int .i64 ((i + 1 : Nat) : Int), .int .i64 10]) (by simp [results, Tryz.results18, go_sem]) rfl ?_
                rw [hRS.out, hfin.out]
                exact ⟨_, rfl, hB2.out.alloc hB2.out.size _, own_nil _ _ _ _⟩
              · have hd : ((i : Int) + 1 == (N : Int)) = false := by rw [hw0, decide_eq_false hlast]
                go_wp2_with fail
                go_region
                go_wp2_with fail
                have hEx : (B (c :: r)).extract 0 r.length = B ((c :: r).dropLast) := by
                  rw [extract_B, List.drop_zero, List.dropLast_eq_take]; rfl
                have hin : ((c.toNat : Int) == 32) = ((c :: r).head? == some 32) := by
                  rw [Bool.eq_iff_iff, beq_iff_eq, beq_iff_eq, List.head?_cons, Option.some.injEq]
                  exact toNat_eq c 32 (by decide)
                have hG3 : Hid (linesGo N (ps.drop (i + 1)) (i + 1) out (some ⟨(c.toNat : Int) == 32, (c :: r).dropLast, i + 1⟩) = R) := by
                  show _ = _
                  rw [← hG2.out, linesGo, if_neg (by simp [hok]), if_neg (by simp [hem]), if_pos hod, if_neg hlast, hin]
                  rfl
                have hsz2 := hB2.out.size
                have hhs2 := (Array.getElem?_eq_some_iff.1 hP2.out).1
                go_roundg gk
                case measure => omega
                case rel =>
                  refine ⟨i + 1, out, some ⟨(c.toNat : Int) == 32, (c :: r).dropLast, i + 1⟩, _, _, rfl, rfl, rfl, by omega, hG3, (hO2.out.alloc _).drew, ?_, (hB2.out.alloc hB2.out.size _).drew, ?_, by omega, ?_⟩
                  · refine ⟨w2.heap.size, by omega, rfl, (heap_alloc_new w2 _).trans (by rw [hEx]; rfl), fun e => by have := (hO2.out.lt _ e).2; simp at this⟩
                  · exact (Below.heap_alloc _ _ _ (Array.getElem?_eq_some_iff.1 hP2.out).1).trans hP2.out
                  · intro o ho
                    obtain rfl := Option.some.inj ho
                    show ((c :: r).dropLast).length ≤ 16384 * (i + 1)
                    rw [List.length_dropLast]; simp at hsl ⊢; omega
            | false =>
              rw [hod] at hUn
              refine (hUn.out _).mono ?_
              rintro e w3 ⟨rfl, rfl⟩
              go_wp2_with fail
              refine (hTr.out _).mono ?_
              rintro e w3 ⟨rfl, rfl⟩
              obtain ⟨i0, hi, hz0, hz1, hz2⟩ := info_parts infoLine
              go_wp2_with (at_builtin; refine wpList_append_own _ rfl _ _ 56 rfl (w.heap.size + 1) 72 i0 _ 3 32 Tryz.underlying56 hi hz0 hz1 hz2 rfl (by decide) _ _ _ rfl ((hO2.out.alloc _).alloc _) ⟨w2.heap.size + 1, 0, none⟩ 1 1 [.bool ((c.toNat : Int) == 32), .string (B (trimmedL (c :: r))), .int .i64 ((i : Int) + 1)] rfl rfl ?ap1 ?ap2 ?ap3 ?ap4 ?ap5 ?_)
              case ap1 =>
                intro j u hj
                have hn2 := heap_alloc_new (w2.alloc (.cells #[.bool ((c.toNat : Int) == 32), .string (B (trimmedL (c :: r))), .int .i64 ((i : Int) + 1)] 72)) (.cells #[.bool ((c.toNat : Int) == 32), .string (B (trimmedL (c :: r))), .int .i64 ((i : Int) + 1)] 72)
                have hsz3 : (w2.alloc (.cells #[.bool ((c.toNat : Int) == 32), .string (B (trimmedL (c :: r))), .int .i64 ((i : Int) + 1)] 72)).heap.size = w2.heap.size + 1 := by simp
                rw [hsz3] at hn2
                have g0 := cell_of_heap hn2 0
                have g1 := cell_of_heap hn2 1
                have g2 := cell_of_heap hn2 2
                rcases j with _ | _ | _ | j <;> simp at hj <;> subst hj
                · simp [Addr.add]
                · simp [Addr.add]
                · simp [Addr.add]
              case ap2 => simp [Value.oneCell']
              case ap3 => unfold maxLen; omega
              case ap4 => omega
              case ap5 => have := hB2.out.size; simp; omega
              intro v' w4 hown' hg _
              have hsz2 := hB2.out.size
              have hhs := (Array.getElem?_eq_some_iff.1 hP2.out).1
              have hB4 : Hid (Below w.heap.size w w4) := ((hB2.out.alloc hB2.out.size _).alloc (by simp; omega) _).grown hg (by simp; omega) (fun k hk => by have := (hO2.out.lt k hk).1; omega)
              have hP4 : Hid (w4.heap[w.heap.size]? = some (.cells ((ps.map B).map Value.string).toArray 9 (0, 0))) := by
                show _ = _
                rw [hg.block w.heap.size (by simp; omega) (fun e => by have := (hO2.out.lt _ e.symm).1; omega)]
                rw [Below.heap_alloc _ _ _ (by simp; omega), Below.heap_alloc _ _ _ hhs]
                exact hP2.out
              have hG3 : Hid (linesGo N (ps.drop (i + 1)) (i + 1) (out ++ [⟨(c.toNat : Int) == 32, trimmedL (c :: r), i + 1⟩]) none = R) := by
                have hin : ((c.toNat : Int) == 32) = ((c :: r).head? == some 32) := by
                  rw [Bool.eq_iff_iff, beq_iff_eq, beq_iff_eq, List.head?_cons, Option.some.injEq]
                  exact toNat_eq c 32 (by decide)
                show _ = _
                rw [← hG2.out, linesGo, if_neg (by simp [hok]), if_neg (by simp [hem]), if_neg (by simp [hod]), hin]
                rfl
              have hO4 : Hid (w4.ownsRow (w.heap.size + 1) 72 3 v' (out ++ [(⟨(c.toNat : Int) == 32, trimmedL (c :: r), i + 1⟩ : LineT)]).length ((out ++ [(⟨(c.toNat : Int) == 32, trimmedL (c :: r), i + 1⟩ : LineT)]).flatMap lcells)) := by
                show World.ownsRow _ _ _ _ _ _ _
                simpa [lcells] using hown'
              clear hown' hg
              go_wp2_with fail
              go_roundg gk
              case measure => omega
              case rel => exact ⟨i + 1, _, none, _, _, rfl, rfl, rfl, by omega, hG3, hO4, rfl, hB4, hP4, by simp; omega, fun o h => by cases h⟩
        | some o =>
          obtain ⟨b, hb, hv8, hcb, hob⟩ := hOp.out
          subst hv8
          subst h8
          have htx := hTx.out o rfl
          have hTL := Lib.hid (TrimLeft_any 32 (by decide) s)
          have hbl : b < wr.heap.size := (Array.getElem?_eq_some_iff.1 hcb).1
          go_wp2_with fail
          refine (hBad.out _).mono ?_
          rintro e w2 ⟨rfl, hb2⟩
          have hB2 := Lib.hid (hBw.out.next hb2)
          have hg2 : wr.grownBy w2 none := ⟨hb2.os, hb2.tape, hb2.output, hb2.size, fun k hk _ => hb2.block k hk⟩
          have hO2 := Lib.hid (hOw.out.kept hg2 (Classical.em _))
          have hP2 := Lib.hid ((hb2.block _ (Array.getElem?_eq_some_iff.1 hPs.out).1).trans hPs.out)
          have hc2 := Lib.hid ((hb2.block _ hbl).trans hcb)
          have c1 : w2.cell? ⟨b, 1, none⟩ = some (.string (B o.text)) := by rw [cell_of_heap hc2.out]; rfl
          have f1 : w2.frozen? ⟨b, 1, none⟩ = false := frozen_of_heap hc2.out 1
          have so : (B o.text).size = o.text.length := size_B _
          have sl : (B (trimL 32 s)).size = (trimL 32 s).length := size_B _
          have ht3 := trimL_len 32 s
          have hil : i ≤ 16385 := by omega
          clear hb2 hg2
          go_wp2_with fail
          go_region_with (go_at_call 36; refine (hTL.out _).mono ?_; rintro e w3 ⟨rfl, rfl⟩)
          all_goals go_wp2_with fail
          all_goals
            obtain ⟨w3, hw3⟩ : ∃ w3, (w2.setCell ⟨b, 1, none⟩ (.string (B (o.text ++ trimL 32 s)))).drew = w3 := ⟨_, rfl⟩
            have hc3 : Hid (w3.heap[b]? = some (.cells #[.bool o.inner, .string (B (o.text ++ trimL 32 s)), .int .i64 (o.num : Int)] 72 (0, 0))) := by rw [← hw3]; exact set_text hc2.out
            have hB3 : Hid (Below w.heap.size w w3) := by rw [← hw3]; exact (hB2.out.setCell (p := ⟨b, 1, none⟩) (by show w.heap.size ≤ b; omega) _).drew
            have hO3 : Hid (w3.ownsRow (w.heap.size + 1) 72 3 u7 out.length (out.flatMap lcells)) := by rw [← hw3]; exact (ownsRow_setCell_other hO2.out (a := ⟨b, 1, none⟩) hob _).drew
            have hP3 : Hid (w3.heap[w.heap.size]? = some (.cells ((ps.map B).map Value.string).toArray 9 (0, 0))) := by
              rw [← hw3]; exact (Below.heap_setCell _ ⟨b, 1, none⟩ _ _ (by show w.heap.size ≠ b; omega)).trans hP2.out
            rw [B_append, hw3]
            have hlen : (o.text ++ trimL 32 s).length ≤ 16384 * (i + 1) := by rw [List.length_append]; omega
            clear hc2 hB2 hO2 hP2 c1 f1 hw3
            obtain ⟨t, ht⟩ : ∃ t, o.text ++ trimL 32 s = t := ⟨_, rfl⟩
            have hopd : opened i s (some o) = ⟨o.inner, t, o.num⟩ := by rw [opened, ht]
            rw [ht] at hlen hc3
            rw [ht]
            have hsz3 := hB3.out.size
            have st : (B t).size = t.length := size_B t
            have c0 : w3.cell? ⟨b, 0, none⟩ = some (.bool o.inner) := by rw [cell_of_heap hc3.out]; rfl
            have c1 : w3.cell? ⟨b, 1, none⟩ = some (.string (B t)) := by rw [cell_of_heap hc3.out]; rfl
            have c2 : w3.cell? ⟨b, 2, none⟩ = some (.int .i64 (o.num : Int)) := by rw [cell_of_heap hc3.out]; rfl
            have f1 : w3.frozen? ⟨b, 1, none⟩ = false := frozen_of_heap hc3.out 1
            cases hod : oddL s with
            | true =>
              rw [hod] at hUn
              refine (hUn.out _).mono ?_
              rintro e w4 ⟨rfl, rfl⟩
              have hw0 : ((i : Int) + 1 == (N : Int)) = decide (i + 1 = N) := by rw [Bool.eq_iff_iff, beq_iff_eq, decide_eq_true_iff]; omega
              by_cases hlast : i + 1 = N
              · have hd : ((i : Int) + 1 == (N : Int)) = true := by rw [hw0, decide_eq_true hlast]
                have hfin : Hid (R = .error (i + 1)) := by
                  show _ = _
                  rw [← hG2.out, linesGo, if_neg (by simp [hok]), if_neg (by simp), if_pos hod, if_pos hlast]
                go_wp2_with fail
                rw [Exit.noGoto_ret]
                refine bodyPost_ret (v := .tuple #[.slice none 0 0, .int .i64 ((i + 1 : Nat) : Int), .int .i64 10]) (by simp [results, Tryz.results18, go_sem]) rfl ?_
                rw [hRS.out, hfin.out]
                exact ⟨_, rfl, hB3.out, own_nil _ _ _ _⟩
              · have hd : ((i : Int) + 1 == (N : Int)) = false := by rw [hw0, decide_eq_false hlast]
                have hne : t ≠ [] := by have h := opened_ne i s (some o) hod; rw [hopd] at h; exact h
                obtain ⟨m, hm'⟩ : ∃ m, t.length = m + 1 := ⟨t.length - 1, by have := List.length_pos_iff.2 hne; omega⟩
                rw [hm'] at st
                go_wp2_with fail
                go_region
                go_wp2_with fail
                have hEx : (B t).extract 0 m = B t.dropLast := by
                  rw [extract_B, List.drop_zero, List.dropLast_eq_take, hm']; rfl
                have hG3 : Hid (linesGo N (ps.drop (i + 1)) (i + 1) out (some ⟨o.inner, t.dropLast, o.num⟩) = R) := by
                  show _ = _
                  rw [← hG2.out, linesGo, if_neg (by simp [hok]), if_neg (by simp), if_pos hod, if_neg hlast, hopd]
                go_roundg gk
                case measure => omega
                case rel =>
                  refine ⟨i + 1, out, some ⟨o.inner, t.dropLast, o.num⟩, _, _, rfl, rfl, rfl, by omega, hG3, (ownsRow_setCell_other hO3.out (a := ⟨b, 1, none⟩) hob _).drew, ?_, (hB3.out.setCell (p := ⟨b, 1, none⟩) (by show w.heap.size ≤ b; omega) _).drew, ?_, by omega, ?_⟩
                  · refine ⟨b, hb, rfl, (set_text hc3.out).trans (by rw [hEx]; rfl), hob⟩
                  · exact (Below.heap_setCell _ ⟨b, 1, none⟩ _ _ (by show w.heap.size ≠ b; omega)).trans hP3.out
                  · intro o' ho'
                    obtain rfl := Option.some.inj ho'
                    show (t.dropLast).length ≤ 16384 * (i + 1)
                    rw [List.length_dropLast]; omega
            | false =>
              rw [hod] at hUn
              have hTr := Lib.hid (trimmed_any t (by omega))
              refine (hUn.out _).mono ?_
              rintro e w4 ⟨rfl, rfl⟩
              go_wp2_with fail
              refine (hTr.out _).mono ?_
              rintro e w4 ⟨rfl, rfl⟩
              obtain ⟨i0, hi, hz0, hz1, hz2⟩ := info_parts infoLine
              have hb4 := set_text (u := .string (B (trimmedL t))) hc3.out
              have hO4 := ownsRow_setCell_other hO3.out (a := ⟨b, 1, none⟩) hob (.string (B (trimmedL t)))
              have hB4 := hB3.out.setCell (p := ⟨b, 1, none⟩) (by show w.heap.size ≤ b; omega) (.string (B (trimmedL t)))
              have hP4 := (Below.heap_setCell w3 ⟨b, 1, none⟩ (.string (B (trimmedL t))) w.heap.size (by show w.heap.size ≠ b; omega)).trans hP3.out
              have hhs := (Array.getElem?_eq_some_iff.1 hP4).1
              have hz : (w3.setCell ⟨b, 1, none⟩ (.string (B (trimmedL t)))).heap.size = w3.heap.size := by simp
              have hbs : w.heap.size + 1 ≤ w3.heap.size := by rw [hz] at hhs; omega
              have hn2 := heap_alloc_new (w3.setCell ⟨b, 1, none⟩ (.string (B (trimmedL t)))) (.cells #[.bool o.inner, .string (B (trimmedL t)), .int .i64 (o.num : Int)] 72)
              rw [hz] at hn2
              have hO5 := Lib.hid (hO4.alloc (.cells #[.bool o.inner, .string (B (trimmedL t)), .int .i64 (o.num : Int)] 72))
              have hB5 := Lib.hid (hB4.alloc (Nat.le_trans (Nat.le_succ _) (by rw [hz]; exact hbs)) (.cells #[.bool o.inner, .string (B (trimmedL t)), .int .i64 (o.num : Int)] 72))
              have hP5 := Lib.hid ((Below.heap_alloc _ (.cells #[.bool o.inner, .string (B (trimmedL t)), .int .i64 (o.num : Int)] 72) _ hhs).trans hP4)
              have hG3 : Hid (linesGo N (ps.drop (i + 1)) (i + 1) (out ++ [⟨o.inner, trimmedL t, o.num⟩]) none = R) := by
                show _ = _
                rw [← hG2.out, linesGo, if_neg (by simp [hok]), if_neg (by simp), if_neg (by simp [hod]), hopd]
              have hn3 := Lib.hid hn2
              have hb5 := Lib.hid hb4
              clear hO4 hB4 hP4 hhs hn2 hb4
              go_wp2_with (at_builtin; refine wpList_append_own _ rfl _ _ 56 rfl (w.heap.size + 1) 72 i0 _ 3 32 Tryz.underlying56 hi hz0 hz1 hz2 rfl (by decide) _ _ _ rfl hO5.out _ 1 1 [.bool o.inner, .string (B (trimmedL t)), .int .i64 (o.num : Int)] rfl rfl ?ap1 ?ap2 ?ap3 ?ap4 ?ap5 ?_)
              case ap1 =>
                intro j u hj
                have g0 := cell_of_heap hn3.out 0
                have g1 := cell_of_heap hn3.out 1
                have g2 := cell_of_heap hn3.out 2
                rcases j with _ | _ | _ | j <;> simp at hj <;> subst hj
                · simpa [Addr.add] using g0
                · simpa [Addr.add] using g1
                · simpa [Addr.add] using g2
              case ap2 => simp [Value.oneCell']
              case ap3 => unfold maxLen; omega
              case ap4 => omega
              case ap5 => simp; omega
              intro v' w4 hown' hg _
              have hB6 : Hid (Below w.heap.size w w4) := hB5.out.grown hg (by simp; omega) (fun k hk => by have := (hO5.out.lt k hk).1; omega)
              have hP6 : Hid (w4.heap[w.heap.size]? = some (.cells ((ps.map B).map Value.string).toArray 9 (0, 0))) :=
                (hg.block w.heap.size (by simp; omega) (fun e => by have := (hO5.out.lt _ e.symm).1; omega)).trans hP5.out
              have hO6 : Hid (w4.ownsRow (w.heap.size + 1) 72 3 v' (out ++ [(⟨o.inner, trimmedL t, o.num⟩ : LineT)]).length ((out ++ [(⟨o.inner, trimmedL t, o.num⟩ : LineT)]).flatMap lcells)) := by
                show World.ownsRow _ _ _ _ _ _ _
                simpa [lcells] using hown'
              clear hown' hg
              go_wp2_with fail
              go_roundg gk
              case measure => omega
              case rel => exact ⟨i + 1, _, none, _, _, rfl, rfl, rfl, by omega, hG3, hO6, rfl, hB6, hP6, by simp; omega, fun o h => by cases h⟩
end Go.Proofs.YtbjekebkgidhaaaGreatDoor.Ln
end
section
set_option linter.unusedVariables false
namespace Go.Proofs.YtbjekebkgidhaaaGreatDoor.P
open Go.RowKit Go.Lib Go.Proofs.YtbjekebkgidhaaaGreatDoorW.PrintWords Go.Proofs.YtbjekebkgidhaaaGreatDoorW.PrintLast Go.Proofs.YtbjekebkgidhaaaGreatDoorW.PrintMore Go.Proofs.YtbjekebkgidhaaaGreatDoor.U
def lineS (o : Ln.LineT) : S72 := ⟨o.inner, B o.text, (o.num : Int)⟩
def lex_Lines.f (a0 : ByteArray) : Option (List S72 × Int × Int) := some ((Ln.linesL a0.data.toList).1.map lineS, ((Ln.linesL a0.data.toList).2.1 : Int), (Ln.linesL a0.data.toList).2.2)
theorem lines_R {w : World} {base : Nat} {v : Value} {l : List Ln.LineT} (h : w.ownsRow base 72 3 v l.length (l.flatMap Ln.lcells)) : Kd.R k72 72 w base (fun _ => True) v (l.map lineS) := by
  refine ⟨fun _ _ => trivial, l.flatMap Ln.lcells, ?_, ?_⟩
  · rw [List.length_map]; exact h
  · clear h
    refine ⟨?_, ?_⟩
    · show _ = _ * 3
      induction l with
      | nil => rfl
      | cons o l ih => simp [Ln.lcells] at ih ⊢; omega
    · intro j p hj
      show Kd.M k72 w base _ p (((l.flatMap Ln.lcells).drop (j * 3)).take 3)
      have : ((l.flatMap Ln.lcells).drop (j * 3)).take 3 = [.bool p.f0, .string p.f1, .int .i64 p.f2] := by
        induction l generalizing j with
        | nil => simp at hj
        | cons o l ih =>
          cases j with
          | zero => simp at hj; subst hj; simp [Ln.lcells, lineS]
          | succ j =>
            have h3 : (j + 1) * 3 = 3 + j * 3 := by omega
            rw [List.flatMap_cons, h3, ← List.drop_drop]
            exact ih j (by simpa using hj)
      rw [this]
      exact k72_mkM _ _ _ _
theorem lex_Lines.calls (a0 : ByteArray) (t0 : List S72) (t1 t2 : Int) (w : World) (hm : MaxCell w) (h : lex_Lines.f a0 = some (t0, t1, t2)) :
    Calls Tryz.prog 18 #[.string a0] w fun e w' => ∃ v0_ : Value, e = .returned (.tuple #[v0_, .int .i64 t1, .int .i64 t2]) ∧ Kd.R k72 72 w' w.heap.size (fun _ => True) v0_ t0 ∧ Below w.heap.size w w' := by
  obtain ⟨l, rfl⟩ := B_surj a0
  have h' := Option.some.inj h
  have e1 : (Ln.linesL l).1.map lineS = t0 := congrArg (·.1) h'
  have e2 : ((Ln.linesL l).2.1 : Int) = t1 := congrArg (·.2.1) h'
  have e3 : (Ln.linesL l).2.2 = t2 := congrArg (·.2.2) h'
  subst e1 e2 e3
  by_cases hl : l.length ≤ 16384
  · refine (Ln.Lines_any l hl w hm).mono ?_
    rintro e w' ⟨v, rfl, hb, ho⟩
    exact ⟨v, rfl, Kd.R_lower (lines_R ho) (Nat.le_succ _), hb⟩
  · have e0 : Ln.linesL l = ([], 0, 3) := by rw [Ln.linesL, if_pos (by omega)]
    refine (Ln.Lines_long l (by omega) w).mono ?_
    rintro e w' ⟨rfl, rfl⟩
    rw [e0]
    exact ⟨_, rfl, Kd.R_nil _ _ _ _ _, Below.refl _ _⟩
end Go.Proofs.YtbjekebkgidhaaaGreatDoor.P
end
section
set_option linter.unusedSimpArgs false
set_option linter.unusedVariables false
namespace Go.Proofs.YtbjekebkgidhaaaGreatDoor.Mf
open Go.RowKit Go.Lib Go.Shelf Go.Maps Go.Proofs.YtbjekebkgidhaaaGreatDoorW.PrintWords Go.Proofs.YtbjekebkgidhaaaGreatDoor.U Go.Proofs.YtbjekebkgidhaaaGreatDoor.Sc Go.Proofs.YtbjekebkgidhaaaGreatDoor.P Go.Proofs.YtbjekebkgidhaaaGreatDoor.MapV
theorem rows3 {w : World} {b : Nat} {A : Option Addr} {c : Nat} {ls : List Ln.LineT} (h : w.ownsRow b 72 3 (.slice A ls.length c) ls.length (ls.flatMap Ln.lcells)) (i : Nat) (hi : i < ls.length) :
    ∃ q, A = some ⟨q, 0, none⟩ ∧ w.cell? ⟨q, i * 3, none⟩ = some (.bool ls[i].inner) ∧ w.cell? ⟨q, i * 3 + 1, none⟩ = some (.string (B ls[i].text)) ∧ w.cell? ⟨q, i * 3 + 2, none⟩ = some (.int .i64 (ls[i].num : Int)) := by
  rcases h.2 with ⟨_, e2⟩ | ⟨q, cap, cur, e, _, hh, _, _, _, ht⟩
  · omega
  injection e with e _ _
  refine ⟨q, e, ?_⟩
  have hget : ∀ (l : List Ln.LineT) (i : Nat) (hi : i < l.length) (k : Nat), k < 3 → (l.flatMap Ln.lcells)[i * 3 + k]? = (Ln.lcells l[i])[k]? := by
    intro l
    induction l with
    | nil => intro i hi; exact absurd hi (by simp)
    | cons x l ih =>
      intro i hi k hk
      rw [List.flatMap_cons]
      cases i with
      | zero =>
        rw [List.getElem?_append_left (by simp [Ln.lcells]; omega)]
        simp
      | succ i =>
        rw [List.getElem?_append_right (by simp [Ln.lcells]; omega)]
        have := ih i (by simpa using hi) k hk
        rw [show (i + 1) * 3 + k - (Ln.lcells x).length = i * 3 + k by simp [Ln.lcells]; omega, this]
        rfl
  have hc : ∀ k, k < 3 → w.cell? ⟨q, i * 3 + k, none⟩ = (Ln.lcells ls[i])[k]? := by
    intro k hk
    rw [cell_of_heap hh, ← hget ls i hi k hk, ← ht, List.getElem?_take_of_lt (by omega)]
    simp
  exact ⟨(hc 0 (by omega)).trans rfl, (hc 1 (by omega)).trans rfl, (hc 2 (by omega)).trans rfl⟩
def noPanic (Q : Exit → Act → World → Prop) : Exit → Act → World → Prop
  | .panic _, _, _ => False
  | e, a, w => Q e a w
theorem quiet {P : Program} {c : Code} {Q : Exit → Act → World → Prop} {a : Act} {w : World} (h : c.wp P (noPanic Q) a w) : c.wp P Q a w :=
  wp_mono h (by
    intro e a w h
    cases e with
    | panic ch => exact h.elim
    | normal => exact h
    | exit _ => exact h
    | goto _ => exact h
    | ret => exact h
    | outgrown => exact h)
def mem0 (n : Nat) : Mem where
  role b := if b = n + 1 + 1 + 1 then .reader else if b = n then .fmap else if b = n + 1 + 1 then .rmap else .still
  r := n + 1 + 1 + 1
  fb := n + 1
  fm := n
  rm := n + 1 + 1
  rb _ := 0
  tb _ := 0
  eb _ := 0
  sb _ := 0
  mb _ := 0
  e0 _ := undef
  e1 _ := undef
  e2 _ := undef
  e3 _ := undef
  ve := .slice none 0 0
  vd := .slice none 0 0
  line := 0
  vi := .nilFunc
  vo := .pointer none
  n := 0
theorem Inv.init (w : World) : Inv w.heap.size ((((w.alloc (.map #[] 0)).alloc (.cells #[.pointer none, .map (some w.heap.size)] 91)).alloc (.map #[] 0)).alloc (.cells #[at0 (w.heap.size + 1), .map (some (w.heap.size + 1 + 1)), .slice none 0 0, .slice none 0 0, .int .i64 ((0 : Nat) : Int), .nilFunc, .pointer none] 70))
    (mem0 w.heap.size) St.init := by
  have hm : ∀ b o, (b = w.heap.size ∧ o = Obj.map #[] 0) ∨ (b = w.heap.size + 1 ∧ o = .cells #[.pointer none, .map (some w.heap.size)] 91 (0, 0)) ∨ (b = w.heap.size + 1 + 1 ∧ o = .map #[] 0) ∨ (b = w.heap.size + 1 + 1 + 1 ∧ o = .cells #[at0 (w.heap.size + 1), .map (some (w.heap.size + 1 + 1)), .slice none 0 0, .slice none 0 0, .int .i64 ((0 : Nat) : Int), .nilFunc, .pointer none] 70 (0, 0)) →
      ((((w.alloc (.map #[] 0)).alloc (.cells #[.pointer none, .map (some w.heap.size)] 91)).alloc (.map #[] 0)).alloc (.cells #[at0 (w.heap.size + 1), .map (some (w.heap.size + 1 + 1)), .slice none 0 0, .slice none 0 0, .int .i64 ((0 : Nat) : Int), .nilFunc, .pointer none] 70)).heap[b]? = some o := by
    intro b o h
    rcases h with ⟨rfl, rfl⟩ | ⟨rfl, rfl⟩ | ⟨rfl, rfl⟩ | ⟨rfl, rfl⟩
    · refine (heapAt_lt ?_).trans ((heapAt_lt ?_).trans ((heapAt_lt ?_).trans (heapAt_eq rfl)))
      all_goals simp only [World.size_alloc]
      all_goals omega
    · refine (heapAt_lt ?_).trans ((heapAt_lt ?_).trans (heapAt_eq ?_))
      all_goals simp only [World.size_alloc]
      all_goals omega
    · refine (heapAt_lt ?_).trans (heapAt_eq ?_)
      all_goals simp only [World.size_alloc]
      all_goals omega
    · refine heapAt_eq ?_
      simp only [World.size_alloc]
  have r1 : (mem0 w.heap.size).role (w.heap.size + 1 + 1 + 1) = .reader := if_pos rfl
  have r2 : (mem0 w.heap.size).role w.heap.size = .fmap := by
    show (if _ then _ else if _ then _ else _) = _
    rw [if_neg (by omega), if_pos rfl]
  have r3 : (mem0 w.heap.size).role (w.heap.size + 1 + 1) = .rmap := by
    show (if _ then _ else if _ then _ else if _ then _ else _) = _
    rw [if_neg (by omega), if_neg (by omega), if_pos rfl]
  have r4 : (mem0 w.heap.size).role (w.heap.size + 1) = .still := by
    show (if _ then _ else if _ then _ else if _ then _ else _) = _
    rw [if_neg (by omega), if_neg (by omega), if_neg (by omega)]
  refine ⟨by simp; omega, ?_, r1, hm _ _ (.inr (.inr (.inr ⟨rfl, rfl⟩))), r4, hm _ _ (.inr (.inl ⟨rfl, rfl⟩)), r2, OwnsM.made_at (hm _ _ (.inl ⟨rfl, rfl⟩)), Short.none0 _, r3, ?_, ?_, ?_, by show 0 ≤ 200; omega, World.ownsRow_nil _ _ _ _, ?_, World.ownsRow_nil _ _ _ _, ?_, by show 0 ≤ _; omega, .inl ⟨rfl, rfl, rfl⟩⟩
  · intro b hb
    have : (if b = w.heap.size + 1 + 1 + 1 then Role.reader else if b = w.heap.size then .fmap else if b = w.heap.size + 1 + 1 then .rmap else .still) ≠ Role.still := hb
    by_cases h1 : b = w.heap.size + 1 + 1 + 1
    · omega
    by_cases h2 : b = w.heap.size
    · omega
    by_cases h3 : b = w.heap.size + 1 + 1
    · omega
    rw [if_neg h1, if_neg h2, if_neg h3] at this
    exact absurd rfl this
  · have h1 : OwnsV ((((w.alloc (.map #[] 0)).alloc (.cells #[.pointer none, .map (some w.heap.size)] 91)).alloc (.map #[] 0))) (w.heap.size + 1 + 1) 0 noneV := by
      have := OwnsV.made ((w.alloc (.map #[] 0)).alloc (.cells #[.pointer none, .map (some w.heap.size)] 91))
      simpa using this
    exact h1.same (heapAt_lt (by simp))
  · intro i hi; exact absurd hi (by show ¬ i < 0; omega)
  · intro j hj; exact absurd hj (by show ¬ j < 0; omega)
  · intro b hb; cases hb
  · intro b hb; cases hb
end Go.Proofs.YtbjekebkgidhaaaGreatDoor.Mf
end
section
set_option linter.unusedSimpArgs false
set_option linter.unusedVariables false
namespace Go.Proofs.YtbjekebkgidhaaaGreatDoor.Mf
open Go.RowKit Go.Lib Go.Shelf Go.Maps Go.Proofs.YtbjekebkgidhaaaGreatDoorW.PrintWords Go.Proofs.YtbjekebkgidhaaaGreatDoor.U Go.Proofs.YtbjekebkgidhaaaGreatDoor.Sc Go.Proofs.YtbjekebkgidhaaaGreatDoor.P Go.Proofs.YtbjekebkgidhaaaGreatDoor.MapV
def Plain : Obj → Prop
  | .cells _ t _ => t ≠ 32 ∧ t ≠ 47 ∧ t ≠ 3 ∧ t ≠ 27
  | _ => True
def Stay (w w' : World) : Prop := w.heap.size ≤ w'.heap.size ∧ ∀ (b : Nat) (o : Obj), w.heap[b]? = some o → Plain o → w'.heap[b]? = some o
section
variable {w w' : World} {B0 : Nat} {g : Mem} {st : St} {i : Nat}
theorem Stay.below (h : Below w.heap.size w w') : Stay w w' := ⟨h.size, fun b o hb _ => (h.block b (lt_blk hb)).trans hb⟩
theorem Stay.trans {w2 : World} (h : Stay w w') (k : Stay w' w2) : Stay w w2 := ⟨Nat.le_trans h.1 k.1, fun b o hb ho => k.2 b o (h.2 b o hb ho) ho⟩
theorem Stay.setCell {b : Nat} {cs : Array Value} {t : TypeId} {fr : Nat × Nat} (hb : w.heap[b]? = some (.cells cs t fr)) (hp : ¬ Plain (.cells cs t fr)) (k : Nat) (u : Value) : Stay w (w.setCell ⟨b, k, none⟩ u) := by
  refine ⟨by simp, fun b' o hb' ho => ?_⟩
  refine (Below.heap_setCell _ _ _ b' (fun e => ?_)).trans hb'
  rw [show b' = b from e, hb] at hb'
  injection hb' with hb'
  rw [← hb'] at ho
  exact hp ho
theorem Stay.mapM {b n : Nat} {m : MapL} (h : OwnsM w b n m) (k : Stay w w') : OwnsM w' b n m := by
  obtain ⟨D, ⟨es, clock, h1, h2⟩, r⟩ := h
  exact ⟨D, ⟨es, clock, k.2 b _ h1 trivial, h2⟩, r⟩
theorem Stay.row {t : TypeId} {n : Nat} {v : Value} {xs : List Value} {b : Nat} (h : w.ownsRow b t 1 v n xs) (k : Stay w w') (ht : t ≠ 32 ∧ t ≠ 47 ∧ t ≠ 3 ∧ t ≠ 27) : w'.ownsRow b t 1 v n xs := by
  refine own_move h fun q hq => ?_
  obtain ⟨cs, hcs⟩ := own_typed h q hq
  rw [hcs]; exact k.2 q _ hcs ht
theorem Stay.sl {v : Value} {l : List Txt} (h : SlA B0 w g v l) (k : Stay w w') : SlA B0 w' g v l := ⟨Stay.row h.own k (by decide), h.rl⟩
theorem Rest.stay (h : Rest B0 w g st i) (k : Stay w w') : Rest B0 w' g st i := by
  obtain ⟨ln, hr⟩ := h.hr
  refine ⟨Nat.le_trans h.base k.1, h.new, h.rr, ⟨ln, k.2 _ _ hr (by simp [Plain])⟩, h.rf, k.2 _ _ h.hf (by simp [Plain]), h.rfm, Stay.mapM h.mf k, h.sf, ?_, ?_, ?_, h.ne, Stay.row h.oe k (by decide), h.roe, Stay.row h.od k (by decide), h.rod⟩
  · intro q hq
    have a := h.rules q hq
    exact ⟨a.rr, a.rt, k.2 _ _ a.hb (by simp [Plain]), Stay.mapM a.ht k, a.nm, a.sh⟩
  · intro j hj hij
    have a := h.edges j hj hij
    exact ⟨a.re, a.rs, a.rm, k.2 _ _ a.he (by simp [Plain]), k.2 _ _ a.hs (by simp [Plain]), Stay.mapM a.hm k, a.lt, Stay.sl a.s0 k, Stay.sl a.s1 k, Stay.sl a.s2 k, Stay.sl a.s3 k, a.sh, a.f0, a.f1⟩
  · intro j hj
    obtain ⟨a, b, c, d⟩ := h.rows j hj
    exact ⟨Stay.sl a k, Stay.sl b k, Stay.sl c k, Stay.sl d k⟩
end
end Go.Proofs.YtbjekebkgidhaaaGreatDoor.Mf
end
section
set_option linter.unusedSimpArgs false
set_option linter.unusedVariables false
namespace Go.Proofs.YtbjekebkgidhaaaGreatDoor.Mf
open Go.RowKit Go.Lib Go.Shelf Go.Maps Go.Proofs.YtbjekebkgidhaaaGreatDoorW.PrintWords Go.Proofs.YtbjekebkgidhaaaGreatDoor.U Go.Proofs.YtbjekebkgidhaaaGreatDoor.Sc Go.Proofs.YtbjekebkgidhaaaGreatDoor.P Go.Proofs.YtbjekebkgidhaaaGreatDoor.MapV
theorem lines_both (text : Txt) (w : World) (hm : MaxCell w) : Calls Tryz.prog 18 #[.string (B text)] w fun e w' => ∃ v, e = .returned (.tuple #[v, .int .i64 ((Ln.linesL text).2.1 : Int), .int .i64 (Ln.linesL text).2.2]) ∧ Below w.heap.size w w' ∧
    w'.ownsRow w.heap.size 72 3 v (Ln.linesL text).1.length ((Ln.linesL text).1.flatMap Ln.lcells) := by
  by_cases hl : text.length ≤ 16384
  · refine (Ln.Lines_any text hl w hm).mono ?_
    rintro e w' ⟨v, rfl, hb, ho⟩
    exact ⟨v, rfl, hb, own_lower ho (Nat.le_succ _)⟩
  · have e0 : Ln.linesL text = ([], 0, 3) := by rw [Ln.linesL, if_pos (by omega)]
    refine (Ln.Lines_long text (by omega) w).mono ?_
    rintro e w' ⟨rfl, rfl⟩
    rw [e0]
    exact ⟨_, rfl, Below.refl _ _, World.ownsRow_nil _ _ _ _⟩
def ecells (f0 f1 f2 f3 : Nat → Value) : Nat → List EdgeO → List Value
  | _, [] => []
  | k, o :: r => [f0 k, f1 k, f2 k, f3 k, .string (B o.command), .string (B o.depfile)] ++ ecells f0 f1 f2 f3 (k + 1) r
theorem ecells_append (f0 f1 f2 f3 : Nat → Value) : ∀ (l : List EdgeO) (k : Nat) (o : EdgeO), ecells f0 f1 f2 f3 k (l ++ [o]) = ecells f0 f1 f2 f3 k l ++ [f0 (k + l.length), f1 (k + l.length), f2 (k + l.length), f3 (k + l.length), .string (B o.command), .string (B o.depfile)]
  | [], k, o => by simp [ecells]
  | x :: l, k, o => by
    simp only [List.cons_append, ecells, ecells_append f0 f1 f2 f3 l (k + 1) o, List.length_cons, List.append_assoc]
    rw [show k + 1 + l.length = k + (l.length + 1) by omega]
def EdgesAt (w : World) (b : Nat) (v : Value) (l : List EdgeO) : Prop :=
  ∃ f0 f1 f2 f3 : Nat → Value, w.ownsRow b 47 6 v l.length (ecells f0 f1 f2 f3 0 l) ∧ ∀ (j : Nat) (h : j < l.length),
    w.ownsRow b 9 1 (f0 j) l[j].outs.length (strs l[j].outs) ∧ w.ownsRow b 9 1 (f1 j) l[j].ins.length (strs l[j].ins) ∧ w.ownsRow b 9 1 (f2 j) l[j].imp.length (strs l[j].imp) ∧ w.ownsRow b 9 1 (f3 j) l[j].ord.length (strs l[j].ord)
def Parsed (w : World) (r : List EdgeO × List Txt × Nat × Int) (e : Ending) (w' : World) : Prop :=
  ∃ v0 v1, e = .returned (.tuple #[.agg #[v0, v1], .int .i64 (r.2.2.1 : Int), .int .i64 r.2.2.2]) ∧ EdgesAt w' w.heap.size v0 r.1 ∧ w'.ownsRow w.heap.size 9 1 v1 r.2.1.length (strs r.2.1) ∧ Below w.heap.size w w'
theorem EdgesAt.nil (w : World) (b : Nat) : EdgesAt w b (.slice none 0 0) [] := ⟨fun _ => undef, fun _ => undef, fun _ => undef, fun _ => undef, World.ownsRow_nil _ _ _ _, fun j h => absurd h (by simp)⟩
set_option maxRecDepth 100000 in
theorem parse_results (tmps : Array Value) (n : Nat) (h2 : tmps[2]?.getD undef = .pointer (some ⟨n, 0, none⟩)) (h3 : tmps[3]?.getD undef = .pointer (some ⟨n + 1, 0, none⟩)) (h4 : tmps[4]?.getD undef = .pointer (some ⟨n + 1 + 1, 0, none⟩)) (W : World) (v0 v1 : Value) (l c : Int)
    (hm : W.heap[n]? = some (.cells #[v0, v1] 32 (0, 0))) (hn : W.heap[n + 1]? = some (.cells #[.int .i64 l] 3 (0, 0))) (ho : W.heap[n + 1 + 1]? = some (.cells #[.int .i64 c] 27 (0, 0))) :
    (results Tryz.f9 tmps).run Tryz.prog W = .ok (.tuple #[.agg #[v0, v1], .int .i64 l, .int .i64 c]) W := by
  have m0 : W.cell? ⟨n, 0, none⟩ = some v0 := (cell_of_heap (j := 0) hm).trans rfl
  have m1 : W.cell? ⟨n, 1, none⟩ = some v1 := (cell_of_heap (j := 1) hm).trans rfl
  have c1 := cell_of_one hn
  have c2 := cell_of_one ho
  simp [results, Tryz.f9, go_sem, h2, h3, h4, m0, m1, c1, c2]
structure Frm (n : Nat) (tmps : Array Value) : Prop where
  h2 : tmps[2]?.getD undef = .pointer (some ⟨n, 0, none⟩)
  h3 : tmps[3]?.getD undef = .pointer (some ⟨n + 1, 0, none⟩)
  h4 : tmps[4]?.getD undef = .pointer (some ⟨n + 1 + 1, 0, none⟩)
abbrev dfr (n : Nat) : Deferred := { target := .fn (.func 19) #[.pointer (some ⟨n, 0, none⟩), .pointer (some ⟨n + 1, 0, none⟩), .pointer (some ⟨n + 1 + 1, 0, none⟩)], args := #[] }
theorem leave_bad {w W : World} {tmps : Array Value} (hf : Frm w.heap.size tmps) {r : List EdgeO × List Txt × Nat × Int} {l : Nat} {c : Int} (hr : r = ([], [], l, c)) {v0 v1 : Value} {x y : Int} (hm : W.heap[w.heap.size]? = some (.cells #[v0, v1] 32 (0, 0))) (hn : W.heap[w.heap.size + 1]? = some (.cells #[.int .i64 x] 3 (0, 0))) (ho : W.heap[w.heap.size + 1 + 1]? = some (.cells #[.int .i64 y] 27 (0, 0)))
    (hb : Below w.heap.size w W) : Leaves Tryz.prog Tryz.f9 tmps (Parsed w r) [dfr w.heap.size] (.panicking [{ v := .iface 60 (.agg #[.int .i64 (l : Int), .int .i64 c]), recovered := false }]) W := by
  subst hr
  refine leaves_cons (f := 19) (args := #[.pointer (some ⟨w.heap.size, 0, none⟩), .pointer (some ⟨w.heap.size + 1, 0, none⟩), .pointer (some ⟨w.heap.size + 1 + 1, 0, none⟩)]) (by simp) (by simp [go_sem]) ?_
  refine (catch_wrong _ _ _ l c _ _ _ _ W hm hn ho (by omega) (by omega) (by omega)).mono ?_
  rintro e u' w' ⟨rfl, rfl, h1, h2, h3, h4⟩
  exact ⟨_, parse_results tmps w.heap.size hf.h2 hf.h3 hf.h4 w' _ _ _ _ h1 h2 h3, _, _, rfl, EdgesAt.nil _ _, World.ownsRow_nil _ _ _ _, hb.trans (h4 _ (Nat.le_refl _) (by omega) (by omega) hb.size)⟩
theorem leave_good {w W : World} {tmps : Array Value} (hf : Frm w.heap.size tmps) {r : List EdgeO × List Txt × Nat × Int} {v0 v1 : Value} (hm : W.heap[w.heap.size]? = some (.cells #[v0, v1] 32 (0, 0))) (hn : W.heap[w.heap.size + 1]? = some (.cells #[.int .i64 (r.2.2.1 : Int)] 3 (0, 0))) (ho : W.heap[w.heap.size + 1 + 1]? = some (.cells #[.int .i64 r.2.2.2] 27 (0, 0)))
    (he : EdgesAt W w.heap.size v0 r.1) (hd : W.ownsRow w.heap.size 9 1 v1 r.2.1.length (strs r.2.1)) (hb : Below w.heap.size w W) : Leaves Tryz.prog Tryz.f9 tmps (Parsed w r) [dfr w.heap.size] .returning W := by
  refine leaves_cons (f := 19) (args := #[.pointer (some ⟨w.heap.size, 0, none⟩), .pointer (some ⟨w.heap.size + 1, 0, none⟩), .pointer (some ⟨w.heap.size + 1 + 1, 0, none⟩)]) (by simp) (by simp [go_sem]) ?_
  refine (catch_idle _ _ _ W).mono ?_
  rintro e u' w' ⟨rfl, rfl, rfl⟩
  exact ⟨_, parse_results tmps w.heap.size hf.h2 hf.h3 hf.h4 _ _ _ _ _ hm hn ho, _, _, rfl, he, hd, hb⟩
theorem leave_none {w W : World} {tmps : Array Value} (hf : Frm w.heap.size tmps) {r : List EdgeO × List Txt × Nat × Int} {l : Nat} {c : Int} (hr : r = ([], [], l, c)) (hm : W.heap[w.heap.size]? = some (.cells #[.slice none 0 0, .slice none 0 0] 32 (0, 0))) (hn : W.heap[w.heap.size + 1]? = some (.cells #[.int .i64 (l : Int)] 3 (0, 0))) (ho : W.heap[w.heap.size + 1 + 1]? = some (.cells #[.int .i64 c] 27 (0, 0)))
    (hb : Below w.heap.size w W) : Leaves Tryz.prog Tryz.f9 tmps (Parsed w r) [] .returning W := by
  subst hr
  exact ⟨_, parse_results tmps w.heap.size hf.h2 hf.h3 hf.h4 _ _ _ _ _ hm hn ho, _, _, rfl, EdgesAt.nil _ _, World.ownsRow_nil _ _ _ _, hb⟩
def PostP (n : Nat) (R : Ending → World → Prop) (Q : Exit → Act → World → Prop) : Exit → Act → World → Prop
  | .panic ch, a, w => Frm n a.tmps ∧ a.defers = [dfr n] ∧ ∀ tmps, Frm n tmps → Leaves Tryz.prog Tryz.f9 tmps R [dfr n] (.panicking ch) w
  | e, a, w => Q e a w
theorem loud {n : Nat} {R : Ending → World → Prop} {c : Code} {Q : Exit → Act → World → Prop} {a : Act} {w : World} (hQ : ∀ ch a w, Leaves Tryz.prog Tryz.f9 a.tmps R a.defers (.panicking ch) w → Q (.panic ch) a w)
    (h : c.wp Tryz.prog (PostP n R Q) a w) : c.wp Tryz.prog Q a w :=
  wp_mono h (by
    intro e a w h
    cases e with
    | panic ch => exact hQ ch a w (by rw [h.2.1]; exact h.2.2 _ h.1)
    | normal => exact h
    | exit _ => exact h
    | goto _ => exact h
    | ret => exact h
    | outgrown => exact h)
theorem postP_put {n : Nat} {R : Ending → World → Prop} {Q : Exit → Act → World → Prop} {d : Tmp} {v : Value} (h2 : d ≠ 2) (h3 : d ≠ 3) (h4 : d ≠ 4) : ∀ c (a : Act) w, PostP n R Q (.panic c) (a.put (some d) v) w → PostP n R Q (.panic c) a w := by
  intro c a w h
  have hk : ∀ k, d ≠ k → (a.put (some d) v).tmps[k]? = a.tmps[k]? := fun k hk => Array.getElem?_setIfInBounds_ne hk
  refine ⟨⟨?_, ?_, ?_⟩, h.2.1, h.2.2⟩
  · have := h.1.h2; rw [hk 2 h2] at this; exact this
  · have := h.1.h3; rw [hk 3 h3] at this; exact this
  · have := h.1.h4; rw [hk 4 h4] at this; exact this
theorem infoEdgeV : (Tryz.prog.info? 47).map (fun i => (i.zero, i.size, i.bytes)) = some (some (.agg #[.slice none 0 0, .slice none 0 0, .slice none 0 0, .slice none 0 0, .string ⟨#[]⟩, .string ⟨#[]⟩]), 6, 128) := by kernel_rfl
theorem own_one {w : World} {b e size n : Nat} {v : Value} {xs : List Value} (h : w.ownsRow b e size v n xs) : v.oneCell' = true := by
  rcases h.2 with ⟨e, _⟩ | ⟨b, cap, cur, e, _⟩ <;> rw [e] <;> rfl
theorem edges_keep {B0 : Nat} {w w' : World} {g : Mem} {st : St} {j n : Nat} {v : Value} {xs : List Value} (h : w.ownsRow B0 47 6 v n xs) (hR : Rest B0 w g st j) (hj : j < st.edges.length)
    (hk : ∀ b, b < w.drew.heap.size → b ≠ g.r → b ≠ g.eb j → b ≠ g.mb j → w'.heap[b]? = w.drew.heap[b]?) : w'.ownsRow B0 47 6 v n xs := by
  refine own_move h fun b hb => ?_
  obtain ⟨cs, hcs⟩ := own_typed h b hb
  obtain ⟨ln, hr⟩ := hR.hr
  have hE := hR.edges j hj (Nat.le_refl _)
  obtain ⟨D, ⟨es, clock, h1, _⟩, _⟩ := hE.hm
  exact hk b (lt_blk hcs) (ne_of_cells hcs hr (by decide)) (ne_of_cells hcs hE.he (by decide)) (ne_of_map hcs h1)
theorem stay_grown {B0 n : Nat} {w w' : World} {v : Value} {xs : List Value} (h : w.ownsRow B0 47 6 v n xs) (hg : w.grownBy w' v.ownBlock) : Stay w w' := by
  refine ⟨hg.size, fun b o hb ho => (hg.block b (lt_blk hb) (fun e => ?_)).trans hb⟩
  obtain ⟨cs, hcs⟩ := own_typed h b e.symm
  rw [hcs] at hb
  injection hb with hb
  rw [← hb] at ho
  simp [Plain] at ho
theorem eq_snoc {edges : List EdgeS} {acc : List EdgeO} {j : Nat} {eo : EdgeO} (hal : acc.length = j) (hj : j < edges.length) (h : ∀ (q : Nat) (h : q < acc.length), ∃ e, edges[q]? = some e ∧ acc[q].outs = e.outs ∧ acc[q].ins = e.ins ∧ acc[q].imp = e.imp ∧ acc[q].ord = e.ord)
    (h1 : eo.outs = (edges[j]?.map (·.outs)).getD []) (h2 : eo.ins = (edges[j]?.map (·.ins)).getD []) (h3 : eo.imp = (edges[j]?.map (·.imp)).getD []) (h4 : eo.ord = (edges[j]?.map (·.ord)).getD []) :
    ∀ (q : Nat) (h : q < (acc ++ [eo]).length), ∃ e, edges[q]? = some e ∧ (acc ++ [eo])[q].outs = e.outs ∧ (acc ++ [eo])[q].ins = e.ins ∧ (acc ++ [eo])[q].imp = e.imp ∧ (acc ++ [eo])[q].ord = e.ord := by
  intro q hq
  have hl : (acc ++ [eo]).length = acc.length + 1 := by simp
  rcases Nat.lt_or_ge q acc.length with hlt | hge
  · rw [List.getElem_append_left hlt]; exact h q hlt
  · obtain rfl : q = j := by omega
    have e := List.getElem?_eq_getElem hj
    rw [e] at h1 h2 h3 h4
    have e2 : (acc ++ [eo])[q] = eo := by rw [List.getElem_append_right (by omega)]; simp
    rw [e2]
    exact ⟨_, e, h1, h2, h3, h4⟩
set_option maxRecDepth 100000 in
set_option maxHeartbeats 8000000 in
theorem parse_any (text : Txt) (w : World) (hm : MaxCell w) : Calls Tryz.prog 9 #[.string (B text)] w (Parsed w (parseL text)) := by
  have hmf : ∀ (fn : Fn) (first cap : Array Value) (w : World), (Instr.makeFunc fn first cap).run Tryz.prog w = .ok (.func fn first cap) w := fun _ _ _ _ => rfl
  have hmm := @run_makeMap Tryz.prog
  have hMH := Lib.hid hm
  clear hm
  go_enter_defers Tryz.func9, Tryz.ntmps9
  go_wp2_with fail
  have hb1 : Below w.heap.size w (((w.alloc (.cells #[.slice none 0 0, .slice none 0 0] 32)).alloc (.cells #[.int .i64 0] 3)).alloc (.cells #[.int .i64 0] 27)) := by (repeat (first | exact Below.refl _ _ | refine Below.drew ?_ | refine Below.setCell ?_ (by simp <;> omega) _ | refine Below.alloc ?_ (by simp <;> omega) _))
  have hz1 : (((w.alloc (.cells #[.slice none 0 0, .slice none 0 0] 32)).alloc (.cells #[.int .i64 0] 3)).alloc (.cells #[.int .i64 0] 27)).heap.size = w.heap.size + 1 + 1 + 1 := by simp
  have bm : (((w.alloc (.cells #[.slice none 0 0, .slice none 0 0] 32)).alloc (.cells #[.int .i64 0] 3)).alloc (.cells #[.int .i64 0] 27)).heap[w.heap.size]? = some (.cells #[.slice none 0 0, .slice none 0 0] 32 (0, 0)) := by
    refine (heapAt_lt ?_).trans ((heapAt_lt ?_).trans (heapAt_eq rfl))
    all_goals simp only [World.size_alloc]
    all_goals omega
  have bn : (((w.alloc (.cells #[.slice none 0 0, .slice none 0 0] 32)).alloc (.cells #[.int .i64 0] 3)).alloc (.cells #[.int .i64 0] 27)).heap[w.heap.size + 1]? = some (.cells #[.int .i64 0] 3 (0, 0)) := by
    refine (heapAt_lt ?_).trans (heapAt_eq ?_)
    all_goals simp only [World.size_alloc]
    all_goals omega
  have bo : (((w.alloc (.cells #[.slice none 0 0, .slice none 0 0] 32)).alloc (.cells #[.int .i64 0] 3)).alloc (.cells #[.int .i64 0] 27)).heap[w.heap.size + 1 + 1]? = some (.cells #[.int .i64 0] 27 (0, 0)) := by
    refine heapAt_eq ?_
    simp only [World.size_alloc]
  refine (lines_both text _ (hMH.out.below hb1)).mono ?_
  rintro e w2 ⟨v, rfl, hb, ho⟩
  have hB2 := Lib.hid (hb1.trans (hb.mono hb1.size))
  have hz2 : w.heap.size + 1 + 1 + 1 ≤ w2.heap.size := by rw [← hz1]; exact hb.size
  have hm2 := Lib.hid ((hb.block _ (lt_blk bm)).trans bm)
  have hn2 := Lib.hid ((hb.block _ (lt_blk bn)).trans bn)
  have ho2 := Lib.hid ((hb.block _ (lt_blk bo)).trans bo)
  obtain ⟨A, c, rfl⟩ : ∃ A c, v = .slice A (Ln.linesL text).1.length c := by
    rcases ho.2 with ⟨e, e2⟩ | ⟨b, cap, _, e, _⟩
    · exact ⟨none, 0, by rw [e, e2]⟩
    · exact ⟨_, _, e⟩
  have hO : Hid (w2.ownsRow (w.heap.size + 1 + 1 + 1) 72 3 (.slice A (Ln.linesL text).1.length c) (Ln.linesL text).1.length ((Ln.linesL text).1.flatMap Ln.lcells)) := by rw [← hz1]; exact ho
  have hPL : Hid (parseL text = if (Ln.linesL text).2.2 = 0 then (match parseE (Ln.linesL text).1 with
      | .error e => ([], [], e.1, e.2)
      | .ok r => (r.1, r.2, 0, 0)) else ([], [], (Ln.linesL text).2.1, (Ln.linesL text).2.2)) := rfl
  have hLen := Lib.hid (linesL_len text)
  have oc : w2.cell? ⟨w.heap.size + 1 + 1, 0, none⟩ = some (.int .i64 0) := (cell_of_heap (j := 0) ho2.out).trans rfl
  have of_ := frozen_of_heap ho2.out 0
  clear hb1 hz1 bm bn bo hb ho
  obtain ⟨⟨ls, ln, er⟩, hL⟩ : ∃ x, Ln.linesL text = x := ⟨_, rfl⟩
  rw [hL] at hO hPL hLen ⊢
  dsimp only at hO hPL hLen ⊢
  clear hL
  have w3d : ∃ w3, w2.setCell ⟨w.heap.size + 1 + 1, 0, none⟩ (.int .i64 er) = w3 := ⟨_, rfl⟩
  obtain ⟨w3, hw3'⟩ := w3d
  have hw3 := Lib.hid hw3'
  clear hw3'
  go_upto_region 2 with (fail)
  rw [hw3.out]
  have hm3 : Hid (w3.heap[w.heap.size]? = some (.cells #[.slice none 0 0, .slice none 0 0] 32 (0, 0))) := by rw [← hw3.out]; exact (Below.heap_setCell _ _ _ _ (by show _ ≠ w.heap.size + 1 + 1; omega)).trans hm2.out
  have hn3 : Hid (w3.heap[w.heap.size + 1]? = some (.cells #[.int .i64 0] 3 (0, 0))) := by rw [← hw3.out]; exact (Below.heap_setCell _ _ _ _ (by show _ ≠ w.heap.size + 1 + 1; omega)).trans hn2.out
  have ho3 : Hid (w3.heap[w.heap.size + 1 + 1]? = some (.cells #[.int .i64 er] 27 (0, 0))) := by rw [← hw3.out]; exact blk_put ho2.out 0 _ rfl
  have hB3 : Hid (Below w.heap.size w w3) := by rw [← hw3.out]; exact hB2.out.setCell (by show _ ≤ w.heap.size + 1 + 1; omega) _
  have hO3 : Hid (w3.ownsRow (w.heap.size + 1 + 1 + 1) 72 3 (.slice A ls.length c) ls.length (ls.flatMap Ln.lcells)) := by
    rw [← hw3.out]
    exact own_move hO.out fun b hb => Below.heap_setCell _ _ _ b (fun e => by have := own_base hO.out b hb; have : b = w.heap.size + 1 + 1 := e; omega)
  have hz3 : w.heap.size + 1 + 1 + 1 ≤ w3.heap.size := by rw [← hw3.out]; simpa using hz2
  by_cases her : er = 0
  · subst her
    have hP := Lib.hid (hPL.out.trans (if_pos rfl))
    have oc3 : w3.cell? ⟨w.heap.size + 1 + 1, 0, none⟩ = some (.int .i64 0) := (cell_of_heap (j := 0) ho3.out).trans rfl
    clear hPL oc of_
    go_wp2_with fail
    clear hw3 hm2 hn2 ho2 hB2 hO hz2
    refine (New_any none w3).mono ?_
    rintro e w4 ⟨rfl, rfl⟩
    go_wp2_with fail
    have hI4 : Hid (Inv w3.heap.size ((((w3.alloc (.map #[] 0)).alloc (.cells #[.pointer none, .map (some w3.heap.size)] 91)).alloc (.map #[] 0)).alloc (.cells #[at0 (w3.heap.size + 1), .map (some (w3.heap.size + 1 + 1)), .slice none 0 0, .slice none 0 0, .int .i64 ((0 : Nat) : Int), .nilFunc, .pointer none] 70)) (mem0 w3.heap.size) St.init) := Inv.init w3
    have hB4 : Below w3.heap.size w3 ((((w3.alloc (.map #[] 0)).alloc (.cells #[.pointer none, .map (some w3.heap.size)] 91)).alloc (.map #[] 0)).alloc (.cells #[at0 (w3.heap.size + 1), .map (some (w3.heap.size + 1 + 1)), .slice none 0 0, .slice none 0 0, .int .i64 ((0 : Nat) : Int), .nilFunc, .pointer none] 70)) := by (repeat (first | exact Below.refl _ _ | refine Below.drew ?_ | refine Below.setCell ?_ (by simp <;> omega) _ | refine Below.alloc ?_ (by simp <;> omega) _))
    obtain ⟨w4, hw4⟩ : ∃ w4, ((((w3.alloc (.map #[] 0)).alloc (.cells #[.pointer none, .map (some w3.heap.size)] 91)).alloc (.map #[] 0)).alloc (.cells #[at0 (w3.heap.size + 1), .map (some (w3.heap.size + 1 + 1)), .slice none 0 0, .slice none 0 0, .int .i64 ((0 : Nat) : Int), .nilFunc, .pointer none] 70)) = w4 := ⟨_, rfl⟩
    rw [hw4] at hI4 hB4
    change Code.wp _ _ _ _ ((((w3.alloc (.map #[] 0)).alloc (.cells #[.pointer none, .map (some w3.heap.size)] 91)).alloc (.map #[] 0)).alloc (.cells #[at0 (w3.heap.size + 1), .map (some (w3.heap.size + 1 + 1)), .slice none 0 0, .slice none 0 0, .int .i64 ((0 : Nat) : Int), .nilFunc, .pointer none] 70))
    rw [hw4]
    clear hw4
    have hm4 := Lib.hid ((hB4.block _ (lt_blk hm3.out)).trans hm3.out)
    have hn4 := Lib.hid ((hB4.block _ (lt_blk hn3.out)).trans hn3.out)
    have ho4 := Lib.hid ((hB4.block _ (lt_blk ho3.out)).trans ho3.out)
    have hBw4 := Lib.hid (hB3.out.trans (hB4.mono hB3.out.size))
    have hO4 := Lib.hid (own_move hO3.out fun b hb => hB4.block b (own_lt hO3.out b hb))
    have hRow := Lib.hid (rows3 hO4.out)
    obtain ⟨R, hR⟩ : ∃ R, linesE St.init ls = R := ⟨_, rfl⟩
    have hRH := Lib.hid hR
    have hE0 : Hid (linesE St.init (ls.drop 0) = R) := by rw [List.drop_zero]; exact hR
    obtain ⟨n, hN⟩ : ∃ n, ls.length = n := ⟨_, rfl⟩
    have hNH := Lib.hid hN
    have hB5 := Lib.hid hB4
    rw [hN]
    clear hN hR oc3 hB4
    go_loopg [30] n (fun gk s30 wr => ∃ (i : Nat) (st : St) (g : Mem), s30 = .int .i64 (i : Int) ∧ i + gk = n ∧ g.r = w3.heap.size + 1 + 1 + 1 ∧ g.n ≤ i ∧ st.defs.length ≤ 16384 * i ∧ Hid (Inv w3.heap.size wr g st) ∧ Hid (Below w3.heap.size w4 wr) ∧ Hid (linesE st (ls.drop i) = R))
    case atStart => exact ⟨0, St.init, mem0 w3.heap.size, rfl, Nat.zero_add _, rfl, Nat.le_refl _, Nat.zero_le _, hI4, Below.refl _ _, hE0⟩
    case round =>
      obtain ⟨i, st, g, rfl, hik, hgr, hgn, hdl, hI, hB, hE⟩ := hrel
      cases gk with
      | zero =>
        obtain rfl : i = n := by omega
        have hlt : decide ((i : Int) < (i : Int)) = false := by simp
        have hRst : Hid (R = .ok st) := by
          show R = _
          have := hE.out
          rw [List.drop_of_length_le (by rw [hNH.out]; omega)] at this
          exact this.symm
        clear hE
        go_wp2_with fail
        have hT := close_far w3.heap.size g st wr hI.out
        rw [hgr] at hT
        rcases hc : closeE st with ⟨l1, c1⟩ | st2
        · rw [hc] at hT
          have hPR : parseL text = ([], [], l1, c1) := by
            rw [hP.out, parseE, hRH.out, hRst.out]; simp only [hc]
          refine hT.mono ?_
          rintro e w5 ⟨rfl, hb⟩
          have hb5 := hB.out.trans hb
          exact leave_bad ⟨rfl, rfl, rfl⟩ hPR ((hb5.block _ (by omega)).trans hm4.out) ((hb5.block _ (by omega)).trans hn4.out) ((hb5.block _ (by omega)).trans ho4.out) (hBw4.out.trans (hb5.mono (by omega)))
        · rw [hc] at hT
          refine hT.mono ?_
          rintro e w5 ⟨rfl, ⟨g2, q1, q2, q3, q4, q5⟩, hb, hk, hs5⟩
          have hI5 := Lib.hid q1
          have hb5 := Lib.hid (hB.out.trans hb)
          have hr2 : g2.r = w3.heap.size + 1 + 1 + 1 := q2.trans hgr
          have hPS : Hid (parseL text = match endsAll st2.file st2.rules st2.edges [] with
              | .error e => ([], [], e.1, e.2)
              | .ok es => (es, st2.defs, 0, 0)) := by
            show _ = _
            rw [hP.out, parseE, hRH.out, hRst.out]
            simp only [hc]
            rcases endsAll st2.file st2.rules st2.edges [] with ⟨l1, c1⟩ | es <;> rfl
          obtain ⟨Ae, ce, hve⟩ := own_row hI5.out.oe
          have cE : w5.cell? ⟨w3.heap.size + 1 + 1 + 1, 2, none⟩ = some (.slice Ae st2.edges.length ce) := by rw [← hr2]; exact (hI5.out.cell 2).trans (congrArg some hve)
          have hgn2 : g2.n ≤ i := by omega
          clear q1 q2 q3 hb hk hs5 hT hI hB hc hRst
          obtain ⟨ne, hNE⟩ : ∃ ne, st2.edges.length = ne := ⟨_, rfl⟩
          have hNEH := Lib.hid hNE
          have hne : ne ≤ 200 := hNE ▸ hI5.out.ne
          obtain ⟨RE, hRE⟩ : ∃ RE, endsAll st2.file st2.rules st2.edges [] = RE := ⟨_, rfl⟩
          have hREH := Lib.hid hRE
          have hRE0 : Hid (endsAll st2.file st2.rules (st2.edges.drop 0) [] = RE) := by rw [List.drop_zero]; exact hRE
          have hRest := Lib.hid hI5.out.rest
          have hVE := Lib.hid hve
          have hm5 := Lib.hid ((hb5.out.block _ (by omega)).trans hm4.out)
          have hn5 := Lib.hid ((hb5.out.block _ (by omega)).trans hn4.out)
          have ho5 := Lib.hid ((hb5.out.block _ (by omega)).trans ho4.out)
          have hBw5 := Lib.hid (hBw4.out.trans (hb5.out.mono (by omega)))
          clear hRE hve
          rw [hNE] at cE
          clear hNE
          go_wp2_with fail
          clear cE
          go_loopg [45] ne (fun gk s45 wr => ∃ (j : Nat) (acc : List EdgeO) (vE : Value), s45 = .int .i64 (j : Int) ∧ j + gk = ne ∧ Hid (acc.length = j) ∧ Hid (Rest w3.heap.size wr g2 st2 j) ∧ Hid (Below w.heap.size w wr) ∧ Hid (wr.heap[w.heap.size]? = some (.cells #[vE, .slice none 0 0] 32 (0, 0))) ∧ Hid (wr.heap[w.heap.size + 1]? = some (.cells #[.int .i64 0] 3 (0, 0))) ∧ Hid (wr.heap[w.heap.size + 1 + 1]? = some (.cells #[.int .i64 0] 27 (0, 0))) ∧
            Hid (wr.ownsRow w3.heap.size 47 6 vE acc.length (ecells g2.e0 g2.e1 g2.e2 g2.e3 0 acc)) ∧ Hid (endsAll st2.file st2.rules (st2.edges.drop j) acc = RE) ∧ Hid (∀ (q : Nat) (h : q < acc.length), ∃ e, st2.edges[q]? = some e ∧ acc[q].outs = e.outs ∧ acc[q].ins = e.ins ∧ acc[q].imp = e.imp ∧ acc[q].ord = e.ord))
          case atStart => exact ⟨0, [], .slice none 0 0, rfl, Nat.zero_add _, rfl, hRest, hBw5, hm5, hn5, ho5, World.ownsRow_nil _ _ _ _, hRE0, fun q h => absurd h (by simp)⟩
          case round =>
            obtain ⟨j, acc, vE, rfl, hjk, hal, hRs, hBj, hmj, hnj, hoj, hrow, hEA, hEq⟩ := hrel
            cases gk with
            | zero =>
              obtain rfl : j = ne := by omega
              have hlt : decide ((j : Int) < (j : Int)) = false := by simp
              have hRE1 : Hid (RE = .ok acc) := by
                show RE = _
                have := hEA.out
                rw [List.drop_of_length_le (by rw [hNEH.out]; omega)] at this
                exact this.symm
              have hPZ : Hid (parseL text = (acc, st2.defs, 0, 0)) := by show _ = _; rw [hPS.out, hREH.out, hRE1.out]
              obtain ⟨ln2, hrr⟩ := hRs.out.hr
              obtain ⟨Ad, cd, hvd⟩ := own_row hRs.out.od
              obtain ⟨Av, cv, rfl⟩ : ∃ A c, vE = .slice A acc.length c := by
                rcases hrow.out.2 with ⟨e, e2⟩ | ⟨b, cap, _, e, _⟩
                · exact ⟨none, 0, by rw [e, e2]⟩
                · exact ⟨_, _, e⟩
              have c3 : wr.cell? ⟨w3.heap.size + 1 + 1 + 1, 3, none⟩ = some (.slice Ad st2.defs.length cd) := by rw [← hr2, ← hvd]; exact (cell_of_heap (j := 3) hrr).trans rfl
              have m0 := (cell_of_heap (j := 0) hmj.out).trans rfl
              have m1 := (cell_of_heap (j := 1) hmj.out).trans rfl
              have n0 := (cell_of_heap (j := 0) hnj.out).trans rfl
              have o0 := (cell_of_heap (j := 0) hoj.out).trans rfl
              have mf0 := frozen_of_heap hmj.out 0
              have mf1 := frozen_of_heap hmj.out 1
              have nf0 := frozen_of_heap hnj.out 0
              have of0 := frozen_of_heap hoj.out 0
              have hVD := Lib.hid hvd
              clear hvd hrr hEA hRE0
              go_wp2_with fail
              rw [hPZ.out]
              have y1 := blk_put hmj.out 1 (.slice Ad st2.defs.length cd) rfl
              have y2 := blk_put y1 0 (.slice Av acc.length cv) rfl
              have y3 := blk_put y2 1 (.slice Ad st2.defs.length cd) rfl
              have t1 := Stay.setCell hmj.out (by simp [Plain]) 1 (.slice Ad st2.defs.length cd)
              have t2 := t1.trans (Stay.setCell y1 (by simp [Plain]) 0 (.slice Av acc.length cv))
              have t3 := t2.trans (Stay.setCell y2 (by simp [Plain]) 1 (.slice Ad st2.defs.length cd))
              have kk : ∀ b, b ≠ w.heap.size → (((wr.setCell ⟨w.heap.size, 1, none⟩ (.slice Ad st2.defs.length cd)).setCell ⟨w.heap.size, 0, none⟩ (.slice Av acc.length cv)).setCell ⟨w.heap.size, 1, none⟩ (.slice Ad st2.defs.length cd)).heap[b]? = wr.heap[b]? := fun b hb => by rw [Below.heap_setCell _ _ _ b hb, Below.heap_setCell _ _ _ b hb, Below.heap_setCell _ _ _ b hb]
              have zn := (kk (w.heap.size + 1) (by omega)).trans hnj.out
              have zo := (kk (w.heap.size + 1 + 1) (by omega)).trans hoj.out
              have bw : Below w.heap.size w (((wr.setCell ⟨w.heap.size, 1, none⟩ (.slice Ad st2.defs.length cd)).setCell ⟨w.heap.size, 0, none⟩ (.slice Av acc.length cv)).setCell ⟨w.heap.size, 1, none⟩ (.slice Ad st2.defs.length cd)) := ((hBj.out.setCell (Nat.le_refl _) _).setCell (Nat.le_refl _) _).setCell (Nat.le_refl _) _
              clear m0 m1 n0 o0 mf0 mf1 nf0 of0 c3 y1 y2 t1 t2
              generalize ((wr.setCell ⟨w.heap.size, 1, none⟩ (.slice Ad st2.defs.length cd)).setCell ⟨w.heap.size, 0, none⟩ (.slice Av acc.length cv)).setCell ⟨w.heap.size, 1, none⟩ (.slice Ad st2.defs.length cd) = X3 at *
              have zn4 := blk_put zn 0 (.int .i64 0) rfl
              have t4 := t3.trans (Stay.setCell zn (by simp [Plain]) 0 (.int .i64 0))
              have ym4 := (Below.heap_setCell X3 ⟨w.heap.size + 1, 0, none⟩ (.int .i64 0) w.heap.size (by show _ ≠ w.heap.size + 1; omega)).trans y3
              have zo4 := (Below.heap_setCell X3 ⟨w.heap.size + 1, 0, none⟩ (.int .i64 0) (w.heap.size + 1 + 1) (by show _ ≠ w.heap.size + 1; omega)).trans zo
              have kk4 : ∀ b, w.heap.size + 1 + 1 < b → ((X3.setCell ⟨w.heap.size + 1, 0, none⟩ (.int .i64 0)).setCell ⟨w.heap.size + 1 + 1, 0, none⟩ (.int .i64 0)).heap[b]? = wr.heap[b]? := fun b hb => by
                rw [Below.heap_setCell _ _ _ b (show b ≠ w.heap.size + 1 + 1 by omega), Below.heap_setCell _ _ _ b (show b ≠ w.heap.size + 1 by omega)]
                exact kk b (by omega)
              have t5 := t4.trans (Stay.setCell zo4 (by simp [Plain]) 0 (.int .i64 0))
              refine leave_good (v0 := (.slice Av acc.length cv)) (v1 := (.slice Ad st2.defs.length cd)) ⟨rfl, rfl, rfl⟩ ((Below.heap_setCell _ _ _ _ (by show _ ≠ w.heap.size + 1 + 1; omega)).trans ym4) ((Below.heap_setCell _ _ _ _ (by show _ ≠ w.heap.size + 1 + 1; omega)).trans zn4) (blk_put zo4 0 _ rfl) ?_ ?_ ((bw.setCell (by show _ ≤ w.heap.size + 1; omega) _).setCell (by show _ ≤ w.heap.size + 1 + 1; omega) _)
              · refine ⟨g2.e0, g2.e1, g2.e2, g2.e3, own_lower (own_move hrow.out fun b hb => kk4 b (by have := own_base hrow.out b hb; omega)) (by omega), fun q hq => ?_⟩
                obtain ⟨e, h1, h2, h3, h4, h5⟩ := hEq.out q hq
                obtain ⟨hql, h6⟩ := List.getElem?_eq_some_iff.1 h1
                obtain ⟨a, b, c, d⟩ := hRs.out.rows q hql
                rw [h6] at a b c d
                dsimp only
                rw [h2, h3, h4, h5]
                exact ⟨own_lower (Stay.sl a t5).own (by omega), own_lower (Stay.sl b t5).own (by omega), own_lower (Stay.sl c t5).own (by omega), own_lower (Stay.sl d t5).own (by omega)⟩
              · have := Stay.row hRs.out.od t5 (by decide)
                rw [hVD.out] at this
                exact own_lower this (by omega)
            | succ gk =>
              have hjl : j < st2.edges.length := by rw [hNEH.out]; omega
              have hlt : decide ((j : Int) < (ne : Int)) = true := by rw [decide_eq_true_iff]; omega
              have i1 : (0 : Int) ≤ (j : Int) := by omega
              have i2 : (j : Int) < (ne : Int) := by omega
              obtain ⟨q, hA, eq1⟩ : ∃ q, Ae = some ⟨q, 0, none⟩ ∧ wr.cell? ⟨q, j, none⟩ = some (at0 (g2.eb j)) := by
                rcases hRs.out.oe.2 with ⟨_, e2⟩ | ⟨q, cap, cur, e, _, hh, _, _, _, ht⟩
                · omega
                rw [hVE.out] at e
                injection e with e _ _
                refine ⟨q, e, ?_⟩
                rw [cell_of_heap hh]
                have h1 : cur.toList[j]? = ((List.range st2.edges.length).map fun j => at0 (g2.eb j))[j]? := by
                  rw [← ht, List.getElem?_take_of_lt (by omega)]
                simpa [hjl] using h1
              subst hA
              go_wp2_with fail
              refine loud (n := w.heap.size) (fun _ _ _ h => h) ?_
              refine RegP.region (fun w' => w'.cell? ⟨w.heap.size, 0, none⟩ = some vE) 6 [(0, 0), (1, 1), (0, 2), (0, 3), (2, 4), (2, 5), (3, 6), (0, 7), (3, 8)] (by kernel_rfl) (by kernel_rfl) (by rfl) (by kernel_rfl) (by exact (cell_of_heap (j := 0) hmj.out).trans rfl) ?_
              refine RegP.pure1 (by (simp only [gA,gB,gC]); rfl) (postP_put (d := 49) (by decide) (by decide) (by decide)) (by rfl) (by intro w'; go_simp; try with_reducible rfl) ?_
              try simp only [Act.put, pA,pB,pC]
              refine RegP.held1 (by (simp only [gA,gB,gC]); rfl) (postP_put (d := 50) (by decide) (by decide) (by decide)) (by rfl) (by intro w' hS_; (try dsimp only at hS_); go_split_ands; go_simp; try with_reducible rfl) ?_
              try simp only [Act.put, pA,pB,pC]
              refine RegP.pure1 (by (simp only [gA,gB,gC]); rfl) (postP_put (d := 51) (by decide) (by decide) (by decide)) (by rfl) (by intro w'; go_simp; try with_reducible rfl) ?_
              try simp only [Act.put, pA,pB,pC]
              refine RegP.pure1 (by (simp only [gA,gB,gC]); rfl) (postP_put (d := 52) (by decide) (by decide) (by decide)) (by rfl) (by intro w'; go_simp; try with_reducible rfl) ?_
              try simp only [Act.put, pA,pB,pC]
              refine RegP.ev1 (by (simp only [gA,gB,gC]); rfl) (fun K hK => ?_)
              have hil := hLen.out.2
              have hnl := hNH.out
              have hT := ends_any w3.heap.size g2 st2 j wr.drew (hRs.out.stay (Stay.below (Below.refl _ _).drew)) hjl (by omega)
              rw [hr2] at hT
              rcases hen : endsE st2.file st2.rules st2.edges[j] with ⟨l1, c1⟩ | eo
              · rw [hen] at hT
                have hPR : parseL text = ([], [], l1, c1) := by
                  rw [hPS.out, hREH.out, ← hEA.out, List.drop_eq_getElem_cons hjl]; simp only [endsAll, hen]
                go_simp
                refine hT.mono ?_
                rintro e w7 ⟨rfl, hb⟩
                have hb7 : Below w3.heap.size wr w7 := ((Below.refl _ _).drew).trans hb
                refine ⟨⟨rfl, rfl, rfl⟩, rfl, fun tmps hf => ?_⟩
                exact leave_bad (l := l1) (c := c1) hf rfl ((hb7.block _ (by omega)).trans hmj.out) ((hb7.block _ (by omega)).trans hnj.out) ((hb7.block _ (by omega)).trans hoj.out) (hBj.out.trans (hb7.mono (by omega)))
              rw [hen] at hT
              go_simp
              refine hT.mono ?_
              rintro e w7 ⟨rfl, hR7, hb, hk7, hx1, hx2, hx3, hx4⟩
              have hb7 := Lib.hid (((Below.refl w3.heap.size wr).drew).trans hb)
              have hm7 := Lib.hid ((hb7.out.block _ (by omega)).trans hmj.out)
              have hR7H := Lib.hid hR7
              have hrow7 := Lib.hid (edges_keep hrow.out hRs.out hjl hk7)
              have hEqH := Lib.hid (eq_snoc hal.out hjl hEq.out hx1 hx2 hx3 hx4)
              have hEA7 : Hid (endsAll st2.file st2.rules (st2.edges.drop (j + 1)) (acc ++ [eo]) = RE) := by
                show _ = RE
                rw [← hEA.out, List.drop_eq_getElem_cons hjl]; simp only [endsAll, hen]
              clear hR7 hb hk7 hx1 hx2 hx3 hx4 hT hen
              refine hK.out _ _ ?_ (fun hHeld => ?_)
              · (try dsimp only); exact (cell_of_heap (j := 0) hm7.out).trans rfl
              clear hK K
              try simp only [Act.put, pA,pB,pC]
              refine RegP.ev1 (by (simp only [gA,gB,gC]); rfl) (fun K hK => ?_)
              go_simp
              have hm8 := Lib.hid ((heapAt_lt (o := .cells #[g2.e0 j, g2.e1 j, g2.e2 j, g2.e3 j, .string (B eo.command), .string (B eo.depfile)] 47) (lt_blk hm7.out)).trans hm7.out)
              refine hK.out _ _ ?_ (fun hHeld => ?_)
              · (try dsimp only); exact (cell_of_heap (j := 0) hm8.out).trans rfl
              clear hK K
              try simp only [Act.put, pA,pB,pC]
              refine RegP.last1 (by (simp only [gA,gB,gC]); rfl) (fun K hK => ?_)
              refine step_append_cells (w0 := wr) (W := w7) w3.heap.size rfl _ _ 30 47 (.agg #[.slice none 0 0, .slice none 0 0, .slice none 0 0, .slice none 0 0, .string ⟨#[]⟩, .string ⟨#[]⟩]) 6 128 rfl Tryz.underlying30 infoEdgeV rfl (by decide) (by decide) vE acc.length _ [g2.e0 j, g2.e1 j, g2.e2 j, g2.e3 j, .string (B eo.command), .string (B eo.depfile)] rfl rfl rfl ?_ hrow7.out hb7.out hR7H.out.base (by rw [hal.out]; omega) ?_
              · obtain ⟨a, b, c, d⟩ := hRs.out.rows j hjl
                intro u hu
                simp only [List.mem_cons, List.not_mem_nil, or_false] at hu
                rcases hu with rfl | rfl | rfl | rfl | rfl | rfl
                · exact own_one a.own
                · exact own_one b.own
                · exact own_one c.own
                · exact own_one d.own
                · rfl
                · rfl
              intro v9 w9 ho hb hg ha
              obtain ⟨A9, cc9, rfl⟩ : ∃ A c, v9 = .slice A (acc.length + 1) c := by
                rcases ho.2 with ⟨e, e2⟩ | ⟨b, cap, _, e, _⟩
                · exact ⟨none, 0, by rw [e, e2]⟩
                · exact ⟨_, _, e⟩
              have hS9 : Stay w7 w9 := stay_grown hrow7.out hg
              have hR9 := Lib.hid (hR7H.out.stay hS9)
              have hB9 := Lib.hid (hBj.out.trans (hb.mono (by omega)))
              have hm9 := Lib.hid ((hb.block _ (by omega)).trans hmj.out)
              have hn9 := Lib.hid ((hb.block _ (by omega)).trans hnj.out)
              have ho9 := Lib.hid ((hb.block _ (by omega)).trans hoj.out)
              have hrow9 := Lib.hid ho
              have c9 : w9.cell? ⟨w.heap.size, 0, none⟩ = some vE := (cell_of_heap (j := 0) hm9.out).trans rfl
              have f9 := frozen_of_heap hm9.out 0
              clear ho hb hg ha hS9
              refine hK.out _ _ ?_
              clear hK K
              try simp only [Act.put, pA,pB,pC]
              refine RegP.pure1 (by (simp only [gA,gB,gC]); rfl) (postP_put (d := 56) (by decide) (by decide) (by decide)) (by rfl) (by intro w'; go_simp; try with_reducible rfl) ?_
              try simp only [Act.put, pA,pB,pC]
              refine RegP.last1 (by (simp only [gA,gB,gC]); rfl) (fun K hK => ?_)
              go_simp
              have hS10 := Stay.setCell hm9.out (by simp [Plain]) 0 (Value.slice A9 (acc.length + 1) cc9)
              have hR10 := Lib.hid (hR9.out.stay hS10)
              have hB10 : Hid (Below w.heap.size w (w9.setCell ⟨w.heap.size, 0, none⟩ (Value.slice A9 (acc.length + 1) cc9))) := hB9.out.setCell (Nat.le_refl _) (Value.slice A9 (acc.length + 1) cc9)
              have hm10 : Hid ((w9.setCell ⟨w.heap.size, 0, none⟩ (Value.slice A9 (acc.length + 1) cc9)).heap[w.heap.size]? = some (.cells #[(Value.slice A9 (acc.length + 1) cc9), .slice none 0 0] 32 (0, 0))) := blk_put hm9.out 0 _ rfl
              have hn10 := Lib.hid ((Below.heap_setCell w9 ⟨w.heap.size, 0, none⟩ (Value.slice A9 (acc.length + 1) cc9) (w.heap.size + 1) (by show _ ≠ w.heap.size; omega)).trans hn9.out)
              have ho10 := Lib.hid ((Below.heap_setCell w9 ⟨w.heap.size, 0, none⟩ (Value.slice A9 (acc.length + 1) cc9) (w.heap.size + 1 + 1) (by show _ ≠ w.heap.size; omega)).trans ho9.out)
              have hrow10 : Hid ((w9.setCell ⟨w.heap.size, 0, none⟩ (Value.slice A9 (acc.length + 1) cc9)).ownsRow w3.heap.size 47 6 (Value.slice A9 (acc.length + 1) cc9) (acc ++ [eo]).length (ecells g2.e0 g2.e1 g2.e2 g2.e3 0 (acc ++ [eo]))) := by
                show World.ownsRow _ _ _ _ _ _ _
                rw [ecells_append, Nat.zero_add, hal.out, List.length_append, List.length_singleton]
                rw [← hal.out]
                rw [hal.out]
                have := own_move hrow9.out fun b hb => Below.heap_setCell w9 ⟨w.heap.size, 0, none⟩ (Value.slice A9 (acc.length + 1) cc9) b (fun e => by have := own_base hrow9.out b hb; have : b = w.heap.size := e; omega)
                rw [hal.out] at this
                exact this
              clear c9 f9 hS10
              generalize w9.setCell ⟨w.heap.size, 0, none⟩ (Value.slice A9 (acc.length + 1) cc9) = w10 at *
              refine hK.out _ _ ?_
              clear hK K
              try simp only [Act.put, pA,pB,pC]
              refine RegP.done1 ?_
              try dsimp only
              try dsimp only [PostP]
              go_wp2_with fail
              go_roundg gk
              case measure => omega
              case rel => exact ⟨j + 1, acc ++ [eo], _, by go_num, by omega, Lib.hid (by rw [List.length_append, List.length_singleton, hal.out]), hR10, hB10, hm10, hn10, ho10, hrow10, hEA7, hEqH⟩
      | succ gk =>
        have hin : i < ls.length := by rw [hNH.out]; omega
        have hlt : decide ((i : Int) < (n : Int)) = true := by rw [decide_eq_true_iff]; omega
        have i1 : (0 : Int) ≤ (i : Int) := by omega
        have i2 : (i : Int) < (n : Int) := by omega
        have hOr := own_move hO4.out fun b hb => hB.out.block b (own_lt hO3.out b hb)
        obtain ⟨ad, hA, e0, e1, e2⟩ := rows3 hOr i hin
        subst hA
        have hxt := hLen.out.1 ls[i] (List.getElem_mem hin)
        have hil : ls.length ≤ 16385 := hLen.out.2
        have hNl := hNH.out
        have hR1 : Hid (R = match takesE st ls[i] with | .error e => .error e | .ok st => linesE st (ls.drop (i + 1))) := by
          show R = _
          rw [← hE.out, List.drop_eq_getElem_cons hin]; rfl
        clear hOr hE
        generalize ls[i] = x at *
        have hadl : ad < wr.heap.size := World.block_lt_of_cell? wr _ e0
        go_wp2_with fail
        have hBx : Below wr.heap.size wr (wr.alloc (.cells #[.bool x.inner, .string (B x.text), .int .i64 (x.num : Int)] 72)) := (Below.refl _ _).alloc (Nat.le_refl _) _
        have hIx := Lib.hid (hI.out.below hBx)
        have hBz := Lib.hid (hB.out.trans (hBx.mono hI.out.base))
        clear hBx
        have hT := takes_any w3.heap.size g st x _ hIx.out hxt (by omega) (by omega)
        rw [hgr] at hT
        rcases htk : takesE st x with ⟨l1, c1⟩ | st2
        · rw [htk] at hT
          have hPR : parseL text = ([], [], l1, c1) := by
            rw [hP.out, parseE, hRH.out, hR1.out, htk]
          refine hT.mono ?_
          rintro e w5 ⟨rfl, hb⟩
          have hb5 := hBz.out.trans hb
          exact leave_bad ⟨rfl, rfl, rfl⟩ hPR ((hb5.block _ (by omega)).trans hm4.out) ((hb5.block _ (by omega)).trans hn4.out) ((hb5.block _ (by omega)).trans ho4.out) (hBw4.out.trans (hb5.mono (by omega)))
        · rw [htk] at hT
          have hdf := takesE_defs htk
          have hE2 : Hid (linesE st2 (ls.drop (i + 1)) = R) := by show _ = R; rw [hR1.out, htk]
          refine hT.mono ?_
          rintro e w5 ⟨rfl, ⟨g5, q1, q2, q3⟩, hb⟩
          have hI5 := Lib.hid q1
          have hb5 := Lib.hid (hBz.out.trans hb)
          clear q1 hb hT hR1 htk
          go_wp2_with fail
          go_roundg gk
          case measure => omega
          case rel => exact ⟨i + 1, st2, g5, by go_num, by omega, q2.trans hgr, by omega, by omega, hI5, hb5, hE2⟩
  · have hP := Lib.hid (hPL.out.trans (if_neg her))
    have her1 : (er == 0) = false := beq_eq_false_iff_ne.2 her
    have oc3 : w3.cell? ⟨w.heap.size + 1 + 1, 0, none⟩ = some (.int .i64 er) := (cell_of_heap (j := 0) ho3.out).trans rfl
    clear hPL oc of_
    go_wp2_with fail
    clear hw3 hm2 hn2 ho2 hB2 hO hz2
    have oc : w3.cell? ⟨w.heap.size + 1 + 1, 0, none⟩ = some (.int .i64 er) := (cell_of_heap (j := 0) ho3.out).trans rfl
    refine quiet ?_
    refine RegP.regionH (fun w' => w'.cell? ⟨w.heap.size + 1 + 1, 0, none⟩ = some (.int .i64 er)) [(0, 0), (0, 1), (1, 2), (2, 3), (2, 4), (2, 5)] (by kernel_rfl) (by kernel_rfl) (by rfl) (by kernel_rfl) (by exact oc) ?_
    refine RegP.pure1 (by (simp only [gA,gB,gC]); rfl) (by exact fun _ _ _ h => h) (by rfl) (by intro w'; go_simp; try with_reducible rfl) ?_
    try simp only [Act.put, pA,pB,pC]
    refine RegP.pure1 (by (simp only [gA,gB,gC]); rfl) (by exact fun _ _ _ h => h) (by rfl) (by intro w'; go_simp; try with_reducible rfl) ?_
    try simp only [Act.put, pA,pB,pC]
    refine RegP.held1 (by (simp only [gA,gB,gC]); rfl) (by exact fun _ _ _ h => h) (by rfl) (by intro w' hS_; (try dsimp only at hS_); go_split_ands; go_simp; try with_reducible rfl) ?_
    try simp only [Act.put, pA,pB,pC]
    refine RegP.ev1 (by (simp only [gA,gB,gC]); rfl) (fun K hK => ?_)
    have m0 := (cell_of_heap (j := 0) hm3.out).trans rfl
    have m1 := (cell_of_heap (j := 1) hm3.out).trans rfl
    have mf0 := frozen_of_heap hm3.out 0
    have mf1 := frozen_of_heap hm3.out 1
    go_simp
    have kS : ∀ b, b ≠ w.heap.size → ((w3.setCell ⟨w.heap.size, 0, none⟩ (.slice none 0 0)).setCell ⟨w.heap.size, 1, none⟩ (.slice none 0 0)).heap[b]? = w3.heap[b]? := fun b hb => by rw [Below.heap_setCell _ _ _ b hb, Below.heap_setCell _ _ _ b hb]
    have hm4 : Hid (((w3.setCell ⟨w.heap.size, 0, none⟩ (.slice none 0 0)).setCell ⟨w.heap.size, 1, none⟩ (.slice none 0 0)).heap[w.heap.size]? = some (.cells #[.slice none 0 0, .slice none 0 0] 32 (0, 0))) := blk_put (blk_put hm3.out 0 _ rfl) 1 _ rfl
    have hn4 := Lib.hid ((kS (w.heap.size + 1) (by omega)).trans hn3.out)
    have ho4 := Lib.hid ((kS (w.heap.size + 1 + 1) (by omega)).trans ho3.out)
    have hB4 : Hid (Below w.heap.size w ((w3.setCell ⟨w.heap.size, 0, none⟩ (.slice none 0 0)).setCell ⟨w.heap.size, 1, none⟩ (.slice none 0 0))) := (hB3.out.setCell (Nat.le_refl _) _).setCell (Nat.le_refl _) _
    clear kS m0 m1 mf0 mf1
    generalize (w3.setCell ⟨w.heap.size, 0, none⟩ (.slice none 0 0)).setCell ⟨w.heap.size, 1, none⟩ (.slice none 0 0) = w4 at *
    have n0 : w4.cell? ⟨w.heap.size + 1, 0, none⟩ = some (.int .i64 0) := (cell_of_heap (j := 0) hn4.out).trans rfl
    have nf0 := frozen_of_heap hn4.out 0
    refine hK.out _ _ ?_ (fun hHeld => ?_)
    · (try dsimp only); exact (cell_of_heap (j := 0) ho4.out).trans rfl
    clear hK K
    try simp only [Act.put, pA,pB,pC]
    refine RegP.ev1 (by (simp only [gA,gB,gC]); rfl) (fun K hK => ?_)
    go_simp
    have hm5 := Lib.hid ((Below.heap_setCell w4 ⟨w.heap.size + 1, 0, none⟩ (.int .i64 (ln : Int)) (w.heap.size) (by show _ ≠ w.heap.size + 1; omega)).trans hm4.out)
    have hn5 : Hid ((w4.setCell ⟨w.heap.size + 1, 0, none⟩ (.int .i64 (ln : Int))).heap[w.heap.size + 1]? = some (.cells #[.int .i64 (ln : Int)] 3 (0, 0))) := blk_put hn4.out 0 _ rfl
    have ho5 := Lib.hid ((Below.heap_setCell w4 ⟨w.heap.size + 1, 0, none⟩ (.int .i64 (ln : Int)) (w.heap.size + 1 + 1) (by show _ ≠ w.heap.size + 1; omega)).trans ho4.out)
    have hB5 : Hid (Below w.heap.size w (w4.setCell ⟨w.heap.size + 1, 0, none⟩ (.int .i64 (ln : Int)))) := hB4.out.setCell (by show _ ≤ w.heap.size + 1; omega) _
    clear n0 nf0
    generalize w4.setCell ⟨w.heap.size + 1, 0, none⟩ (.int .i64 (ln : Int)) = w5 at *
    have o0 : w5.cell? ⟨w.heap.size + 1 + 1, 0, none⟩ = some (.int .i64 er) := (cell_of_heap (j := 0) ho5.out).trans rfl
    have of0 := frozen_of_heap ho5.out 0
    refine hK.out _ _ ?_ (fun hHeld => ?_)
    · (try dsimp only); exact (cell_of_heap (j := 0) ho5.out).trans rfl
    clear hK K
    try simp only [Act.put, pA,pB,pC]
    refine RegP.ev1 (by (simp only [gA,gB,gC]); rfl) (fun K hK => ?_)
    go_simp
    have hm6 := Lib.hid ((Below.heap_setCell w5 ⟨w.heap.size + 1 + 1, 0, none⟩ (.int .i64 er) (w.heap.size) (by show _ ≠ w.heap.size + 1 + 1; omega)).trans hm5.out)
    have hn6 := Lib.hid ((Below.heap_setCell w5 ⟨w.heap.size + 1 + 1, 0, none⟩ (.int .i64 er) (w.heap.size + 1) (by show _ ≠ w.heap.size + 1 + 1; omega)).trans hn5.out)
    have ho6 : Hid ((w5.setCell ⟨w.heap.size + 1 + 1, 0, none⟩ (.int .i64 er)).heap[w.heap.size + 1 + 1]? = some (.cells #[.int .i64 er] 27 (0, 0))) := blk_put ho5.out 0 _ rfl
    have hB6 : Hid (Below w.heap.size w (w5.setCell ⟨w.heap.size + 1 + 1, 0, none⟩ (.int .i64 er))) := hB5.out.setCell (by show _ ≤ w.heap.size + 1 + 1; omega) _
    refine hK.out _ _ ?_ (fun hHeld => ?_)
    · (try dsimp only); exact (cell_of_heap (j := 0) ho6.out).trans rfl
    clear hK K
    try simp only [Act.put, pA,pB,pC]
    refine RegP.done1 ?_
    clear hHeld
    try dsimp only
    try dsimp only [noPanic]
    go_wp2_with fail
    exact leave_none ⟨rfl, rfl, rfl⟩ hP.out hm6.out hn6.out ho6.out hB6.out.drew
end Go.Proofs.YtbjekebkgidhaaaGreatDoor.Mf
end
section
set_option linter.unusedSimpArgs false
set_option linter.unusedVariables false
namespace Go.Proofs.YtbjekebkgidhaaaGreatDoor.Mf
open Go.RowKit Go.Lib Go.Shelf Go.Maps Go.Proofs.YtbjekebkgidhaaaGreatDoorW.PrintWords Go.Proofs.YtbjekebkgidhaaaGreatDoor.U Go.Proofs.YtbjekebkgidhaaaGreatDoor.Sc Go.Proofs.YtbjekebkgidhaaaGreatDoor.P Go.Proofs.YtbjekebkgidhaaaGreatDoor.MapV
abbrev SE := S47
abbrev KE := k47
abbrev SR := S42
abbrev KR := k42
def cvE (x : SE) : SR := ⟨x.f0, x.f1, x.f2, x.f3, x.f4, x.f5⟩
theorem infoEdgeR : (Tryz.prog.info? 42).map (fun i => (i.zero, i.size, i.bytes)) = some (some (.agg #[.slice none 0 0, .slice none 0 0, .slice none 0 0, .slice none 0 0, .string ⟨#[]⟩, .string ⟨#[]⟩]), 6, 128) := by kernel_rfl
def ToldI (es : List SE) (w0 : World) (i : Nat) (v : Value) (w : World) : Prop := ∃ inner, w.ownsRow w0.heap.size 42 6 v i inner ∧ Reps (KR.K w0) 6 ((es.take i).map cvE) inner
theorem told_keep {wr w9 : World} {X : Obj} {base n k : Nat} {v : Value} {xs : List Value} {ca : Array Value} {t : TypeId} (hown : wr.ownsRow base 42 6 v n xs) (hg : (wr.alloc X).grownBy w9 v.ownBlock) (hk : wr.heap[k]? = some (.cells ca t (0, 0))) (ht : t ≠ 42) : w9.heap[k]? = some (.cells ca t (0, 0)) := by
  have hlt := lt_blk hk
  refine (hg.block k (by rw [World.size_alloc]; omega) (fun e => ?_)).trans ((heapAt_lt hlt).trans hk)
  obtain ⟨cs, hcs⟩ := own_typed hown k e.symm
  rw [hk] at hcs
  injection hcs with hcs
  injection hcs with _ h2 _
  exact ht h2
theorem below_cell {w w' : World} {a : Addr} {v : Value} (hB : Below w.heap.size w w') (h : w.cell? a = some v) : w'.cell? a = some v :=
  (World.cell?_of_block (hB.block _ (World.block_lt_of_cell? w _ h))).trans h
set_option maxRecDepth 100000 in
set_option maxHeartbeats 8000000 in
theorem told_C (es : List SE) (ds : List ByteArray) (A0 A1 : Option Addr) (c0 c1 : Nat) (w : World) (h0 : es.length ≤ c0) (g0 : Kd.C KE w A0 es.length es) (hn : es.length ≤ 1000000) :
    Calls Tryz.prog 11 #[.agg #[.slice A0 es.length c0, .slice A1 ds.length c1]] w fun e w' => ∃ B0 d0, e = .returned (.agg #[.slice B0 (es.map cvE).length d0, .slice A1 ds.length c1]) ∧ (es.map cvE).length ≤ d0 ∧ Kd.C KR w' B0 (es.map cvE).length (es.map cvE) ∧ Below w.heap.size w w' := by
  have hu25 := Tryz.underlying32
  have hu37 := Tryz.underlying25
  have hu31 := Tryz.underlying47
  have hu67 := Tryz.underlying42
  have hG := Lib.hid g0
  clear g0
  go_enter Tryz.func11, Tryz.ntmps11
  go_wp2_with fail
  go_loopg [4] es.length (fun gk s4 wr => ∃ (i : Nat) (A : Option Addr) (c : Nat), s4 = .int .i64 (i : Int) ∧ i + gk = es.length ∧ Hid (Below w.heap.size w wr) ∧ Hid (wr.heap[w.heap.size]? = some (.cells #[.slice A0 es.length c0, .slice A1 ds.length c1] 32 (0, 0))) ∧ Hid (wr.heap[w.heap.size + 1]? = some (.cells #[.slice none 0 0, .slice none 0 0] 25 (0, 0))) ∧ Hid (wr.heap[w.heap.size + 1 + 1]? = some (.cells #[.slice A i c, .slice A1 ds.length c1] 25 (0, 0))) ∧ Hid (ToldI es w i (.slice A i c) wr))
  case atStart =>
    refine ⟨0, none, 0, rfl, Nat.zero_add _, Lib.hid (by (repeat (first | exact Below.refl _ _ | refine Below.drew ?_ | refine Below.setCell ?_ (by simp <;> omega) _ | refine Below.alloc ?_ (by simp <;> omega) _))), Lib.hid ?_, Lib.hid ?_, Lib.hid ?_, Lib.hid ⟨[], World.ownsRow_nil _ _ _ _, Reps.none _ _⟩⟩
    · refine (heapAt_lt ?_).trans ((heapAt_lt ?_).trans (heapAt_eq rfl))
      all_goals simp only [World.size_alloc]
      all_goals omega
    · refine (heapAt_lt ?_).trans (heapAt_eq ?_)
      all_goals simp only [World.size_alloc]
      all_goals omega
    · refine heapAt_eq ?_
      simp only [World.size_alloc]
  case round =>
    obtain ⟨i, A, c, rfl, hik, hB, hm, hr, ho, hT⟩ := hrel
    have m0 := (cell_of_heap (j := 0) hm.out).trans rfl
    have m1 := (cell_of_heap (j := 1) hm.out).trans rfl
    have r0 := (cell_of_heap (j := 0) hr.out).trans rfl
    have r1 := (cell_of_heap (j := 1) hr.out).trans rfl
    have o0 := (cell_of_heap (j := 0) ho.out).trans rfl
    have o1 := (cell_of_heap (j := 1) ho.out).trans rfl
    have rf0 := frozen_of_heap hr.out 0
    have rf1 := frozen_of_heap hr.out 1
    have z0 := lt_blk hm.out
    have z1 := lt_blk hr.out
    have z2 := lt_blk ho.out
    cases gk with
    | zero =>
      obtain rfl : i = es.length := by omega
      have hlt : decide ((es.length : Int) < (es.length : Int)) = false := by simp
      obtain ⟨inner, hown, hreps⟩ := hT.out
      rw [List.take_length] at hreps
      have hO' := Lib.hid hown
      have hR' := Lib.hid hreps
      clear hown hreps
      go_wp2_with fail
      refine bodyPost_ret (results_cell_row rfl _ _ (w.heap.size + 1) 25 #[.slice A es.length c, .slice A1 ds.length c1] (0, 0) _ rfl (blk_put (blk_put hr.out 0 _ rfl) 1 _ rfl) Tryz.underlying25 rfl (by kernel_rfl)) rfl ?_
      have hBf : Below w.heap.size w ((wr.setCell ⟨w.heap.size + 1, 0, none⟩ (.slice A es.length c)).setCell ⟨w.heap.size + 1, 1, none⟩ (.slice A1 ds.length c1)) := (hB.out.setCell (by show _ ≤ w.heap.size + 1; omega) _).setCell (by show _ ≤ w.heap.size + 1; omega) _
      have hof : ((wr.setCell ⟨w.heap.size + 1, 0, none⟩ (.slice A es.length c)).setCell ⟨w.heap.size + 1, 1, none⟩ (.slice A1 ds.length c1)).ownsRow w.heap.size 42 6 (.slice A es.length c) es.length inner := by
        refine own_move hO'.out fun k hk => ?_
        have hne : k ≠ w.heap.size + 1 := by
          rintro rfl
          obtain ⟨cs, hcs⟩ := own_typed hO'.out _ hk
          rw [hr.out] at hcs
          injection hcs with hcs
          injection hcs with _ h2 _
          exact absurd h2 (by decide)
        rw [Below.heap_setCell _ _ _ k hne, Below.heap_setCell _ _ _ k hne]
      generalize (wr.setCell ⟨w.heap.size + 1, 0, none⟩ (.slice A es.length c)).setCell ⟨w.heap.size + 1, 1, none⟩ (.slice A1 ds.length c1) = wf at *
      obtain ⟨A', c', he, hrd⟩ := own_reads_row hof (hR'.out.imp_ (fun p cs h => KR.K_below hBf h)) (by rw [List.length_map])
      injection he with q1 _ q3
      subst q1 q3
      refine ⟨A, c, by rw [List.length_map], by rw [List.length_map]; exact own_le hof, ?_, hBf⟩
      rw [List.length_map]; exact hrd
    | succ gk =>
      have hi : i < es.length := by omega
      have hlt : decide ((i : Int) < (es.length : Int)) = true := by rw [decide_eq_true_iff]; omega
      have i1 : (0 : Int) ≤ (i : Int) := by omega
      obtain ⟨ad, a0, d0, a1, d1, a2, d2, a3, d3, rfl, k0, k1, k2, k3, k4, k5, l0, g0, l1, g1, l2, g2, l3, g3⟩ := at_T47 hG.out (i : Int) i1 (by omega)
      replace k0 := below_cell hB.out k0
      replace k1 := below_cell hB.out k1
      replace k2 := below_cell hB.out k2
      replace k3 := below_cell hB.out k3
      replace k4 := below_cell hB.out k4
      replace k5 := below_cell hB.out k5
      rw [Int.toNat_natCast] at k0 k1 k2 k3 k4 k5
      have hx0 : rd_T47 es (i : Int) = es[i] := by
        show es.getD (i : Int).toNat _ = _
        rw [Int.toNat_natCast, List.getD_eq_getElem?_getD, List.getElem?_eq_getElem hi]; rfl
      rw [hx0] at k0 k1 k2 k3 k4 k5 l0 g0 l1 g1 l2 g2 l3 g3
      have hG2 := Lib.hid (And.intro g0 (And.intro g1 (And.intro g2 g3)))
      have hL2 := Lib.hid (And.intro l0 (And.intro l1 (And.intro l2 l3)))
      have htk : Hid (es.take (i + 1) = es.take i ++ [es[i]]) := List.take_succ_eq_append_getElem hi
      clear g0 g1 g2 g3 l0 l1 l2 l3 hx0
      generalize es[i] = x at *
      have of0 := frozen_of_heap ho.out 0
      obtain ⟨inner, hown, hreps⟩ := hT.out
      obtain ⟨Xo, hXo⟩ : ∃ o : Obj, o = .cells #[.slice a0 x.f0.length d0, .slice a1 x.f1.length d1, .slice a2 x.f2.length d2, .slice a3 x.f3.length d3, .string x.f4, .string x.f5] 47 := ⟨_, rfl⟩
      have hown2 : (wr.alloc Xo).ownsRow w.heap.size 42 6 (.slice A i c) i inner := own_move hown fun k hk => heapAt_lt (own_lt hown k hk)
      have hB2 : Below w.heap.size w (wr.alloc Xo) := hB.out.alloc hB.out.size _
      subst hXo
      have hBz : w.heap.size ≤ (wr.alloc (.cells #[.slice a0 x.f0.length d0, .slice a1 x.f1.length d1, .slice a2 x.f2.length d2, .slice a3 x.f3.length d3, .string x.f4, .string x.f5] 47)).heap.size := hB2.size
      have hB2' := Lib.hid hB2
      have hown2' := Lib.hid hown2
      have hR := Lib.hid hreps
      have hown' := Lib.hid hown
      clear hB2 hown2 hreps hown hT
      go_wp2_with (at_builtin; go_must (refine print_append_cells (w0 := w) (W := wr.alloc (.cells #[.slice a0 x.f0.length d0, .slice a1 x.f1.length d1, .slice a2 x.f2.length d2, .slice a3 x.f3.length d3, .string x.f4, .string x.f5] 47)) w.heap.size rfl _ _ 22 42 (.agg #[.slice none 0 0, .slice none 0 0, .slice none 0 0, .slice none 0 0, .string ⟨#[]⟩, .string ⟨#[]⟩]) 6 128 rfl Tryz.underlying22 infoEdgeR rfl (by decide) (by decide) (.slice A i c) i _ [.slice a0 x.f0.length d0, .slice a1 x.f1.length d1, .slice a2 x.f2.length d2, .slice a3 x.f3.length d3, .string x.f4, .string x.f5] rfl (by rw [World.size_alloc]; rfl) rfl (by intro u hu; simp only [List.mem_cons, List.not_mem_nil, or_false] at hu; rcases hu with rfl | rfl | rfl | rfl | rfl | rfl <;> rfl) hown2'.out hB2'.out hBz (by omega) ?_))
      intro v9 w9 ho9 hb9 hg9 _
      obtain ⟨A9, c9, rfl⟩ : ∃ A c, v9 = .slice A (i + 1) c := by
        rcases ho9.2 with ⟨e, e2⟩ | ⟨b, cap, _, e, _⟩
        · exact ⟨none, 0, by rw [e, e2]⟩
        · exact ⟨_, _, e⟩
      have hm9 := Lib.hid (told_keep hown'.out hg9 hm.out (by decide))
      have hr9 := Lib.hid (told_keep hown'.out hg9 hr.out (by decide))
      have ho9' := Lib.hid (told_keep hown'.out hg9 ho.out (by decide))
      have hT9 : Hid (ToldI es w (i + 1) (.slice A9 (i + 1) c9) w9) := by
        refine ⟨_, ho9, ?_⟩
        rw [htk.out, List.map_append]
        exact hR.out.snoc (k42_mk w (cvE x) hL2.out.1 hG2.out.1 hL2.out.2.1 hG2.out.2.1 hL2.out.2.2.1 hG2.out.2.2.1 hL2.out.2.2.2 hG2.out.2.2.2) rfl
      have hB9 := Lib.hid hb9
      have o0' := (cell_of_heap (j := 0) ho9'.out).trans rfl
      have of0' := frozen_of_heap ho9'.out 0
      clear ho9 hb9 hg9 k0 k1 k2 k3 k4 k5 m0 m1 r0 r1 o0 o1 rf0 rf1 of0
      go_wp2_with fail
      have hne : ∀ k, k ≠ w.heap.size + 1 + 1 → (w9.setCell ⟨w.heap.size + 1 + 1, 0, none⟩ (.slice A9 (i + 1) c9)).heap[k]? = w9.heap[k]? := fun k hk => Below.heap_setCell _ _ _ k hk
      go_roundg gk
      case measure => omega
      case rel =>
        refine ⟨i + 1, A9, c9, by go_num, by omega, Lib.hid (hB9.out.setCell (by show _ ≤ w.heap.size + 1 + 1; omega) _), Lib.hid ((hne _ (by omega)).trans hm9.out), Lib.hid ((hne _ (by omega)).trans hr9.out), Lib.hid (blk_put ho9'.out 0 _ rfl), Lib.hid ?_⟩
        obtain ⟨inn, h1, h2⟩ := hT9.out
        refine ⟨inn, own_move h1 fun k hk => hne k ?_, h2⟩
        rintro rfl
        obtain ⟨cs, hcs⟩ := own_typed h1 _ hk
        rw [ho9'.out] at hcs
        injection hcs with hcs
        injection hcs with _ h2 _
        exact absurd h2 (by decide)
end Go.Proofs.YtbjekebkgidhaaaGreatDoor.Mf
end
section
set_option linter.unusedSimpArgs false
set_option linter.unusedVariables false
namespace Go.Proofs.YtbjekebkgidhaaaGreatDoor.Mf
open Go.RowKit Go.Lib Go.Shelf Go.Maps Go.Proofs.YtbjekebkgidhaaaGreatDoorW.PrintWords Go.Proofs.YtbjekebkgidhaaaGreatDoor.U Go.Proofs.YtbjekebkgidhaaaGreatDoor.Sc Go.Proofs.YtbjekebkgidhaaaGreatDoor.P Go.Proofs.YtbjekebkgidhaaaGreatDoor.MapV
def toS (x : EdgeO) : SE := ⟨x.outs.map B, x.ins.map B, x.imp.map B, x.ord.map B, B x.command, B x.depfile⟩
theorem encs_map {α : Type} (enc : α → Value) (l : List α) : encs enc l = l.map enc := by
  induction l with
  | nil => rfl
  | cons x l ih => simp [encs] <;> exact ih
theorem row_C {w : World} {b : Nat} {v : Value} {l : List Txt} (h : w.ownsRow b 9 1 v l.length (strs l)) : ∃ A c, v = .slice A (l.map B).length c ∧ (l.map B).length ≤ c ∧ Kd.C Kd.string w A (l.map B).length (l.map B) := by
  have h' : w.ownsRow b 9 1 v (l.map B).length (encs Value.string (l.map B)) := by
    rw [encs_map, List.length_map, List.map_map]; exact h
  exact Kd.R_reads (d := Kd.string) (e := 9) (Kd.R_of_own (ok := fun _ => True) (h1 := fun _ => rfl) h' (fun _ _ => trivial))
theorem ecells_len (f0 f1 f2 f3 : Nat → Value) : ∀ (l : List EdgeO) (k : Nat), (ecells f0 f1 f2 f3 k l).length = l.length * 6
  | [], k => rfl
  | x :: l, k => by
    simp only [ecells, List.length_append, ecells_len f0 f1 f2 f3 l (k + 1), List.length_cons, List.length_nil]; omega
theorem ecells_at (f0 f1 f2 f3 : Nat → Value) : ∀ (l : List EdgeO) (k j : Nat) (h : j < l.length), ((ecells f0 f1 f2 f3 k l).drop (j * 6)).take 6 = [f0 (k + j), f1 (k + j), f2 (k + j), f3 (k + j), .string (B l[j].command), .string (B l[j].depfile)]
  | [], k, j, h => absurd h (by simp)
  | x :: l, k, 0, h => by simp [ecells]
  | x :: l, k, j + 1, h => by
    have := ecells_at f0 f1 f2 f3 l (k + 1) j (by simpa using h)
    rw [show k + 1 + j = k + (j + 1) by omega] at this
    simp only [List.getElem_cons_succ]
    rw [← this, ecells, show (j + 1) * 6 = 6 + j * 6 by omega, ← List.drop_drop]
    rfl
theorem edges_C {w : World} {b : Nat} {v : Value} {l : List EdgeO} (h : EdgesAt w b v l) : ∃ A c, v = .slice A (l.map toS).length c ∧ (l.map toS).length ≤ c ∧ Kd.C KE w A (l.map toS).length (l.map toS) := by
  obtain ⟨f0, f1, f2, f3, ho, hr⟩ := h
  refine OwnRow.reads (R := KE.K w) (e := 47) (base := b) ⟨ecells f0 f1 f2 f3 0 l, by rw [List.length_map]; exact ho, ?_, ?_⟩
  · rw [ecells_len, List.length_map]; rfl
  · intro j p hp
    rw [List.getElem?_map] at hp
    obtain ⟨x, hx, rfl⟩ := Option.map_eq_some_iff.1 hp
    obtain ⟨hj, rfl⟩ := List.getElem?_eq_some_iff.1 hx
    obtain ⟨a, b, c, d⟩ := hr j hj
    obtain ⟨A0, c0, e0, l0, g0⟩ := row_C a
    obtain ⟨A1, c1, e1, l1, g1⟩ := row_C b
    obtain ⟨A2, c2, e2, l2, g2⟩ := row_C c
    obtain ⟨A3, c3, e3, l3, g3⟩ := row_C d
    have := ecells_at f0 f1 f2 f3 l 0 j hj
    rw [Nat.zero_add, e0, e1, e2, e3] at this
    rw [show List.take KE.sz (List.drop (j * KE.sz) (ecells f0 f1 f2 f3 0 l)) = _ from this]
    exact k47_mk w (toS l[j]) l0 g0 l1 g1 l2 g2 l3 g3
def OutC (es : List EdgeO) (ds : List Txt) (n : Nat) (c : Int) (w : World) (e : Ending) (w' : World) : Prop :=
  ∃ A0 c0 A1 c1, e = .returned (.tuple #[.agg #[.slice A0 (es.map toS).length c0, .slice A1 (ds.map B).length c1], .int .i64 (n : Int), .int .i64 c]) ∧ (es.map toS).length ≤ c0 ∧ Kd.C KE w' A0 (es.map toS).length (es.map toS) ∧ (ds.map B).length ≤ c1 ∧ Kd.C Kd.string w' A1 (ds.map B).length (ds.map B) ∧ Below w.heap.size w w'
theorem parse_C (text : Txt) (es : List EdgeO) (ds : List Txt) (n : Nat) (c : Int) (hp : parseL text = (es, ds, n, c)) (a : ByteArray) (ha : a = B text) (w : World) (hm : MaxCell w) :
    Calls Tryz.prog 9 #[.string a] w (OutC es ds n c w) := by
  subst ha
  refine (parse_any text w hm).mono ?_
  rintro e w' h
  rw [hp] at h
  obtain ⟨v0, v1, rfl, he, hd, hb⟩ := h
  obtain ⟨A0, c0, rfl, l0, g0⟩ := edges_C he
  obtain ⟨A1, c1, rfl, l1, g1⟩ := row_C hd
  exact ⟨A0, c0, A1, c1, rfl, l0, g0, l1, g1, hb⟩
end Go.Proofs.YtbjekebkgidhaaaGreatDoor.Mf
end
section
set_option linter.unusedSimpArgs false
set_option linter.unusedVariables false
namespace Go.Proofs.YtbjekebkgidhaaaGreatDoor.Mf
open Go.RowKit Go.Lib Go.Shelf Go.Proofs.YtbjekebkgidhaaaGreatDoor.U Go.Proofs.YtbjekebkgidhaaaGreatDoor.Sc Go.Proofs.YtbjekebkgidhaaaGreatDoor.P
def toO (x : SE) : EdgeO := ⟨x.f0.map toL, x.f1.map toL, x.f2.map toL, x.f3.map toL, toL x.f4, toL x.f5⟩
theorem toS_toO (x : SE) : toS (toO x) = x := by
  unfold toS toO
  simp only [map_B_toL, B_toL]
theorem joinTail_joined (l : List Txt) : ∀ p : Txt, Lib.join (p :: l) [32] = p ++ joined l := by
  induction l with
  | nil => intro p; simp [Lib.join, List.intercalate, List.intersperse, joined]
  | cons q l ih =>
    intro p
    have := ih q
    rw [joined_cons, ← this]
    simp [Lib.join, List.intercalate, List.intersperse]
theorem rowL_T (wd : Txt) (l : List Txt) : rowL wd l = if l = [] then [] else wd ++ joined l := by
  unfold rowL
  cases l with
  | nil => rfl
  | cons p l =>
    rw [if_neg (by simp), if_neg (by simp), joinTail_joined, joined_cons]
    simp
theorem edgeL_T (i : Nat) (x : SE) (h : x.f0 ≠ []) : edgeL i x = textOf (eLines i (toO x)) := by
  have ho : (x.f0.map toL) ≠ [] := by simpa using h
  have e0 : rowL [98, 117, 105, 108, 100] (x.f0.map toL) = kBuild ++ joined (x.f0.map toL) := by rw [rowL_T, if_neg ho]; rfl
  have e1 : rowL [] (x.f1.map toL) = joined (x.f1.map toL) := by
    rw [rowL_T]; split
    · rename_i h; rw [h]; rfl
    · rfl
  have e2 : rowL [32, 124] (x.f2.map toL) = optT [124] (x.f2.map toL) := by
    rw [rowL_T, optT]; split
    · rfl
    · simp
  have e3 : rowL [32, 124, 124] (x.f3.map toL) = optT [124, 124] (x.f3.map toL) := by
    rw [rowL_T, optT]; split
    · rfl
    · simp
  unfold edgeL headL depL
  rw [e0, e1, e2, e3]
  unfold eLines dLines hLine cLine bLine ownN
  simp only [toO]
  by_cases hd : toL x.f5 = []
  · simp [hd, textOf, joined, kRule, kCommand, kBuild, kDepfile]
  · simp [hd, textOf, joined, kRule, kCommand, kBuild, kDepfile]
theorem edgesL_T : ∀ (xs : List SE) (i : Nat), (∀ x ∈ xs, x.f0 ≠ []) → edgesL i xs = textOf (manLines i (xs.map toO))
  | [], i, _ => rfl
  | x :: xs, i, h => by
    rw [edgesL, edgeL_T i x (h x (by simp)), edgesL_T xs (i + 1) (fun y hy => h y (List.mem_cons_of_mem _ hy)), List.map_cons, manLines, textOf_append]
theorem defL_T (ds : List ByteArray) : defL ds = textOf (defLines (ds.map toL)) := by
  unfold defL defLines
  by_cases h : ds = []
  · subst h; rfl
  · have h' : ds.map toL ≠ [] := by simpa using h
    rw [if_neg h, if_neg h', rowL_T, if_neg h']
    simp [textOf, kDefault]
theorem rightL_clean {p : Txt} (h : rightL p = true) : CleanN p := CleanN.of ⟨p, of_decide_eq_true h⟩
theorem rightS_O {x : SE} (h : rightS x = true) : RightO (toO x) := by
  unfold rightS rightE edOf at h
  simp only [Bool.and_eq_true, Bool.or_eq_true, List.all_append, Bool.not_eq_true', List.isEmpty_eq_false_iff] at h
  obtain ⟨⟨⟨h0, ⟨⟨h1, h2⟩, h3⟩, h4⟩, h5⟩, h6⟩ := h
  unfold visL at h5
  simp only [Bool.and_eq_true, Bool.not_eq_true', List.isEmpty_eq_false_iff] at h5
  refine ⟨h0, fun p hp => rightL_clean (List.all_eq_true.1 h1 p hp), fun p hp => rightL_clean (List.all_eq_true.1 h2 p hp), fun p hp => rightL_clean (List.all_eq_true.1 h3 p hp), fun p hp => rightL_clean (List.all_eq_true.1 h4 p hp), h5.1, ?_, ?_⟩
  · rw [okL_iff]
    intro b hb
    have := List.all_eq_true.1 h5.2 b hb
    unfold visB visR at this
    unfold Ln.okR
    simp only [Bool.and_eq_true, decide_eq_true_iff] at this ⊢
    omega
  · rcases h6 with h6 | h6
    · exact .inl (List.isEmpty_iff.1 h6)
    · exact .inr (rightL_clean h6)
theorem print_back {xs : List SE} {ds : List ByteArray} {s : ByteArray} (h : printM xs ds = (s, 0)) : ∃ t : Txt, s = B t ∧ parseL t = (xs.map toO, ds.map toL, 0, 0) := by
  unfold printM at h
  split at h
  · injection h with _ h; exact absurd h (by decide)
  rename_i hr
  split at h
  · injection h with _ h; exact absurd h (by decide)
  rename_i hl
  injection h with h _
  have hr' : rightM xs ds = true := by simpa using hr
  unfold rightM at hr'
  simp only [Bool.and_eq_true, decide_eq_true_iff] at hr'
  obtain ⟨⟨hn, hd⟩, hx⟩ := hr'
  have hxs : ∀ x ∈ xs, RightO (toO x) := fun x hx' => rightS_O (List.all_eq_true.1 hx x hx')
  have he : edgesL 0 xs ++ defL ds = printT (xs.map toO) (ds.map toL) := by
    rw [edgesL_T xs 0 (fun x hx' e => (hxs x hx').outs (by simp [toO, e])), defL_T, ← textOf_append]; rfl
  rw [he] at h hl
  refine ⟨_, h.symm, parse_print _ _ ?_ ?_ (by rw [List.length_map]; exact hn) (by omega)⟩
  · intro x hx'
    obtain ⟨y, hy, rfl⟩ := List.mem_map.1 hx'
    exact hxs y hy
  · intro p hp
    exact rightL_clean (List.all_eq_true.1 hd p hp)
end Go.Proofs.YtbjekebkgidhaaaGreatDoor.Mf
end
section
set_option linter.unusedSimpArgs false
set_option linter.unusedVariables false
namespace Go.Proofs.YtbjekebkgidhaaaGreatDoor.Mf
open Go.RowKit Go.Lib Go.Shelf Go.Proofs.YtbjekebkgidhaaaGreatDoor.U Go.Proofs.YtbjekebkgidhaaaGreatDoor.Sc Go.Proofs.YtbjekebkgidhaaaGreatDoor.P
open Go.Proofs.YtbjekebkgidhaaaGreatDoor.Ln hiding Txt
theorem expE_le {line : Nat} {ms : List MapL} {t x : Txt} (h : expE line ms t = .ok x) : x.length ≤ 16384 := by
  unfold expE at h
  split at h
  · injection h with h
    subst h
    unfold expF expandL
    rcases expGo (ms.map lv) (t.length + 1) t [] false with _ | ⟨o, b⟩
    · exact Nat.zero_le _
    · unfold finL
      dsimp only
      split
      · exact Nat.zero_le _
      · rename_i hn
        dsimp only
        exact Nat.le_of_not_lt fun hc => hn (.inr hc)
  · cases h
structure SizeE (M : Nat) (e : EdgeS) : Prop where
  s0 : e.outs.length ≤ M
  s1 : e.ins.length ≤ M
  s2 : e.imp.length ≤ M
  s3 : e.ord.length ≤ M
def SizeS (M : Nat) (st : St) : Prop := ∀ e ∈ st.edges, SizeE M e
def SizeR (M : Nat) (r : Except Er St) : Prop := match r with | .ok st => SizeS M st | .error _ => True
theorem behind_len (s : Txt) (ws : List Txt) : (behind s ws).length ≤ ws.length := by
  unfold behind
  rw [List.length_tail]
  have := (List.dropWhile_sublist (l := ws) fun w => !(w == s)).length_le
  omega
theorem toL_B (t : Txt) : toL (B t) = t := rfl
theorem map_toL_B (l : List Txt) : (l.map B).map toL = l := by
  rw [List.map_map]
  conv => rhs; rw [← List.map_id l]
  exact List.map_congr_left fun a _ => rfl
theorem close_size {M : Nat} {st : St} (h : SizeS M st) : SizeR M (closeE st) := by
  unfold closeE
  split
  · split
    · split
      · trivial
      · exact h
    · exact h
  · exact h
theorem build_size {M : Nat} {st : St} (h : SizeS M st) (line : Nat) (ws : List Txt) (hw : ws.length ≤ M) : SizeR M (buildE st line ws) := by
  unfold buildE
  split
  · trivial
  · dsimp only
    split
    · rename_i o os rn r ho hb
      have l0 := ahead_len [58] ws.tail
      have l1 := behind_len [58] ws.tail
      rw [List.length_tail] at l0 l1
      rw [hb, List.length_cons] at l1
      split
      · trivial
      · split
        · trivial
        · rename_i p0 e0
          split
          · trivial
          · rename_i p1 e1
            split
            · trivial
            · rename_i p2 e2
              split
              · trivial
              · rename_i p3 e3
                have q0 := pathsE_len _ _ _ _ _ e0
                have q1 := pathsE_len _ _ _ _ _ e1
                have q2 := pathsE_len _ _ _ _ _ e2
                have q3 := pathsE_len _ _ _ _ _ e3
                have a0 := ahead_len [124] (ahead [124, 124] r)
                have a1 := ahead_len [124, 124] r
                have a2 := behind_len [124] (ahead [124, 124] r)
                have a3 := behind_len [124, 124] r
                simp only [List.length_nil, Nat.zero_add] at q0 q1 q2 q3
                intro e he
                rcases List.mem_append.1 he with he | he
                · exact h e he
                · rw [List.mem_singleton.1 he]
                  exact ⟨by show p0.length ≤ M; omega, by show p1.length ≤ M; omega, by show p2.length ≤ M; omega, by show p3.length ≤ M; omega⟩
    · trivial
theorem takes_size {M : Nat} {st : St} (h : SizeS M st) (l : LineT) (hl : l.text.length ≤ M) : SizeR M (takesE st l) := by
  unfold takesE
  split
  · unfold innerE
    split
    · trivial
    · split
      · trivial
      · split
        · split
          · exact h
          · trivial
        · split
          · trivial
          · intro e he
            obtain ⟨y, hy, e1 | e1⟩ := mem_onLast _ he
            · rw [e1]; exact h y hy
            · rw [e1]; exact ⟨(h y hy).s0, (h y hy).s1, (h y hy).s2, (h y hy).s3⟩
  · unfold leftE
    have hc := close_size h
    have hw := Lex.words_len l.text
    split
    · trivial
    · rename_i st2 he
      rw [he] at hc
      replace hc : SizeS M st2 := hc
      split
      · trivial
      · rename_i w ws hws
        rw [hws] at hw
        split
        · unfold ruleE
          split
          · split
            · exact hc
            · trivial
          · trivial
        · split
          · exact build_size hc _ _ (by omega)
          · split
            · unfold targetsE
              split
              · trivial
              · split
                · trivial
                · exact hc
            · unfold setLineE
              split
              · trivial
              · split
                · trivial
                · exact hc
theorem lines_size {M : Nat} : ∀ (ls : List LineT) {st : St}, SizeS M st → (∀ l ∈ ls, l.text.length ≤ M) → SizeR M (linesE st ls)
  | [], st, h, _ => h
  | l :: ls, st, h, hl => by
    unfold linesE
    have hc := takes_size h l (hl l (by simp))
    split
    · trivial
    · rename_i st2 he
      rw [he] at hc
      exact lines_size ls hc (fun q hq => hl q (List.mem_cons_of_mem _ hq))
theorem lines_defs : ∀ (ls : List LineT) {st st' : St}, linesE st ls = .ok st' → st'.defs.length ≤ st.defs.length + sumL (ls.map (·.text))
  | [], st, st', h => by injection h with h; subst h; simp
  | l :: ls, st, st', h => by
    unfold linesE at h
    split at h
    · cases h
    · rename_i st2 he
      have h1 := takesE_defs he
      have h2 := lines_defs ls h
      rw [List.map_cons, sumL_cons]
      omega
structure SizeO (M : Nat) (x : EdgeO) : Prop where
  s0 : x.outs.length ≤ M
  s1 : x.ins.length ≤ M
  s2 : x.imp.length ≤ M
  s3 : x.ord.length ≤ M
  c : x.command.length ≤ 16384
theorem ends_size {M : Nat} {file : MapL} {rules : List RuleS} {e : EdgeS} {x : EdgeO} (he : SizeE M e) (h : endsE file rules e = .ok x) : SizeO M x := by
  unfold endsE at h
  dsimp only at h
  split at h
  · cases h
  · rename_i c hc
    have hcl := expE_le hc
    split at h
    · cases h
    · split at h
      · cases h
      · split at h
        · injection h with h; subst h
          exact ⟨he.s0, he.s1, he.s2, he.s3, hcl⟩
        · split at h
          · cases h
          · injection h with h; subst h
            exact ⟨he.s0, he.s1, he.s2, he.s3, hcl⟩
theorem endsAll_size {M : Nat} {file : MapL} {rules : List RuleS} : ∀ (es : List EdgeS) (acc l : List EdgeO), (∀ e ∈ es, SizeE M e) → (∀ x ∈ acc, SizeO M x) → endsAll file rules es acc = .ok l → ∀ x ∈ l, SizeO M x
  | [], acc, l, _, ha, h => by injection h with h; rw [← h]; exact ha
  | e :: es, acc, l, he, ha, h => by
    unfold endsAll at h
    rcases hx : endsE file rules e with er | x
    · rw [hx] at h; cases h
    rw [hx] at h
    refine endsAll_size es (acc ++ [x]) l (fun q hq => he q (List.mem_cons_of_mem _ hq)) (fun y hy => ?_) h
    rcases List.mem_append.1 hy with hy | hy
    · exact ha y hy
    · rw [List.mem_singleton.1 hy]; exact ends_size (he e (by simp)) hx
theorem linesGo_sum (total : Nat) : ∀ (ps : List Txt) (i : Nat) (out : List LineT) (op : Option LineT) (R : List LineT), linesGo total ps i out op = .ok R → sumL (R.map (·.text)) ≤ sumL (out.map (·.text)) + opLen op + sumL ps := by
  intro ps
  induction ps with
  | nil =>
    intro i out op R h
    rw [linesGo] at h
    injection h with h
    subst h
    omega
  | cons s ps ih =>
    intro i out op R h
    rw [sumL_cons]
    have hop := opened_len i s op
    rw [linesGo] at h
    split at h
    · cases h
    split at h
    · have := ih _ _ _ _ h
      simp only [opLen] at this; omega
    split at h
    · split at h
      · cases h
      · have := ih _ _ _ _ h
        simp only [opLen, List.length_dropLast] at this; omega
    · have := ih _ _ _ _ h
      have ht := trimmedL_len (opened i s op).text
      have hz : opLen none = 0 := rfl
      rw [hz] at this
      simp only [List.map_append, List.map_cons, List.map_nil, sumL, List.sum_append, List.sum_cons, List.sum_nil] at this ⊢
      omega
theorem parse_size {text : Txt} {es : List EdgeO} {ds : List Txt} {n : Nat} (h : parseL text = (es, ds, n, 0)) : (∀ x ∈ es, SizeO text.length x) ∧ ds.length ≤ text.length := by
  unfold parseL at h
  split at h
  · rename_i h0
    have hl : (∀ l ∈ (linesL text).1, l.text.length ≤ text.length) ∧ sumL ((linesL text).1.map (·.text)) ≤ text.length := by
      unfold linesL at h0 ⊢
      split
      · exact ⟨fun l hl => (by cases hl), Nat.zero_le _⟩
      · rcases hq : linesGo (spl 10 text).length (spl 10 text) 0 [] none with m | out
        · exact ⟨fun l hl => (by cases hl), Nat.zero_le _⟩
        · have h1 := spl_sum 10 text
          have ha := (linesGo_len _ text.length _ _ _ _ _ hq (by simp) (by simp only [opLen]; omega)).1
          have hb := linesGo_sum _ _ _ _ _ _ hq
          simp only [opLen, List.map_nil, sumL, List.sum_nil] at hb h1
          exact ⟨ha, by simp only [resL, sumL]; omega⟩
    unfold parseE at h
    have ho := lines_size (M := text.length) (linesL text).1 (st := St.init) (fun _ h => (by cases h)) hl.1
    rcases hq : linesE St.init (linesL text).1 with e | st
    · rw [hq] at h
      have hpos := ((linesL_good text).1 h0).1
      have hgd := lines_good (linesL text).1 good_init hpos
      rw [hq] at hgd
      injection h with _ h; injection h with _ h; injection h with _ h
      exact absurd h hgd.2
    have hd := lines_defs _ hq
    have hpos := ((linesL_good text).1 h0).1
    have hgd := lines_good (linesL text).1 good_init hpos
    rw [hq] at h ho hgd
    replace ho : SizeS text.length st := ho
    replace hgd : Good st := hgd
    dsimp only at h
    have ho2 := close_size ho
    have hg2 := close_good hgd
    rcases hq2 : closeE st with e | st2
    · rw [hq2] at h hg2
      injection h with _ h; injection h with _ h; injection h with _ h
      exact absurd h hg2.2
    have hd2 := closeE_defs hq2
    rw [hq2] at h ho2 hg2
    replace ho2 : SizeS text.length st2 := ho2
    replace hg2 : Good st2 := hg2
    dsimp only at h
    have hge := endsAll_good (file := st2.file) (rules := st2.rules) st2.edges [] hg2.ed (fun _ h => (by cases h))
    rcases hq3 : endsAll st2.file st2.rules st2.edges [] with e | l
    · rw [hq3] at h hge
      injection h with _ h; injection h with _ h; injection h with _ h
      exact absurd h hge.2
    rw [hq3] at h
    injection h with h h'
    injection h' with h' _
    have := endsAll_size st2.edges [] l ho2 (fun _ h => (by cases h)) hq3
    refine ⟨by rw [← h]; exact this, ?_⟩
    rw [← h']
    show st2.defs.length ≤ _
    rw [hd2]
    have hz : St.init.defs.length = 0 := rfl
    omega
  · rename_i h0
    injection h with _ h; injection h with _ h; injection h with _ h
    exact absurd h h0
theorem right_of_O {x : EdgeO} (h : RightO x) : rightS (toS x) = true := by
  have hc : ∀ {p : Txt}, CleanN p → rightL p = true := fun hp => decide_eq_true hp.clean
  have e : edOf (toS x) = ⟨x.outs, x.ins, x.imp, x.ord, x.command, x.depfile⟩ := by
    unfold edOf toS
    simp only [map_toL_B, toL_B]
  unfold rightS rightE
  rw [e]
  simp only [Bool.and_eq_true, Bool.or_eq_true, List.all_append, Bool.not_eq_true', List.isEmpty_eq_false_iff]
  refine ⟨⟨⟨h.outs, ⟨⟨List.all_eq_true.2 fun p hp => hc (h.n0 p hp), List.all_eq_true.2 fun p hp => hc (h.n1 p hp)⟩, List.all_eq_true.2 fun p hp => hc (h.n2 p hp)⟩, List.all_eq_true.2 fun p hp => hc (h.n3 p hp)⟩, ?_⟩, ?_⟩
  · unfold visL
    simp only [Bool.and_eq_true, Bool.not_eq_true', List.isEmpty_eq_false_iff]
    refine ⟨h.cne, List.all_eq_true.2 fun b hb => ?_⟩
    have := (okL_iff _).1 h.cok b hb
    unfold Ln.okR at this
    unfold visB visR
    simp only [Bool.and_eq_true, decide_eq_true_iff] at this ⊢
    omega
  · rcases h.dep with h | h
    · exact .inl (List.isEmpty_iff.2 h)
    · exact .inr (hc h)
theorem bound_names {M : Nat} {l : List Txt} (hM : M ≤ 4000) (hl : l.length ≤ M) (h : ∀ p ∈ l, CleanN p) : boundT (l.map B) = true := by
  simp only [boundT, Bool.and_eq_true, decide_eq_true_iff, List.all_eq_true, List.length_map]
  refine ⟨by omega, fun a ha => ?_⟩
  obtain ⟨p, hp, rfl⟩ := List.mem_map.1 ha
  rw [B_size]
  have := (h p hp).len
  omega
theorem parse_ok {text : Txt} {es : List EdgeO} {ds : List Txt} {n : Nat} (ht : text.length ≤ 3000) (h : parseL text = (es, ds, n, 0)) : rightM (es.map toS) (ds.map B) = true ∧ okN (es.map toS) (ds.map B) = true ∧ (∀ x ∈ es.map toS, namesS x ≤ 100000) ∧ es.length ≤ 200 ∧ ds.length ≤ 3000 := by
  obtain ⟨hr, hd, hn⟩ := parse_right h
  obtain ⟨hs, hds⟩ := parse_size h
  have q1 : rightM (es.map toS) (ds.map B) = true := by
    unfold rightM
    simp only [Bool.and_eq_true, decide_eq_true_iff, List.length_map]
    refine ⟨⟨hn, List.all_eq_true.2 fun p hp => ?_⟩, List.all_eq_true.2 fun x hx => ?_⟩
    · rw [map_toL_B] at hp
      exact decide_eq_true (hd p hp).clean
    · obtain ⟨y, hy, rfl⟩ := List.mem_map.1 hx
      exact right_of_O (hr y hy)
  have q2 : okN (es.map toS) (ds.map B) = true := by
    unfold okN
    simp only [Bool.and_eq_true, decide_eq_true_iff, List.length_map]
    refine ⟨⟨hn, bound_names (M := 3000) (by omega) (by omega) hd⟩, List.all_eq_true.2 fun x hx => ?_⟩
    obtain ⟨y, hy, rfl⟩ := List.mem_map.1 hx
    have hy1 := hs y hy
    have hy2 := hr y hy
    have hdl : y.depfile.length ≤ 100 := by
      rcases hy2.dep with h | h
      · rw [h]; exact Nat.zero_le _
      · exact h.len
    have hcl := hy1.c
    unfold boundU
    simp only [Bool.and_eq_true, decide_eq_true_iff]
    refine ⟨⟨⟨⟨⟨bound_names (M := 3000) (by omega) (Nat.le_trans hy1.s0 ht) hy2.n0, bound_names (M := 3000) (by omega) (Nat.le_trans hy1.s1 ht) hy2.n1⟩, bound_names (M := 3000) (by omega) (Nat.le_trans hy1.s2 ht) hy2.n2⟩, bound_names (M := 3000) (by omega) (Nat.le_trans hy1.s3 ht) hy2.n3⟩, ?_⟩, ?_⟩
    · show (B y.command).size ≤ _; rw [B_size]; omega
    · show (B y.depfile).size ≤ _; rw [B_size]; omega
  refine ⟨q1, q2, fun x hx => ?_, hn, by omega⟩
  obtain ⟨y, hy, rfl⟩ := List.mem_map.1 hx
  have hy1 := hs y hy
  have h0 := hy1.s0
  have h1 := hy1.s1
  have h2 := hy1.s2
  have h3 := hy1.s3
  unfold namesS toS
  simp only [List.length_map]
  omega
end Go.Proofs.YtbjekebkgidhaaaGreatDoor.Mf
end
section
set_option linter.unusedSimpArgs false
set_option linter.unusedVariables false
namespace Go.Proofs.YtbjekebkgidhaaaGreatDoor.Mf
open Go.RowKit Go.Lib Go.Shelf Go.Maps Go.Proofs.YtbjekebkgidhaaaGreatDoorW.PrintWords Go.Proofs.YtbjekebkgidhaaaGreatDoor.U Go.Proofs.YtbjekebkgidhaaaGreatDoor.Sc Go.Proofs.YtbjekebkgidhaaaGreatDoor.P Go.Proofs.YtbjekebkgidhaaaGreatDoor.MapV
abbrev at0' (b : Nat) : Value := .pointer (some ⟨b, 0, none⟩)
theorem two_fst (w : World) (X Y : Obj) : ((w.alloc X).alloc Y).drew.heap[w.heap.size]? = some X := by
  show ((w.alloc X).alloc Y).heap[w.heap.size]? = some X
  exact (heapAt_lt (by simp only [World.size_alloc]; omega)).trans (heapAt_eq rfl)
theorem two_snd (w : World) (X Y : Obj) : ((w.alloc X).alloc Y).drew.heap[w.heap.size + 1]? = some Y := by
  show ((w.alloc X).alloc Y).heap[w.heap.size + 1]? = some Y
  exact heapAt_eq (by simp only [World.size_alloc])
theorem strC_at {w : World} {A : Option Addr} {n : Nat} {xs : List ByteArray} (h : Kd.C Kd.string w A n xs) (i : Nat) (hi : i < xs.length) : ∃ ad, A = some ad ∧ w.cell? (ad.add i) = some (.string xs[i]) := by
  obtain ⟨ad, e, hc⟩ := h.2.2 (by have := h.1; omega)
  obtain ⟨c, hs, hr, hcell⟩ := hc i _ (List.getElem?_eq_getElem hi)
  replace hr : c = [.string xs[i]] := hr
  subst hr
  refine ⟨ad, e, ?_⟩
  have := hcell 0 _ rfl
  rw [show i * Kd.string.sz + 0 = i from Nat.mul_one i] at this
  exact this
set_option maxRecDepth 100000 in
set_option maxHeartbeats 8000000 in
theorem names_C (l : List ByteArray) (A0 A1 : Option Addr) (c0 c1 : Nat) (w : World) (h0 : l.length ≤ c0) (g0 : Kd.C Kd.string w A0 l.length l) (h1 : l.length ≤ c1) (g1 : Kd.C Kd.string w A1 l.length l) :
    Calls Tryz.prog 24 #[.slice A0 l.length c0, .slice A1 l.length c1] w fun e w' => e = .returned (.bool true) ∧ Below w.heap.size w w' := by
  have hG0 := Lib.hid g0
  have hG1 := Lib.hid g1
  have hl := g0.2.1
  clear g0 g1
  go_enter Tryz.func24, Tryz.ntmps24
  go_wp2_with fail
  go_loopg [5] l.length (fun gk s5 wr => ∃ i : Nat, s5 = .int .i64 (i : Int) ∧ i + gk = l.length ∧ Hid (Below w.heap.size w wr))
  case atStart => exact ⟨0, rfl, Nat.zero_add _, Below.refl _ _⟩
  case round =>
    obtain ⟨i, rfl, hik, hB⟩ := hrel
    cases gk with
    | zero =>
      have hlt : decide ((i : Int) < (l.length : Int)) = false := by rw [decide_eq_false_iff_not]; omega
      go_wp2_with fail
      go_ret
      exact ⟨rfl, hB.out⟩
    | succ gk =>
      have hi : i < l.length := by omega
      have hlt : decide ((i : Int) < (l.length : Int)) = true := by rw [decide_eq_true_iff]; omega
      have i1 : (0 : Int) ≤ (i : Int) := by omega
      obtain ⟨ad0, rfl, e0⟩ := strC_at (Kd.C_below hG0.out hB.out) i hi
      obtain ⟨ad1, rfl, e1⟩ := strC_at (Kd.C_below hG1.out hB.out) i hi
      generalize l[i] = x at *
      go_wp2_with fail
      go_quiet (fail)
      go_wp2_with fail
      go_roundg gk
      case measure => omega
      case rel => exact ⟨i + 1, by go_num, by omega, pw_below_drewN hB.out _⟩
set_option maxRecDepth 100000 in
set_option maxHeartbeats 8000000 in
theorem same_C (es : List SR) (ds : List ByteArray) (A0 A1 A2 A3 : Option Addr) (c0 c1 c2 c3 : Nat) (w : World) (h0 : es.length ≤ c0) (g0 : Kd.C KR w A0 es.length es) (h1 : ds.length ≤ c1) (g1 : Kd.C Kd.string w A1 ds.length ds) (h2 : es.length ≤ c2) (g2 : Kd.C KR w A2 es.length es) (h3 : ds.length ≤ c3) (g3 : Kd.C Kd.string w A3 ds.length ds) :
    Calls Tryz.prog 10 #[.agg #[.slice A0 es.length c0, .slice A1 ds.length c1], .agg #[.slice A2 es.length c2, .slice A3 ds.length c3]] w fun e w' => e = .returned (.bool true) ∧ Below w.heap.size w w' := by
  have hu37 := Tryz.underlying25
  have hu67 := Tryz.underlying42
  have hG0 := Lib.hid g0
  have hG2 := Lib.hid g2
  have hN := Lib.hid (fun W (hB : Below w.heap.size w W) => names_C ds A1 A3 c1 c3 W h1 (Kd.C_below g1 hB) h3 (Kd.C_below g3 hB))
  have hl := g0.2.1
  clear g0 g1 g2 g3
  go_enter Tryz.func10, Tryz.ntmps10
  go_wp2_with fail
  have hB0 : Hid (Below w.heap.size w ((w.alloc (.cells #[.slice A0 es.length c0, .slice A1 ds.length c1] 25)).alloc (.cells #[.slice A2 es.length c2, .slice A3 ds.length c3] 25))) := Lib.hid (by (repeat (first | exact Below.refl _ _ | refine Below.drew ?_ | refine Below.setCell ?_ (by simp <;> omega) _ | refine Below.alloc ?_ (by simp <;> omega) _)))
  have hP0 : Hid (((w.alloc (.cells #[.slice A0 es.length c0, .slice A1 ds.length c1] 25)).alloc (.cells #[.slice A2 es.length c2, .slice A3 ds.length c3] 25)).heap[w.heap.size]? = some (.cells #[.slice A0 es.length c0, .slice A1 ds.length c1] 25 (0, 0))) := Lib.hid (by
    refine (heapAt_lt ?_).trans (heapAt_eq rfl)
    simp only [World.size_alloc]; omega)
  have hP1 : Hid (((w.alloc (.cells #[.slice A0 es.length c0, .slice A1 ds.length c1] 25)).alloc (.cells #[.slice A2 es.length c2, .slice A3 ds.length c3] 25)).heap[w.heap.size + 1]? = some (.cells #[.slice A2 es.length c2, .slice A3 ds.length c3] 25 (0, 0))) := Lib.hid (by
    refine heapAt_eq ?_
    simp only [World.size_alloc])
  refine (hN.out _ hB0.out).mono ?_
  rintro x w1 ⟨rfl, hb⟩
  have z1 : w.heap.size + 1 + 1 ≤ w1.heap.size := Nat.le_trans (by simp) hb.size
  have hB1 := Lib.hid (hB0.out.trans (hb.mono hB0.out.size))
  have hQ0 := Lib.hid ((hb.block _ (lt_blk hP0.out)).trans hP0.out)
  have hQ1 := Lib.hid ((hb.block _ (lt_blk hP1.out)).trans hP1.out)
  clear hb hB0 hP0 hP1 hN
  go_wp2_with fail
  go_loopg [5] es.length (fun gk s5 wr => ∃ i : Nat, s5 = .int .i64 (i : Int) ∧ i + gk = es.length ∧ w.heap.size + 1 + 1 ≤ wr.heap.size ∧ Hid (Below w.heap.size w wr) ∧ Hid (wr.heap[w.heap.size]? = some (.cells #[.slice A0 es.length c0, .slice A1 ds.length c1] 25 (0, 0))) ∧ Hid (wr.heap[w.heap.size + 1]? = some (.cells #[.slice A2 es.length c2, .slice A3 ds.length c3] 25 (0, 0))))
  case atStart => exact ⟨0, rfl, Nat.zero_add _, z1, hB1, hQ0, hQ1⟩
  case round =>
    obtain ⟨i, rfl, hik, hz, hB, hm, hn⟩ := hrel
    have m0 := (cell_of_heap (j := 0) hm.out).trans rfl
    have n0 := (cell_of_heap (j := 0) hn.out).trans rfl
    cases gk with
    | zero =>
      have hlt : decide ((i : Int) < (es.length : Int)) = false := by rw [decide_eq_false_iff_not]; omega
      go_wp2_with fail
      go_ret
      exact ⟨rfl, hB.out⟩
    | succ gk =>
      have hi : i < es.length := by omega
      have hlt : decide ((i : Int) < (es.length : Int)) = true := by rw [decide_eq_true_iff]; omega
      have i1 : (0 : Int) ≤ (i : Int) := by omega
      have i2 : (i : Int) < (es.length : Int) := by omega
      obtain ⟨ad, a0, d0, a1, d1, a2, d2, a3, d3, rfl, k0, k1, k2, k3, k4, k5, l0, g0, l1, g1, l2, g2, l3, g3⟩ := at_T42 (Kd.C_below hG0.out hB.out) (i : Int) i1 (by omega)
      obtain ⟨bd, b0, e0, b1, e1, b2, e2, b3, e3, rfl, j0, j1, j2, j3, j4, j5, o0, p0, o1, p1, o2, p2, o3, p3⟩ := at_T42 (Kd.C_below hG2.out hB.out) (i : Int) i1 (by omega)
      rw [Int.toNat_natCast] at k0 k1 k2 k3 k4 k5 j0 j1 j2 j3 j4 j5
      generalize rd_T42 es (i : Int) = x at *
      have hS : Hid (∀ X, Below wr.heap.size wr X → (fun w' => w'.cell? ⟨w.heap.size, 0, none⟩ = some (.slice (some ad) es.length c0) ∧ w'.cell? ⟨w.heap.size + 1, 0, none⟩ = some (.slice (some bd) es.length c2) ∧ w'.cell? (ad.add (i * 6)) = some (.slice a0 x.f0.length d0) ∧ w'.cell? ⟨(ad.add (i * 6)).block, (ad.add (i * 6)).off + 1, none⟩ = some (.slice a1 x.f1.length d1) ∧ w'.cell? ⟨(ad.add (i * 6)).block, (ad.add (i * 6)).off + 2, none⟩ = some (.slice a2 x.f2.length d2) ∧ w'.cell? ⟨(ad.add (i * 6)).block, (ad.add (i * 6)).off + 3, none⟩ = some (.slice a3 x.f3.length d3) ∧ w'.cell? ⟨(ad.add (i * 6)).block, (ad.add (i * 6)).off + 4, none⟩ = some (.string x.f4) ∧ w'.cell? ⟨(ad.add (i * 6)).block, (ad.add (i * 6)).off + 5, none⟩ = some (.string x.f5) ∧ w'.cell? (bd.add (i * 6)) = some (.slice b0 x.f0.length e0) ∧ w'.cell? ⟨(bd.add (i * 6)).block, (bd.add (i * 6)).off + 1, none⟩ = some (.slice b1 x.f1.length e1) ∧ w'.cell? ⟨(bd.add (i * 6)).block, (bd.add (i * 6)).off + 2, none⟩ = some (.slice b2 x.f2.length e2) ∧ w'.cell? ⟨(bd.add (i * 6)).block, (bd.add (i * 6)).off + 3, none⟩ = some (.slice b3 x.f3.length e3) ∧ w'.cell? ⟨(bd.add (i * 6)).block, (bd.add (i * 6)).off + 4, none⟩ = some (.string x.f4) ∧ w'.cell? ⟨(bd.add (i * 6)).block, (bd.add (i * 6)).off + 5, none⟩ = some (.string x.f5)) X) := Lib.hid (fun X hX => ⟨below_cell hX m0, below_cell hX n0, below_cell hX k0, below_cell hX k1, below_cell hX k2, below_cell hX k3, below_cell hX k4, below_cell hX k5, below_cell hX j0, below_cell hX j1, below_cell hX j2, below_cell hX j3, below_cell hX j4, below_cell hX j5⟩)
      have hN0 := Lib.hid (fun W (hX : Below wr.heap.size wr W) => names_C x.f0 a0 b0 d0 e0 W l0 (Kd.C_below g0 hX) o0 (Kd.C_below p0 hX))
      have hN1 := Lib.hid (fun W (hX : Below wr.heap.size wr W) => names_C x.f1 a1 b1 d1 e1 W l1 (Kd.C_below g1 hX) o1 (Kd.C_below p1 hX))
      have hN2 := Lib.hid (fun W (hX : Below wr.heap.size wr W) => names_C x.f2 a2 b2 d2 e2 W l2 (Kd.C_below g2 hX) o2 (Kd.C_below p2 hX))
      have hN3 := Lib.hid (fun W (hX : Below wr.heap.size wr W) => names_C x.f3 a3 b3 d3 e3 W l3 (Kd.C_below g3 hX) o3 (Kd.C_below p3 hX))
      clear g0 g1 g2 g3 p0 p1 p2 p3
      go_upto_region 6 with (fail)
      go_cut [6, 7] (fun s6 s7 wx => ∃ p q, s6 = at0' p ∧ s7 = at0' q ∧ wr.heap.size ≤ p ∧ wr.heap.size ≤ q ∧ Hid (wx.heap[p]? = some (.cells #[.slice a0 x.f0.length d0, .slice a1 x.f1.length d1, .slice a2 x.f2.length d2, .slice a3 x.f3.length d3, .string x.f4, .string x.f5] 42 (0, 0))) ∧ Hid (wx.heap[q]? = some (.cells #[.slice b0 x.f0.length e0, .slice b1 x.f1.length e1, .slice b2 x.f2.length e2, .slice b3 x.f3.length e3, .string x.f4, .string x.f5] 42 (0, 0))) ∧ Hid (Below wr.heap.size wr wx))
      case first =>
        refine RegP.regionT (fun w' => w'.cell? ⟨w.heap.size, 0, none⟩ = some (.slice (some ad) es.length c0) ∧ w'.cell? ⟨w.heap.size + 1, 0, none⟩ = some (.slice (some bd) es.length c2) ∧ w'.cell? (ad.add (i * 6)) = some (.slice a0 x.f0.length d0) ∧ w'.cell? ⟨(ad.add (i * 6)).block, (ad.add (i * 6)).off + 1, none⟩ = some (.slice a1 x.f1.length d1) ∧ w'.cell? ⟨(ad.add (i * 6)).block, (ad.add (i * 6)).off + 2, none⟩ = some (.slice a2 x.f2.length d2) ∧ w'.cell? ⟨(ad.add (i * 6)).block, (ad.add (i * 6)).off + 3, none⟩ = some (.slice a3 x.f3.length d3) ∧ w'.cell? ⟨(ad.add (i * 6)).block, (ad.add (i * 6)).off + 4, none⟩ = some (.string x.f4) ∧ w'.cell? ⟨(ad.add (i * 6)).block, (ad.add (i * 6)).off + 5, none⟩ = some (.string x.f5) ∧ w'.cell? (bd.add (i * 6)) = some (.slice b0 x.f0.length e0) ∧ w'.cell? ⟨(bd.add (i * 6)).block, (bd.add (i * 6)).off + 1, none⟩ = some (.slice b1 x.f1.length e1) ∧ w'.cell? ⟨(bd.add (i * 6)).block, (bd.add (i * 6)).off + 2, none⟩ = some (.slice b2 x.f2.length e2) ∧ w'.cell? ⟨(bd.add (i * 6)).block, (bd.add (i * 6)).off + 3, none⟩ = some (.slice b3 x.f3.length e3) ∧ w'.cell? ⟨(bd.add (i * 6)).block, (bd.add (i * 6)).off + 4, none⟩ = some (.string x.f4) ∧ w'.cell? ⟨(bd.add (i * 6)).block, (bd.add (i * 6)).off + 5, none⟩ = some (.string x.f5)) (.cons 0 0 (.cons 1 1 (.cons 0 2 (.cons 0 3 (.cons 1 4 (.cons 0 5 (.cons 1 6 (.cons 0 7 (.cons 0 8 (.cons 1 9 (.fork 10 (.cons 2 11 (.cons 2 12 (.cons 2 13 .nil))) 11 (.cons 2 10 (.cons 2 12 (.cons 2 13 .nil)))))))))))))) (by kernel_rfl) (by kernel_rfl) (by kernel_rfl) (by exact hS.out _ (Below.refl _ _).drew) ?_
        refine RegP.pureT (by (simp only [gA,gB,gC]); rfl) (by exact fun _ _ _ h => h) (by rfl) (by intro w'; go_simp; try with_reducible rfl) ?_
        try simp only [Act.put, pA,pB,pC]
        refine RegP.heldT (by (simp only [gA,gB,gC]); rfl) (by exact fun _ _ _ h => h) (by rfl) (by intro w' hS_; (try dsimp only at hS_); go_split_ands; go_simp; try with_reducible rfl) ?_
        try simp only [Act.put, pA,pB,pC]
        refine RegP.pureT (by (simp only [gA,gB,gC]); rfl) (by exact fun _ _ _ h => h) (by rfl) (by intro w'; go_simp; try with_reducible rfl) ?_
        try simp only [Act.put, pA,pB,pC]
        refine RegP.pureT (by (simp only [gA,gB,gC]); rfl) (by exact fun _ _ _ h => h) (by rfl) (by intro w'; go_simp; try with_reducible rfl) ?_
        try simp only [Act.put, pA,pB,pC]
        refine RegP.heldT (by (simp only [gA,gB,gC]); rfl) (by exact fun _ _ _ h => h) (by rfl) (by intro w' hS_; (try dsimp only at hS_); go_split_ands; go_simp; try with_reducible rfl) ?_
        try simp only [Act.put, pA,pB,pC]
        refine RegP.pureT (by (simp only [gA,gB,gC]); rfl) (by exact fun _ _ _ h => h) (by rfl) (by intro w'; go_simp; try with_reducible rfl) ?_
        try simp only [Act.put, pA,pB,pC]
        refine RegP.heldT (by (simp only [gA,gB,gC]); rfl) (by exact fun _ _ _ h => h) (by rfl) (by intro w' hS_; (try dsimp only at hS_); go_split_ands; go_simp; try with_reducible rfl) ?_
        try simp only [Act.put, pA,pB,pC]
        refine RegP.pureT (by (simp only [gA,gB,gC]); rfl) (by exact fun _ _ _ h => h) (by rfl) (by intro w'; go_simp; try with_reducible rfl) ?_
        try simp only [Act.put, pA,pB,pC]
        refine RegP.pureT (by (simp only [gA,gB,gC]); rfl) (by exact fun _ _ _ h => h) (by rfl) (by intro w'; go_simp; try with_reducible rfl) ?_
        try simp only [Act.put, pA,pB,pC]
        refine RegP.heldT (by (simp only [gA,gB,gC]); rfl) (by exact fun _ _ _ h => h) (by rfl) (by intro w' hS_; (try dsimp only at hS_); go_split_ands; go_simp; try with_reducible rfl) ?_
        try simp only [Act.put, pA,pB,pC]
        refine RegP.forkT (by (simp only [gA,gB,gC]); rfl) (by (simp only [gA,gB,gC]); rfl) (fun K hK => ?_) (fun K hK => ?_)
        · go_simp
          refine hK.out _ _ ?_ (fun hHeld => ?_)
          · (try dsimp only); exact hS.out _ (by (repeat (first | exact Below.refl _ _ | refine Below.drew ?_ | refine Below.setCell ?_ (by simp <;> omega) _ | refine Below.alloc ?_ (by simp <;> omega) _)))
          clear hK K
          try simp only [Act.put, pA,pB,pC]
          refine RegP.evT (by (simp only [gA,gB,gC]); rfl) (fun K hK => ?_)
          go_simp
          refine hK.out _ _ ?_ (fun hHeld => ?_)
          · (try dsimp only); exact hS.out _ (by (repeat (first | exact Below.refl _ _ | refine Below.drew ?_ | refine Below.setCell ?_ (by simp <;> omega) _ | refine Below.alloc ?_ (by simp <;> omega) _)))
          clear hK K
          try simp only [Act.put, pA,pB,pC]
          refine RegP.evT (by (simp only [gA,gB,gC]); rfl) (fun K hK => ?_)
          go_simp
          refine hK.out _ _ ?_ (fun hHeld => ?_)
          · (try dsimp only); exact hS.out _ (by (repeat (first | exact Below.refl _ _ | refine Below.drew ?_ | refine Below.setCell ?_ (by simp <;> omega) _ | refine Below.alloc ?_ (by simp <;> omega) _)))
          clear hK K
          try simp only [Act.put, pA,pB,pC]
          refine RegP.evT (by (simp only [gA,gB,gC]); rfl) (fun K hK => ?_)
          go_simp
          refine hK.out _ _ ?_ (fun hHeld => ?_)
          · (try dsimp only); exact hS.out _ (by (repeat (first | exact Below.refl _ _ | refine Below.drew ?_ | refine Below.setCell ?_ (by simp <;> omega) _ | refine Below.alloc ?_ (by simp <;> omega) _)))
          clear hK K
          try simp only [Act.put, pA,pB,pC]
          refine RegP.doneT ?_
          clear hHeld
          try dsimp only
          go_wp2_with fail
          go_meet
          exact ⟨wr.heap.size, wr.heap.size + 1, rfl, rfl, Nat.le_refl _, Nat.le_succ _, Lib.hid (two_fst _ _ _), Lib.hid (two_snd _ _ _), Lib.hid (by (repeat (first | exact Below.refl _ _ | refine Below.drew ?_ | refine Below.setCell ?_ (by simp <;> omega) _ | refine Below.alloc ?_ (by simp <;> omega) _)))⟩
        · go_simp
          refine hK.out _ _ ?_ (fun hHeld => ?_)
          · (try dsimp only); exact hS.out _ (by (repeat (first | exact Below.refl _ _ | refine Below.drew ?_ | refine Below.setCell ?_ (by simp <;> omega) _ | refine Below.alloc ?_ (by simp <;> omega) _)))
          clear hK K
          try simp only [Act.put, pA,pB,pC]
          refine RegP.evT (by (simp only [gA,gB,gC]); rfl) (fun K hK => ?_)
          go_simp
          refine hK.out _ _ ?_ (fun hHeld => ?_)
          · (try dsimp only); exact hS.out _ (by (repeat (first | exact Below.refl _ _ | refine Below.drew ?_ | refine Below.setCell ?_ (by simp <;> omega) _ | refine Below.alloc ?_ (by simp <;> omega) _)))
          clear hK K
          try simp only [Act.put, pA,pB,pC]
          refine RegP.evT (by (simp only [gA,gB,gC]); rfl) (fun K hK => ?_)
          go_simp
          refine hK.out _ _ ?_ (fun hHeld => ?_)
          · (try dsimp only); exact hS.out _ (by (repeat (first | exact Below.refl _ _ | refine Below.drew ?_ | refine Below.setCell ?_ (by simp <;> omega) _ | refine Below.alloc ?_ (by simp <;> omega) _)))
          clear hK K
          try simp only [Act.put, pA,pB,pC]
          refine RegP.evT (by (simp only [gA,gB,gC]); rfl) (fun K hK => ?_)
          go_simp
          refine hK.out _ _ ?_ (fun hHeld => ?_)
          · (try dsimp only); exact hS.out _ (by (repeat (first | exact Below.refl _ _ | refine Below.drew ?_ | refine Below.setCell ?_ (by simp <;> omega) _ | refine Below.alloc ?_ (by simp <;> omega) _)))
          clear hK K
          try simp only [Act.put, pA,pB,pC]
          refine RegP.doneT ?_
          clear hHeld
          try dsimp only
          go_wp2_with fail
          go_meet
          exact ⟨wr.heap.size + 1, wr.heap.size, rfl, rfl, Nat.le_succ _, Nat.le_refl _, Lib.hid (two_snd _ _ _), Lib.hid (two_fst _ _ _), Lib.hid (by (repeat (first | exact Below.refl _ _ | refine Below.drew ?_ | refine Below.setCell ?_ (by simp <;> omega) _ | refine Below.alloc ?_ (by simp <;> omega) _)))⟩
      case rest =>
        obtain ⟨p, q, rfl, rfl, hzp, hzq, hp3, hq3, hB3⟩ := hcut
        have p0_ := (cell_of_heap (j := 0) hp3.out).trans rfl
        have p1_ := (cell_of_heap (j := 1) hp3.out).trans rfl
        have p2_ := (cell_of_heap (j := 2) hp3.out).trans rfl
        have p3_ := (cell_of_heap (j := 3) hp3.out).trans rfl
        have p4_ := (cell_of_heap (j := 4) hp3.out).trans rfl
        have p5_ := (cell_of_heap (j := 5) hp3.out).trans rfl
        have q0_ := (cell_of_heap (j := 0) hq3.out).trans rfl
        have q1_ := (cell_of_heap (j := 1) hq3.out).trans rfl
        have q2_ := (cell_of_heap (j := 2) hq3.out).trans rfl
        have q3_ := (cell_of_heap (j := 3) hq3.out).trans rfl
        have q4_ := (cell_of_heap (j := 4) hq3.out).trans rfl
        have q5_ := (cell_of_heap (j := 5) hq3.out).trans rfl
        go_wp2_with fail
        refine (hN0.out _ hB3.out).mono ?_
        rintro e w4 ⟨rfl, hb⟩
        have hB4 := Lib.hid (hB3.out.trans (hb.mono hB3.out.size))
        have hp4 := Lib.hid ((hb.block _ (lt_blk hp3.out)).trans hp3.out)
        have hq4 := Lib.hid ((hb.block _ (lt_blk hq3.out)).trans hq3.out)
        clear hb
        clear p0_ q0_ p1_ q1_ p2_ q2_ p3_ q3_ p4_ q4_ p5_ q5_
        have p0_ := (cell_of_heap (j := 0) hp4.out).trans rfl
        have p1_ := (cell_of_heap (j := 1) hp4.out).trans rfl
        have p2_ := (cell_of_heap (j := 2) hp4.out).trans rfl
        have p3_ := (cell_of_heap (j := 3) hp4.out).trans rfl
        have p4_ := (cell_of_heap (j := 4) hp4.out).trans rfl
        have p5_ := (cell_of_heap (j := 5) hp4.out).trans rfl
        have q0_ := (cell_of_heap (j := 0) hq4.out).trans rfl
        have q1_ := (cell_of_heap (j := 1) hq4.out).trans rfl
        have q2_ := (cell_of_heap (j := 2) hq4.out).trans rfl
        have q3_ := (cell_of_heap (j := 3) hq4.out).trans rfl
        have q4_ := (cell_of_heap (j := 4) hq4.out).trans rfl
        have q5_ := (cell_of_heap (j := 5) hq4.out).trans rfl
        go_wp2_with fail
        refine (hN1.out _ hB4.out).mono ?_
        rintro e w5 ⟨rfl, hb⟩
        have hB5 := Lib.hid (hB4.out.trans (hb.mono hB4.out.size))
        have hp5 := Lib.hid ((hb.block _ (lt_blk hp4.out)).trans hp4.out)
        have hq5 := Lib.hid ((hb.block _ (lt_blk hq4.out)).trans hq4.out)
        clear hb
        clear p0_ q0_ p1_ q1_ p2_ q2_ p3_ q3_ p4_ q4_ p5_ q5_
        have p0_ := (cell_of_heap (j := 0) hp5.out).trans rfl
        have p1_ := (cell_of_heap (j := 1) hp5.out).trans rfl
        have p2_ := (cell_of_heap (j := 2) hp5.out).trans rfl
        have p3_ := (cell_of_heap (j := 3) hp5.out).trans rfl
        have p4_ := (cell_of_heap (j := 4) hp5.out).trans rfl
        have p5_ := (cell_of_heap (j := 5) hp5.out).trans rfl
        have q0_ := (cell_of_heap (j := 0) hq5.out).trans rfl
        have q1_ := (cell_of_heap (j := 1) hq5.out).trans rfl
        have q2_ := (cell_of_heap (j := 2) hq5.out).trans rfl
        have q3_ := (cell_of_heap (j := 3) hq5.out).trans rfl
        have q4_ := (cell_of_heap (j := 4) hq5.out).trans rfl
        have q5_ := (cell_of_heap (j := 5) hq5.out).trans rfl
        go_wp2_with fail
        refine (hN2.out _ hB5.out).mono ?_
        rintro e w6 ⟨rfl, hb⟩
        have hB6 := Lib.hid (hB5.out.trans (hb.mono hB5.out.size))
        have hp6 := Lib.hid ((hb.block _ (lt_blk hp5.out)).trans hp5.out)
        have hq6 := Lib.hid ((hb.block _ (lt_blk hq5.out)).trans hq5.out)
        clear hb
        clear p0_ q0_ p1_ q1_ p2_ q2_ p3_ q3_ p4_ q4_ p5_ q5_
        have p0_ := (cell_of_heap (j := 0) hp6.out).trans rfl
        have p1_ := (cell_of_heap (j := 1) hp6.out).trans rfl
        have p2_ := (cell_of_heap (j := 2) hp6.out).trans rfl
        have p3_ := (cell_of_heap (j := 3) hp6.out).trans rfl
        have p4_ := (cell_of_heap (j := 4) hp6.out).trans rfl
        have p5_ := (cell_of_heap (j := 5) hp6.out).trans rfl
        have q0_ := (cell_of_heap (j := 0) hq6.out).trans rfl
        have q1_ := (cell_of_heap (j := 1) hq6.out).trans rfl
        have q2_ := (cell_of_heap (j := 2) hq6.out).trans rfl
        have q3_ := (cell_of_heap (j := 3) hq6.out).trans rfl
        have q4_ := (cell_of_heap (j := 4) hq6.out).trans rfl
        have q5_ := (cell_of_heap (j := 5) hq6.out).trans rfl
        go_wp2_with fail
        refine (hN3.out _ hB6.out).mono ?_
        rintro e w7 ⟨rfl, hb⟩
        have hB7 := Lib.hid (hB6.out.trans (hb.mono hB6.out.size))
        have hp7 := Lib.hid ((hb.block _ (lt_blk hp6.out)).trans hp6.out)
        have hq7 := Lib.hid ((hb.block _ (lt_blk hq6.out)).trans hq6.out)
        clear hb
        clear p0_ q0_ p1_ q1_ p2_ q2_ p3_ q3_ p4_ q4_ p5_ q5_
        have p0_ := (cell_of_heap (j := 0) hp7.out).trans rfl
        have p1_ := (cell_of_heap (j := 1) hp7.out).trans rfl
        have p2_ := (cell_of_heap (j := 2) hp7.out).trans rfl
        have p3_ := (cell_of_heap (j := 3) hp7.out).trans rfl
        have p4_ := (cell_of_heap (j := 4) hp7.out).trans rfl
        have p5_ := (cell_of_heap (j := 5) hp7.out).trans rfl
        have q0_ := (cell_of_heap (j := 0) hq7.out).trans rfl
        have q1_ := (cell_of_heap (j := 1) hq7.out).trans rfl
        have q2_ := (cell_of_heap (j := 2) hq7.out).trans rfl
        have q3_ := (cell_of_heap (j := 3) hq7.out).trans rfl
        have q4_ := (cell_of_heap (j := 4) hq7.out).trans rfl
        have q5_ := (cell_of_heap (j := 5) hq7.out).trans rfl
        go_wp2_with fail
        go_roundg gk
        case measure => omega
        case rel => exact ⟨i + 1, by go_num, by omega, Nat.le_trans hz hB7.out.size, Lib.hid (hB.out.trans (hB7.out.mono hB.out.size)), Lib.hid ((hB7.out.block _ (by omega)).trans hm.out), Lib.hid ((hB7.out.block _ (by omega)).trans hn.out)⟩
end Go.Proofs.YtbjekebkgidhaaaGreatDoor.Mf
end
section
namespace Go.Proofs.YtbjekebkgidhaaaGreatDoor.P
open Go.RowKit Go.Proofs.YtbjekebkgidhaaaGreatDoorW.PrintWords Go.Proofs.YtbjekebkgidhaaaGreatDoorW.PrintLast Go.Proofs.YtbjekebkgidhaaaGreatDoorW.PrintMore
attribute [local go_sem] max2_int min2_int max_two min_two max_three min_three max_four min_four
set_option linter.unusedVariables false
set_option linter.unusedSimpArgs false
def bellowslaw12_awake.f  : Option (Bool) := (print_Print.f (([(⟨(([(⟨#[97]⟩ : ByteArray)] : List ByteArray)), (([(⟨#[98]⟩ : ByteArray)] : List ByteArray)), ([] : List ByteArray), ([] : List ByteArray), (⟨#[99]⟩ : ByteArray), (⟨#[]⟩ : ByteArray)⟩ : S47)] : List (S47))) ([] : List ByteArray)).bind fun bt162 => (if bt162.2 = 0 then (some (bt162.1.toList == ([114, 117, 108, 101, 32, 114, 48, 10, 32, 32, 99, 111, 109, 109, 97, 110, 100, 32, 61, 32, 99, 10, 98, 117, 105, 108, 100, 32, 97, 58, 32, 114, 48, 32, 98, 10] : List UInt8))) else (some false))
set_option maxHeartbeats 8000000 in
set_option maxRecDepth 100000 in
theorem bellowslaw12_awake.calls  (r : Bool) (w : World) (h : bellowslaw12_awake.f  = some r) :
    Calls Tryz.prog 8 #[] w fun e w' => e = .returned (.bool r) ∧ Below w.heap.size w w' := by
  have hu47 := Tryz.underlying47
  have hu32 := Tryz.underlying32
  have HB := Aside0.mk (Below.refl w.heap.size w)
  have H : ((print_Print.f (([(⟨(([(⟨#[97]⟩ : ByteArray)] : List ByteArray)), (([(⟨#[98]⟩ : ByteArray)] : List ByteArray)), ([] : List ByteArray), ([] : List ByteArray), (⟨#[99]⟩ : ByteArray), (⟨#[]⟩ : ByteArray)⟩ : S47)] : List (S47))) ([] : List ByteArray)).bind fun bt162 => (if bt162.2 = 0 then (some (bt162.1.toList == ([114, 117, 108, 101, 32, 114, 48, 10, 32, 32, 99, 111, 109, 109, 97, 110, 100, 32, 61, 32, 99, 10, 98, 117, 105, 108, 100, 32, 97, 58, 32, 114, 48, 32, 98, 10] : List UInt8))) else (some false))) = some r := h
  clear h
  obtain ⟨y153, hy153⟩ : ∃ y_ : List ByteArray, y_ = (([(⟨#[97]⟩ : ByteArray)] : List ByteArray)) := ⟨_, rfl⟩
  replace H : ((print_Print.f (([(⟨y153, (([(⟨#[98]⟩ : ByteArray)] : List ByteArray)), ([] : List ByteArray), ([] : List ByteArray), (⟨#[99]⟩ : ByteArray), (⟨#[]⟩ : ByteArray)⟩ : S47)] : List (S47))) ([] : List ByteArray)).bind fun bt162 => (if bt162.2 = 0 then (some (bt162.1.toList == ([114, 117, 108, 101, 32, 114, 48, 10, 32, 32, 99, 111, 109, 109, 97, 110, 100, 32, 61, 32, 99, 10, 98, 117, 105, 108, 100, 32, 97, 58, 32, 114, 48, 32, 98, 10] : List UInt8))) else (some false))) = some r := by first | (rw [hy153]; with_reducible exact H) | (have H2_ := (Option.bind_some _ _).symm.trans H; rw [hy153]; with_reducible exact H2_) | (have H2_ := (Option.bind_some _ _).symm.trans H; with_reducible exact H2_) | with_reducible exact H | (rw [hy153]; exact H) | exact H
  have Ny153 := Aside0.mk hy153
  clear hy153
  obtain ⟨y156, hy156⟩ : ∃ y_ : List ByteArray, y_ = (([(⟨#[98]⟩ : ByteArray)] : List ByteArray)) := ⟨_, rfl⟩
  replace H : ((print_Print.f (([(⟨y153, y156, ([] : List ByteArray), ([] : List ByteArray), (⟨#[99]⟩ : ByteArray), (⟨#[]⟩ : ByteArray)⟩ : S47)] : List (S47))) ([] : List ByteArray)).bind fun bt162 => (if bt162.2 = 0 then (some (bt162.1.toList == ([114, 117, 108, 101, 32, 114, 48, 10, 32, 32, 99, 111, 109, 109, 97, 110, 100, 32, 61, 32, 99, 10, 98, 117, 105, 108, 100, 32, 97, 58, 32, 114, 48, 32, 98, 10] : List UInt8))) else (some false))) = some r := by first | (rw [hy156]; with_reducible exact H) | (have H2_ := (Option.bind_some _ _).symm.trans H; rw [hy156]; with_reducible exact H2_) | (have H2_ := (Option.bind_some _ _).symm.trans H; with_reducible exact H2_) | with_reducible exact H | (rw [hy156]; exact H) | exact H
  have Ny156 := Aside0.mk hy156
  clear hy156
  obtain ⟨y159, hy159⟩ : ∃ y_ : List (S47), y_ = (([(⟨y153, y156, ([] : List ByteArray), ([] : List ByteArray), (⟨#[99]⟩ : ByteArray), (⟨#[]⟩ : ByteArray)⟩ : S47)] : List (S47))) := ⟨_, rfl⟩
  replace H : ((print_Print.f y159 ([] : List ByteArray)).bind fun bt162 => (if bt162.2 = 0 then (some (bt162.1.toList == ([114, 117, 108, 101, 32, 114, 48, 10, 32, 32, 99, 111, 109, 109, 97, 110, 100, 32, 61, 32, 99, 10, 98, 117, 105, 108, 100, 32, 97, 58, 32, 114, 48, 32, 98, 10] : List UInt8))) else (some false))) = some r := by first | (rw [hy159]; with_reducible exact H) | (have H2_ := (Option.bind_some _ _).symm.trans H; rw [hy159]; with_reducible exact H2_) | (have H2_ := (Option.bind_some _ _).symm.trans H; with_reducible exact H2_) | with_reducible exact H | (rw [hy159]; exact H) | exact H
  have Ny159 := Aside0.mk hy159
  clear hy159
  replace H := Option.bind_eq_some_iff.mp H
  obtain ⟨⟨t162, t163⟩, A10, H⟩ := H
  replace H : (if t163 = 0 then (some (t162.toList == ([114, 117, 108, 101, 32, 114, 48, 10, 32, 32, 99, 111, 109, 109, 97, 110, 100, 32, 61, 32, 99, 10, 98, 117, 105, 108, 100, 32, 97, 58, 32, 114, 48, 32, 98, 10] : List UInt8))) else (some false)) = some r := H
  have A1 := Aside0.mk A10
  clear A10
  by_cases c2 : t163 = 0
  · rw [if_pos c2] at H
    have c2b0 : (t163 == 0) = true := beq_iff_eq.mpr c2
    have c2b1 : (t163 != 0) = false := bne_eq_false_iff_eq.mpr c2
    clear c2
    obtain rfl := Option.some.inj H
    go_enter Tryz.func8, Tryz.ntmps8
    go_wp2_with (first | ((with_reducible refine gate_dst (N := 4) rfl ?_); refine Kd.R_lit Kd.string _ 9 ?hg (N := 4) ?hd (xs := ([(⟨#[97]⟩ : ByteArray)] : List ByteArray)) (inner := [.string (⟨#[97]⟩ : ByteArray)]) (ok := fun _ => True) (okp := fun _ => True) ?hr ?hp (fun _ hk => hk) trivial (Below.refl _ _) (Nat.le_refl _) (by simp) ?_; (case hd => rfl); (case hg => rfl); (case hr => first | (go_simp; done) | (go_simp; rfl)); (case hp => exact (Reps.one (show Kd.M Kd.string _ _ _ (⟨#[97]⟩ : ByteArray) [.string (⟨#[97]⟩ : ByteArray)] from rfl) (Reps.none _ _))); intro v154 w3 ho4 hb hg_ hnew_; clear hg_ hnew_; (first | rw [← Ny153.out] at ho4 | (simp only [Int.reduceToNat] at ho4; rw [← Ny153.out] at ho4)); have n0_ := Aside0.mk (Kd.R_lower ho4 (below_size (by repeat (first | (with_reducible first | exact HB.out | apply below_alloc | apply pw_below_drewN | apply below_drew1) | exact HB.out)))); have n1_ := Aside0.mk (below_step (by repeat (first | (with_reducible first | exact HB.out | apply below_alloc | apply pw_below_drewN | apply below_drew1) | exact HB.out)) hb); clear HB; have HO155 := n0_; have HB := n1_; clear n0_ n1_; clear hb ho4) | ((with_reducible refine gate_dst (N := 5) rfl ?_); refine Kd.R_lit Kd.string _ 9 ?hg (N := 5) ?hd (xs := ([(⟨#[98]⟩ : ByteArray)] : List ByteArray)) (inner := [.string (⟨#[98]⟩ : ByteArray)]) (ok := fun _ => True) (okp := fun _ => True) ?hr ?hp (fun _ hk => hk) trivial (Below.refl _ _) (Nat.le_refl _) (by simp) ?_; (case hd => rfl); (case hg => rfl); (case hr => first | (go_simp; done) | (go_simp; rfl)); (case hp => exact (Reps.one (show Kd.M Kd.string _ _ _ (⟨#[98]⟩ : ByteArray) [.string (⟨#[98]⟩ : ByteArray)] from rfl) (Reps.none _ _))); intro v157 w5 ho6 hb hg_ hnew_; clear hg_ hnew_; (first | rw [← Ny156.out] at ho6 | (simp only [Int.reduceToNat] at ho6; rw [← Ny156.out] at ho6)); have n0_ := Aside0.mk (Kd.R_elder' (by (with_reducible repeat (first | apply Kd.R_alloc | apply Kd.R_drewN | apply Kd.R_drew)); exact HO155.out) (Kd.R_base ho6) hb); have n1_ := Aside0.mk (Kd.R_lower (Kd.R_new' ho6 (Kd.R_lt (by (with_reducible repeat (first | apply Kd.R_alloc | apply Kd.R_drewN | apply Kd.R_drew)); exact HO155.out))) (below_size (by repeat (first | (with_reducible first | exact HB.out | apply below_alloc | apply pw_below_drewN | apply below_drew1) | exact HB.out)))); have n2_ := Aside0.mk (below_step (by repeat (first | (with_reducible first | exact HB.out | apply below_alloc | apply pw_below_drewN | apply below_drew1) | exact HB.out)) hb); clear HO155; clear HB; have HO155 := n0_; have HO158 := n1_; have HB := n2_; clear n0_ n1_ n2_; clear hb ho6; obtain ⟨Ao7, co7, eo7⟩ := Kd.R_slice HO158.out; subst eo7; obtain ⟨Ao8, co8, eo8⟩ := Kd.R_slice HO155.out; subst eo8) | ((with_reducible refine gate_dst (N := 7) rfl ?_); refine Kd.N_lit k47 _ 47 ?hg (N' := 7) ?hd (xs := ([(⟨y153, y156, ([] : List ByteArray), ([] : List ByteArray), (⟨#[99]⟩ : ByteArray), (⟨#[]⟩ : ByteArray)⟩ : S47)] : List (S47))) (inner := [.slice Ao8 y153.length co8, .slice Ao7 y156.length co7, .slice none 0 0, .slice none 0 0, .string (⟨#[99]⟩ : ByteArray), .string (⟨#[]⟩ : ByteArray)]) (ok := (fun _ => True)) (okp := (fun _ => True)) ?hr ?hp (fun _ hk => hk) ((show ∀ k_, w5.heap.size ≤ k_ → (fun _ => True) k_ from fun k_ hk => trivial) _ (Nat.le_refl _)) (Below.refl _ _) (Nat.le_refl _) (by simp) ?_; (case hd => rfl); (case hg => rfl); (case hr => first | (go_simp; done) | (go_simp; rfl)); (case hp => exact (Reps.c6 (show Kd.FK k47 _ _ (⟨y153, y156, ([] : List ByteArray), ([] : List ByteArray), (⟨#[99]⟩ : ByteArray), (⟨#[]⟩ : ByteArray)⟩ : S47) [.slice Ao8 y153.length co8, .slice Ao7 y156.length co7, .slice none 0 0, .slice none 0 0, .string (⟨#[99]⟩ : ByteArray), .string (⟨#[]⟩ : ByteArray)] from (k47_mkF _ _ (⟨y153, y156, ([] : List ByteArray), ([] : List ByteArray), (⟨#[99]⟩ : ByteArray), (⟨#[]⟩ : ByteArray)⟩ : S47) (Kd.R_reads' (Kd.R_mono (ok' := (fun _ => True)) (HO155.out) (fun k_ hk => trivial))).2.1 (Kd.R_F (Kd.R_mono (ok' := (fun _ => True)) (HO155.out) (fun k_ hk => trivial))) (Kd.R_reads' (Kd.R_mono (ok' := (fun _ => True)) (HO158.out) (fun k_ hk => trivial))).2.1 (Kd.R_F (Kd.R_mono (ok' := (fun _ => True)) (HO158.out) (fun k_ hk => trivial))) (Nat.le_refl _) (Kd.F_nil _ _ _) (Nat.le_refl _) (Kd.F_nil _ _ _))) (Reps.none _ _))); intro v160 w9 ho10 hb hg_ hnew_; clear hg_ hnew_; (first | rw [← Ny159.out] at ho10 | (simp only [Int.reduceToNat] at ho10; rw [← Ny159.out] at ho10)); have n0_ := Aside0.mk (Kd.N_lower ho10 (below_size (by repeat (first | (with_reducible first | exact HB.out | apply below_alloc | apply pw_below_drewN | apply below_drew1) | exact HB.out)))); have n1_ := Aside0.mk (below_step (by repeat (first | (with_reducible first | exact HB.out | apply below_alloc | apply pw_below_drewN | apply below_drew1) | exact HB.out)) hb); clear HB; clear HO155; clear HO158; have HO161 := n0_; have HB := n1_; clear n0_ n1_; clear hb ho10; obtain ⟨Ao11, co11, eo11⟩ := Kd.N_slice HO161.out; subst eo11) | ((with_reducible refine gate_callee (f := 6) rfl ?_); refine goesL_ (some 9) rfl rfl Tryz.func6 (by kernel_rfl) rfl #[.agg #[.slice Ao11 y159.length co11, .slice none 0 0]] rfl (by (try simp only [List.map_toArray, List.map_cons, List.map_nil]); first | done | rfl | (simp only [List.length_drop, List.length_take]; rfl)) ?_; (refine (print_Print.calls _ _ y159 _ _ ([] : List ByteArray) t162 t163 _ ?side1 ?side2 ?side3 ?side4 A1.out).mono ?_); (case side1 => repeat (first | exact (Kd.N_reads' HO161.out).2.2 | (with_reducible refine Kd.C_alloc ?_ _) | (with_reducible refine Kd.C_drewN ?_ _) | (with_reducible refine Kd.C_drew ?_))); (case side2 => exact (Kd.N_reads' HO161.out).2.1); (case side3 => exact Kd.C_nil _ _); (case side4 => exact Nat.le_refl _); rintro e w12 ⟨rfl, hb⟩; refine ⟨_, rfl, ?_⟩; have n0_ := Aside0.mk (Kd.N_below (by (with_reducible repeat (first | apply Kd.N_alloc | apply Kd.N_drewN | apply Kd.N_drew)); exact HO161.out) hb); have n1_ := Aside0.mk (below_step (by repeat (first | (with_reducible first | exact HB.out | apply below_alloc | apply pw_below_drewN | apply below_drew1) | exact HB.out)) hb); clear HO161; clear HB; have HO161 := n0_; have HB := n1_; clear n0_ n1_; (try clear hb); (try clear hb2); (try clear hk); (try clear hi)))
    go_ret
    exact ⟨by first | rfl | (simp [errW_none, errW_some] <;> rfl) | (simp [*, errW_none, errW_some] <;> rfl), by repeat (first | (with_reducible first | exact HB.out | apply below_alloc | apply pw_below_drewN | apply below_drew1) | exact HB.out)⟩
  · rw [if_neg c2] at H
    have c2b0 : (t163 == 0) = false := beq_eq_false_iff_ne.mpr c2
    have c2b1 : (t163 != 0) = true := bne_iff_ne.mpr c2
    obtain rfl := Option.some.inj H
    go_enter Tryz.func8, Tryz.ntmps8
    go_wp2_with (first | ((with_reducible refine gate_dst (N := 4) rfl ?_); refine Kd.R_lit Kd.string _ 9 ?hg (N := 4) ?hd (xs := ([(⟨#[97]⟩ : ByteArray)] : List ByteArray)) (inner := [.string (⟨#[97]⟩ : ByteArray)]) (ok := fun _ => True) (okp := fun _ => True) ?hr ?hp (fun _ hk => hk) trivial (Below.refl _ _) (Nat.le_refl _) (by simp) ?_; (case hd => rfl); (case hg => rfl); (case hr => first | (go_simp; done) | (go_simp; rfl)); (case hp => exact (Reps.one (show Kd.M Kd.string _ _ _ (⟨#[97]⟩ : ByteArray) [.string (⟨#[97]⟩ : ByteArray)] from rfl) (Reps.none _ _))); intro v154 w13 ho14 hb hg_ hnew_; clear hg_ hnew_; (first | rw [← Ny153.out] at ho14 | (simp only [Int.reduceToNat] at ho14; rw [← Ny153.out] at ho14)); have n0_ := Aside0.mk (Kd.R_lower ho14 (below_size (by repeat (first | (with_reducible first | exact HB.out | apply below_alloc | apply pw_below_drewN | apply below_drew1) | exact HB.out)))); have n1_ := Aside0.mk (below_step (by repeat (first | (with_reducible first | exact HB.out | apply below_alloc | apply pw_below_drewN | apply below_drew1) | exact HB.out)) hb); clear HB; have HO155 := n0_; have HB := n1_; clear n0_ n1_; clear hb ho14) | ((with_reducible refine gate_dst (N := 5) rfl ?_); refine Kd.R_lit Kd.string _ 9 ?hg (N := 5) ?hd (xs := ([(⟨#[98]⟩ : ByteArray)] : List ByteArray)) (inner := [.string (⟨#[98]⟩ : ByteArray)]) (ok := fun _ => True) (okp := fun _ => True) ?hr ?hp (fun _ hk => hk) trivial (Below.refl _ _) (Nat.le_refl _) (by simp) ?_; (case hd => rfl); (case hg => rfl); (case hr => first | (go_simp; done) | (go_simp; rfl)); (case hp => exact (Reps.one (show Kd.M Kd.string _ _ _ (⟨#[98]⟩ : ByteArray) [.string (⟨#[98]⟩ : ByteArray)] from rfl) (Reps.none _ _))); intro v157 w15 ho16 hb hg_ hnew_; clear hg_ hnew_; (first | rw [← Ny156.out] at ho16 | (simp only [Int.reduceToNat] at ho16; rw [← Ny156.out] at ho16)); have n0_ := Aside0.mk (Kd.R_elder' (by (with_reducible repeat (first | apply Kd.R_alloc | apply Kd.R_drewN | apply Kd.R_drew)); exact HO155.out) (Kd.R_base ho16) hb); have n1_ := Aside0.mk (Kd.R_lower (Kd.R_new' ho16 (Kd.R_lt (by (with_reducible repeat (first | apply Kd.R_alloc | apply Kd.R_drewN | apply Kd.R_drew)); exact HO155.out))) (below_size (by repeat (first | (with_reducible first | exact HB.out | apply below_alloc | apply pw_below_drewN | apply below_drew1) | exact HB.out)))); have n2_ := Aside0.mk (below_step (by repeat (first | (with_reducible first | exact HB.out | apply below_alloc | apply pw_below_drewN | apply below_drew1) | exact HB.out)) hb); clear HO155; clear HB; have HO155 := n0_; have HO158 := n1_; have HB := n2_; clear n0_ n1_ n2_; clear hb ho16; obtain ⟨Ao17, co17, eo17⟩ := Kd.R_slice HO158.out; subst eo17; obtain ⟨Ao18, co18, eo18⟩ := Kd.R_slice HO155.out; subst eo18) | ((with_reducible refine gate_dst (N := 7) rfl ?_); refine Kd.N_lit k47 _ 47 ?hg (N' := 7) ?hd (xs := ([(⟨y153, y156, ([] : List ByteArray), ([] : List ByteArray), (⟨#[99]⟩ : ByteArray), (⟨#[]⟩ : ByteArray)⟩ : S47)] : List (S47))) (inner := [.slice Ao18 y153.length co18, .slice Ao17 y156.length co17, .slice none 0 0, .slice none 0 0, .string (⟨#[99]⟩ : ByteArray), .string (⟨#[]⟩ : ByteArray)]) (ok := (fun _ => True)) (okp := (fun _ => True)) ?hr ?hp (fun _ hk => hk) ((show ∀ k_, w15.heap.size ≤ k_ → (fun _ => True) k_ from fun k_ hk => trivial) _ (Nat.le_refl _)) (Below.refl _ _) (Nat.le_refl _) (by simp) ?_; (case hd => rfl); (case hg => rfl); (case hr => first | (go_simp; done) | (go_simp; rfl)); (case hp => exact (Reps.c6 (show Kd.FK k47 _ _ (⟨y153, y156, ([] : List ByteArray), ([] : List ByteArray), (⟨#[99]⟩ : ByteArray), (⟨#[]⟩ : ByteArray)⟩ : S47) [.slice Ao18 y153.length co18, .slice Ao17 y156.length co17, .slice none 0 0, .slice none 0 0, .string (⟨#[99]⟩ : ByteArray), .string (⟨#[]⟩ : ByteArray)] from (k47_mkF _ _ (⟨y153, y156, ([] : List ByteArray), ([] : List ByteArray), (⟨#[99]⟩ : ByteArray), (⟨#[]⟩ : ByteArray)⟩ : S47) (Kd.R_reads' (Kd.R_mono (ok' := (fun _ => True)) (HO155.out) (fun k_ hk => trivial))).2.1 (Kd.R_F (Kd.R_mono (ok' := (fun _ => True)) (HO155.out) (fun k_ hk => trivial))) (Kd.R_reads' (Kd.R_mono (ok' := (fun _ => True)) (HO158.out) (fun k_ hk => trivial))).2.1 (Kd.R_F (Kd.R_mono (ok' := (fun _ => True)) (HO158.out) (fun k_ hk => trivial))) (Nat.le_refl _) (Kd.F_nil _ _ _) (Nat.le_refl _) (Kd.F_nil _ _ _))) (Reps.none _ _))); intro v160 w19 ho20 hb hg_ hnew_; clear hg_ hnew_; (first | rw [← Ny159.out] at ho20 | (simp only [Int.reduceToNat] at ho20; rw [← Ny159.out] at ho20)); have n0_ := Aside0.mk (Kd.N_lower ho20 (below_size (by repeat (first | (with_reducible first | exact HB.out | apply below_alloc | apply pw_below_drewN | apply below_drew1) | exact HB.out)))); have n1_ := Aside0.mk (below_step (by repeat (first | (with_reducible first | exact HB.out | apply below_alloc | apply pw_below_drewN | apply below_drew1) | exact HB.out)) hb); clear HB; clear HO155; clear HO158; have HO161 := n0_; have HB := n1_; clear n0_ n1_; clear hb ho20; obtain ⟨Ao21, co21, eo21⟩ := Kd.N_slice HO161.out; subst eo21) | ((with_reducible refine gate_callee (f := 6) rfl ?_); refine goesL_ (some 9) rfl rfl Tryz.func6 (by kernel_rfl) rfl #[.agg #[.slice Ao21 y159.length co21, .slice none 0 0]] rfl (by (try simp only [List.map_toArray, List.map_cons, List.map_nil]); first | done | rfl | (simp only [List.length_drop, List.length_take]; rfl)) ?_; (refine (print_Print.calls _ _ y159 _ _ ([] : List ByteArray) t162 t163 _ ?side1 ?side2 ?side3 ?side4 A1.out).mono ?_); (case side1 => repeat (first | exact (Kd.N_reads' HO161.out).2.2 | (with_reducible refine Kd.C_alloc ?_ _) | (with_reducible refine Kd.C_drewN ?_ _) | (with_reducible refine Kd.C_drew ?_))); (case side2 => exact (Kd.N_reads' HO161.out).2.1); (case side3 => exact Kd.C_nil _ _); (case side4 => exact Nat.le_refl _); rintro e w22 ⟨rfl, hb⟩; refine ⟨_, rfl, ?_⟩; have n0_ := Aside0.mk (Kd.N_below (by (with_reducible repeat (first | apply Kd.N_alloc | apply Kd.N_drewN | apply Kd.N_drew)); exact HO161.out) hb); have n1_ := Aside0.mk (below_step (by repeat (first | (with_reducible first | exact HB.out | apply below_alloc | apply pw_below_drewN | apply below_drew1) | exact HB.out)) hb); clear HO161; clear HB; have HO161 := n0_; have HB := n1_; clear n0_ n1_; (try clear hb); (try clear hb2); (try clear hk); (try clear hi)))
    go_ret
    exact ⟨by first | rfl | (simp [errW_none, errW_some] <;> rfl) | (simp [*, errW_none, errW_some] <;> rfl), by repeat (first | (with_reducible first | exact HB.out | apply below_alloc | apply pw_below_drewN | apply below_drew1) | exact HB.out)⟩
end Go.Proofs.YtbjekebkgidhaaaGreatDoor.P
end
section
set_option linter.unusedSimpArgs false
set_option linter.unusedVariables false
namespace Go.Proofs.YtbjekebkgidhaaaGreatDoor.Mf
open Go.RowKit Go.Lib Go.Shelf Go.Maps Go.Proofs.YtbjekebkgidhaaaGreatDoorW.PrintWords Go.Proofs.YtbjekebkgidhaaaGreatDoor.U Go.Proofs.YtbjekebkgidhaaaGreatDoor.Sc Go.Proofs.YtbjekebkgidhaaaGreatDoor.P Go.Proofs.YtbjekebkgidhaaaGreatDoor.MapV
theorem awakeTrue : bellowslaw12_awake.f = some true := by kernel_rfl
theorem parse_A {t : Txt} {es : List EdgeO} {ds : List Txt} {n : Nat} {c : Int} {m : List SE} {d : List ByteArray} (h : parseL t = (es, ds, n, c)) (h1 : es.map toS = m) (h2 : ds.map B = d) (w : World) (hm : MaxCell w) :
    Calls Tryz.prog 9 #[.string (B t)] w fun e w' => ∃ A0 c0 A1 c1, e = .returned (.tuple #[.agg #[.slice A0 m.length c0, .slice A1 d.length c1], .int .i64 (n : Int), .int .i64 c]) ∧ m.length ≤ c0 ∧ Kd.C KE w' A0 m.length m ∧ d.length ≤ c1 ∧ Kd.C Kd.string w' A1 d.length d ∧ Below w.heap.size w w' := by
  subst h1 h2
  exact parse_C t _ _ _ _ h _ rfl w hm
theorem parse_B {m : List SE} {d : List ByteArray} {s : ByteArray} (h : printM m d = (s, 0)) (w : World) (hm : MaxCell w) :
    Calls Tryz.prog 9 #[.string s] w fun e w' => ∃ A0 c0 A1 c1, e = .returned (.tuple #[.agg #[.slice A0 m.length c0, .slice A1 d.length c1], .int .i64 0, .int .i64 0]) ∧ m.length ≤ c0 ∧ Kd.C KE w' A0 m.length m ∧ d.length ≤ c1 ∧ Kd.C Kd.string w' A1 d.length d ∧ Below w.heap.size w w' := by
  obtain ⟨t, rfl, hp⟩ := print_back h
  have e1 : (m.map toO).map toS = m := by
    rw [List.map_map]
    conv => rhs; rw [← List.map_id m]
    exact List.map_congr_left fun a _ => toS_toO a
  exact parse_A hp e1 (map_B_toL d) w hm
theorem print_N {m : List SE} {d : List ByteArray} {s0 : ByteArray} {s1 : Int} (hok : okN m d = true) (hp : printM m d = (s0, s1)) (A0 A1 : Option Addr) (c0 c1 : Nat) (W : World) (ht : Tab W) (h0 : m.length ≤ c0) (g0 : Kd.C KE W A0 m.length m) (h1 : d.length ≤ c1) (g1 : Kd.C Kd.string W A1 d.length d) :
    Calls Tryz.prog 6 #[.agg #[.slice A0 m.length c0, .slice A1 d.length c1]] W fun x w' => x = .returned (.tuple #[.string s0, .int .i64 s1]) ∧ Below W.heap.size W w' := by
  have := Print_anyN A0 A1 c0 c1 m d W ht g0 h0 g1 h1 hok
  rw [hp] at this
  exact this
theorem printM_right {m : List SE} {d : List ByteArray} (h : rightM m d = true) : printM m d = (⟨#[]⟩, 3) ∨ ∃ s, printM m d = (s, 0) := by
  unfold printM
  rw [h, if_neg (by decide)]
  split
  · exact .inl rfl
  · exact .inr ⟨_, rfl⟩
theorem told_D (m : List SE) (d : List ByteArray) (A0 A1 : Option Addr) (c0 c1 : Nat) (w : World) (h0 : m.length ≤ c0) (g0 : Kd.C KE w A0 m.length m) (hn : m.length ≤ 1000000) :
    Calls Tryz.prog 11 #[.agg #[.slice A0 m.length c0, .slice A1 d.length c1]] w fun x w' => ∃ B0 d0, x = .returned (.agg #[.slice B0 m.length d0, .slice A1 d.length c1]) ∧ m.length ≤ d0 ∧ Kd.C KR w' B0 m.length (m.map cvE) ∧ Below w.heap.size w w' := by
  have hl : (m.map cvE).length = m.length := List.length_map _
  have := told_C m d A0 A1 c0 c1 w h0 g0 hn
  rw [hl] at this
  exact this
theorem same_D (m : List SE) (d : List ByteArray) (A0 A1 A2 A3 : Option Addr) (c0 c1 c2 c3 : Nat) (w : World) (h0 : m.length ≤ c0) (g0 : Kd.C KR w A0 m.length (m.map cvE)) (h1 : d.length ≤ c1) (g1 : Kd.C Kd.string w A1 d.length d) (h2 : m.length ≤ c2) (g2 : Kd.C KR w A2 m.length (m.map cvE)) (h3 : d.length ≤ c3) (g3 : Kd.C Kd.string w A3 d.length d) :
    Calls Tryz.prog 10 #[.agg #[.slice A0 m.length c0, .slice A1 d.length c1], .agg #[.slice A2 m.length c2, .slice A3 d.length c3]] w fun e w' => e = .returned (.bool true) ∧ Below w.heap.size w w' := by
  have hl : (m.map cvE).length = m.length := List.length_map _
  have := same_C (m.map cvE) d A0 A1 A2 A3 c0 c1 c2 c3 w (by rw [hl]; exact h0) (by rw [hl]; exact g0) h1 g1 (by rw [hl]; exact h2) (by rw [hl]; exact g2) h3 g3
  rw [hl] at this
  exact this
set_option maxRecDepth 100000 in
set_option maxHeartbeats 16000000 in
theorem again_walk (a : ByteArray) (w : World) (hm : MaxCell w) (ht : Tab w) (hsz : a.size ≤ 140737488351232) : Calls Tryz.prog 4 #[.string a] w fun e w' => e = .returned (.bool true) ∧ Below w.heap.size w w' := by
  have hu32 := Tryz.underlying32
  have hMH := Lib.hid (fun W (hB : Below w.heap.size w W) => hm.below hB)
  have hTH := Lib.hid (fun W (hB : Below w.heap.size w W) => ht.below hB)
  have hAw := Lib.hid (fun W => bellowslaw12_awake.calls true W awakeTrue)
  clear hm ht
  obtain ⟨text, rfl⟩ : ∃ t : Txt, a = B t := ⟨_, B_of a⟩
  rw [size_B] at hsz
  by_cases hl : 3000 < text.length
  · have hgt : decide ((3000 : Int) < (text.length : Int)) = true := by rw [decide_eq_true_iff]; omega
    go_enter Tryz.func4, Tryz.ntmps4
    go_wp2_with fail
    go_ret
    exact ⟨rfl, Below.refl _ _⟩
  have hgt : decide ((3000 : Int) < (text.length : Int)) = false := by rw [decide_eq_false_iff_not]; omega
  obtain ⟨⟨es, ds, n, c⟩, hp⟩ : ∃ r, parseL text = r := ⟨_, rfl⟩
  have hok := fun (e : c = 0) => parse_ok (by omega) (e ▸ hp)
  obtain ⟨m, hm1⟩ : ∃ m, es.map toS = m := ⟨_, rfl⟩
  obtain ⟨d, hd1⟩ : ∃ d, ds.map B = d := ⟨_, rfl⟩
  have hPa := Lib.hid (parse_A hp hm1 hd1)
  have hml : m.length = es.length := by rw [← hm1, List.length_map]
  have hdl : d.length = ds.length := by rw [← hd1, List.length_map]
  rw [hm1, hd1, ← hml, ← hdl] at hok
  clear hp hm1 hd1 hml hl hdl
  have hbsz : (B text).size = text.length := size_B text
  generalize B text = a at *
  go_enter Tryz.func4, Tryz.ntmps4
  go_wp2_with fail
  refine (hPa.out w (hMH.out _ (Below.refl _ _))).mono ?_
  rintro x w1 ⟨A0, c0, A1, c1, rfl, l0, g0, l1, g1, hb⟩
  have hB1 := Lib.hid hb
  have hC1 : Hid ((w1.alloc (.cells #[.slice A0 m.length c0, .slice A1 d.length c1] 32)).heap[w1.heap.size]? = some (.cells #[.slice A0 m.length c0, .slice A1 d.length c1] 32 (0, 0))) := heap_alloc_new _ _
  have hBa : Hid (Below w1.heap.size w1 (w1.alloc (.cells #[.slice A0 m.length c0, .slice A1 d.length c1] 32))) := Lib.hid (by (repeat (first | exact Below.refl _ _ | refine Below.drew ?_ | refine Below.setCell ?_ (by simp <;> omega) _ | refine Below.alloc ?_ (by simp <;> omega) _)))
  have hG0 := Lib.hid (fun W (hW : Below w1.heap.size w1 W) => Kd.C_below g0 hW)
  have hG1 := Lib.hid (fun W (hW : Below w1.heap.size w1 W) => Kd.C_below g1 hW)
  clear hb g0 g1 hPa hsz hgt
  by_cases hc : c = 0
  · subst hc
    obtain ⟨hr, hokN, hns, hn2, hd3⟩ := hok rfl
    clear hok
    have k0 := (cell_of_heap (j := 0) hC1.out).trans rfl
    have k1 := (cell_of_heap (j := 1) hC1.out).trans rfl
    rcases printM_right hr with hpm | ⟨s, hpm⟩
    · go_wp2_with fail
      have hP := Lib.hid (print_N hokN hpm)
      refine (hP.out A0 A1 c0 c1 _ (hTH.out _ (hB1.out.trans (hBa.out.mono hB1.out.size))) l0 (hG0.out _ hBa.out) l1 (hG1.out _ hBa.out)).mono ?_
      rintro x w2 ⟨rfl, hb⟩
      have hB2 := Lib.hid (hBa.out.trans (hb.mono hBa.out.size))
      have hC2 := Lib.hid ((hb.block _ (lt_blk hC1.out)).trans hC1.out)
      clear k0 k1
      have k0 := (cell_of_heap (j := 0) hC2.out).trans rfl
      have k1 := (cell_of_heap (j := 1) hC2.out).trans rfl
      clear hb
      go_wp2_with fail
      have hR := Lib.hid (fun W (hW : Below w1.heap.size w1 W) => Right_any A0 A1 c0 c1 m d W (hG0.out W hW) l0 (hG1.out W hW) l1 (by omega) (by omega) hns)
      rw [hr] at hR
      refine (hR.out _ hB2.out).mono ?_
      rintro x w3 ⟨rfl, hb⟩
      have hB3 := Lib.hid (hB2.out.trans (hb.mono hB2.out.size))
      have hC3 := Lib.hid ((hb.block _ (lt_blk hC2.out)).trans hC2.out)
      clear k0 k1
      have k0 := (cell_of_heap (j := 0) hC3.out).trans rfl
      have k1 := (cell_of_heap (j := 1) hC3.out).trans rfl
      clear hb
      go_wp2_with fail
      refine (hAw.out _).mono ?_
      rintro x w4 ⟨rfl, hb⟩
      have hB4 := Lib.hid (hB3.out.trans (hb.mono hB3.out.size))
      have hC4 := Lib.hid ((hb.block _ (lt_blk hC3.out)).trans hC3.out)
      clear k0 k1
      have k0 := (cell_of_heap (j := 0) hC4.out).trans rfl
      have k1 := (cell_of_heap (j := 1) hC4.out).trans rfl
      clear hb
      go_wp2_with fail
      go_ret
      exact ⟨rfl, hB1.out.trans (hB4.out.mono hB1.out.size)⟩
    · go_wp2_with fail
      have hP := Lib.hid (print_N hokN hpm)
      refine (hP.out A0 A1 c0 c1 _ (hTH.out _ (hB1.out.trans (hBa.out.mono hB1.out.size))) l0 (hG0.out _ hBa.out) l1 (hG1.out _ hBa.out)).mono ?_
      rintro x w2 ⟨rfl, hb⟩
      have hB2 := Lib.hid (hBa.out.trans (hb.mono hBa.out.size))
      have hC2 := Lib.hid ((hb.block _ (lt_blk hC1.out)).trans hC1.out)
      clear k0 k1
      have k0 := (cell_of_heap (j := 0) hC2.out).trans rfl
      have k1 := (cell_of_heap (j := 1) hC2.out).trans rfl
      clear hb
      go_wp2_with fail
      refine (parse_B hpm w2 (hMH.out _ (hB1.out.trans (hB2.out.mono hB1.out.size)))).mono ?_
      rintro x w3 ⟨A2, c2, A3, c3, rfl, l2, g2, l3, g3, hb⟩
      have hB3 := Lib.hid (hB2.out.trans (hb.mono hB2.out.size))
      have hC3 := Lib.hid ((hb.block _ (lt_blk hC2.out)).trans hC2.out)
      have hG2 := Lib.hid (fun W (hW : Below w3.heap.size w3 W) => Kd.C_below g2 hW)
      have hG3 := Lib.hid (fun W (hW : Below w3.heap.size w3 W) => Kd.C_below g3 hW)
      have hX4 : Hid ((w3.alloc (.cells #[.slice A2 m.length c2, .slice A3 d.length c3] 32)).heap[w3.heap.size]? = some (.cells #[.slice A2 m.length c2, .slice A3 d.length c3] 32 (0, 0))) := heap_alloc_new _ _
      have hC4 : Hid ((w3.alloc (.cells #[.slice A2 m.length c2, .slice A3 d.length c3] 32)).heap[w1.heap.size]? = some (.cells #[.slice A0 m.length c0, .slice A1 d.length c1] 32 (0, 0))) := Lib.hid ((heapAt_lt (lt_blk hC3.out)).trans hC3.out)
      have hB4 : Hid (Below w3.heap.size w3 (w3.alloc (.cells #[.slice A2 m.length c2, .slice A3 d.length c3] 32))) := Lib.hid (by (repeat (first | exact Below.refl _ _ | refine Below.drew ?_ | refine Below.setCell ?_ (by simp <;> omega) _ | refine Below.alloc ?_ (by simp <;> omega) _)))
      clear k0 k1 hb g2 g3
      have x0 := (cell_of_heap (j := 0) hX4.out).trans rfl
      have x1 := (cell_of_heap (j := 1) hX4.out).trans rfl
      go_wp2_with fail
      generalize w3.alloc (.cells #[.slice A2 m.length c2, .slice A3 d.length c3] 32) = w4 at *
      have hB14 := Lib.hid (hB3.out.trans (hB4.out.mono hB3.out.size))
      refine (hP.out A2 A3 c2 c3 _ (hTH.out _ (hB1.out.trans (hB14.out.mono hB1.out.size))) l2 (hG2.out _ hB4.out) l3 (hG3.out _ hB4.out)).mono ?_
      rintro x w5 ⟨rfl, hb⟩
      have hX5 := Lib.hid ((hb.block _ (lt_blk hX4.out)).trans hX4.out)
      have hC5 := Lib.hid ((hb.block _ (lt_blk hC4.out)).trans hC4.out)
      have hB35 := Lib.hid (hB4.out.trans (hb.mono hB4.out.size))
      have hB15 := Lib.hid (hB14.out.trans (hb.mono hB14.out.size))
      clear x0 x1 hb hP
      have hbs : (s.toList == s.toList) = true := beq_self_eq_true _
      go_upto_region 11 with (fail)
      have hT1 := Lib.hid (fun W (hW : Below w5.heap.size w5 W) => told_D m d A2 A3 c2 c3 W l2 (hG2.out W (hB35.out.trans (hW.mono hB35.out.size))) (by omega))
      have hT2 := Lib.hid (fun W (hW : Below w5.heap.size w5 W) => told_D m d A0 A1 c0 c1 W l0 (hG0.out W (hB15.out.trans (hW.mono hB15.out.size))) (by omega))
      have hR1 := Lib.hid (fun W (hW : Below w5.heap.size w5 W) => hG1.out W (hB15.out.trans (hW.mono hB15.out.size)))
      have hR3 := Lib.hid (fun W (hW : Below w5.heap.size w5 W) => hG3.out W (hB35.out.trans (hW.mono hB35.out.size)))
      have hSS := Lib.hid (fun W (hW : Below w5.heap.size w5 W) => (⟨(cell_of_heap (j := 0) ((hW.block _ (lt_blk hX5.out)).trans hX5.out)).trans rfl, (cell_of_heap (j := 1) ((hW.block _ (lt_blk hX5.out)).trans hX5.out)).trans rfl, (cell_of_heap (j := 0) ((hW.block _ (lt_blk hC5.out)).trans hC5.out)).trans rfl, (cell_of_heap (j := 1) ((hW.block _ (lt_blk hC5.out)).trans hC5.out)).trans rfl⟩ : (fun w' => w'.cell? ⟨w3.heap.size, 0, none⟩ = some (.slice A2 m.length c2) ∧ w'.cell? ⟨w3.heap.size, 1, none⟩ = some (.slice A3 d.length c3) ∧ w'.cell? ⟨w1.heap.size, 0, none⟩ = some (.slice A0 m.length c0) ∧ w'.cell? ⟨w1.heap.size, 1, none⟩ = some (.slice A1 d.length c1)) W))
      refine RegP.regionH (fun w' => w'.cell? ⟨w3.heap.size, 0, none⟩ = some (.slice A2 m.length c2) ∧ w'.cell? ⟨w3.heap.size, 1, none⟩ = some (.slice A3 d.length c3) ∧ w'.cell? ⟨w1.heap.size, 0, none⟩ = some (.slice A0 m.length c0) ∧ w'.cell? ⟨w1.heap.size, 1, none⟩ = some (.slice A1 d.length c1)) [(0, 0), (0, 1), (0, 2), (0, 3), (0, 4), (0, 5), (0, 6), (0, 7), (0, 8), (0, 9), (0, 10), (0, 11), (0, 12), (0, 13), (0, 14), (0, 15), (0, 16), (0, 17), (0, 18), (0, 19), (1, 20), (1, 22), (2, 21), (2, 23), (2, 24), (0, 25), (0, 26), (2, 27), (0, 28), (0, 29)] (by kernel_rfl) (by kernel_rfl) (by rfl) (by kernel_rfl) (by exact hSS.out _ (Below.refl _ _).drew) ?_
      refine RegP.pure1 (by (simp only [gA,gB,gC]); rfl) (by exact fun _ _ _ h => h) (by rfl) (by intro w'; go_simp; try with_reducible rfl) ?_
      try simp only [Act.put, pA,pB,pC]
      refine RegP.pure1 (by (simp only [gA,gB,gC]); rfl) (by exact fun _ _ _ h => h) (by rfl) (by intro w'; go_simp; try with_reducible rfl) ?_
      try simp only [Act.put, pA,pB,pC]
      refine RegP.pure1 (by (simp only [gA,gB,gC]); rfl) (by exact fun _ _ _ h => h) (by rfl) (by intro w'; go_simp; try with_reducible rfl) ?_
      try simp only [Act.put, pA,pB,pC]
      refine RegP.pure1 (by (simp only [gA,gB,gC]); rfl) (by exact fun _ _ _ h => h) (by rfl) (by intro w'; go_simp; try with_reducible rfl) ?_
      try simp only [Act.put, pA,pB,pC]
      refine RegP.pure1 (by (simp only [gA,gB,gC]); rfl) (by exact fun _ _ _ h => h) (by rfl) (by intro w'; go_simp; try with_reducible rfl) ?_
      try simp only [Act.put, pA,pB,pC]
      refine RegP.pure1 (by (simp only [gA,gB,gC]); rfl) (by exact fun _ _ _ h => h) (by rfl) (by intro w'; go_simp; try with_reducible rfl) ?_
      try simp only [Act.put, pA,pB,pC]
      refine RegP.pure1 (by (simp only [gA,gB,gC]); rfl) (by exact fun _ _ _ h => h) (by rfl) (by intro w'; go_simp; try with_reducible rfl) ?_
      try simp only [Act.put, pA,pB,pC]
      refine RegP.pure1 (by (simp only [gA,gB,gC]); rfl) (by exact fun _ _ _ h => h) (by rfl) (by intro w'; go_simp; try with_reducible rfl) ?_
      try simp only [Act.put, pA,pB,pC]
      refine RegP.pure1 (by (simp only [gA,gB,gC]); rfl) (by exact fun _ _ _ h => h) (by rfl) (by intro w'; go_simp; try with_reducible rfl) ?_
      try simp only [Act.put, pA,pB,pC]
      refine RegP.pure1 (by (simp only [gA,gB,gC]); rfl) (by exact fun _ _ _ h => h) (by rfl) (by intro w'; go_simp; try with_reducible rfl) ?_
      try simp only [Act.put, pA,pB,pC]
      refine RegP.pure1 (by (simp only [gA,gB,gC]); rfl) (by exact fun _ _ _ h => h) (by rfl) (by intro w'; go_simp; try with_reducible rfl) ?_
      try simp only [Act.put, pA,pB,pC]
      refine RegP.pure1 (by (simp only [gA,gB,gC]); rfl) (by exact fun _ _ _ h => h) (by rfl) (by intro w'; go_simp; try with_reducible rfl) ?_
      try simp only [Act.put, pA,pB,pC]
      refine RegP.pure1 (by (simp only [gA,gB,gC]); rfl) (by exact fun _ _ _ h => h) (by rfl) (by intro w'; go_simp; try with_reducible rfl) ?_
      try simp only [Act.put, pA,pB,pC]
      refine RegP.pure1 (by (simp only [gA,gB,gC]); rfl) (by exact fun _ _ _ h => h) (by rfl) (by intro w'; go_simp; try with_reducible rfl) ?_
      try simp only [Act.put, pA,pB,pC]
      refine RegP.pure1 (by (simp only [gA,gB,gC]); rfl) (by exact fun _ _ _ h => h) (by rfl) (by intro w'; go_simp; try with_reducible rfl) ?_
      try simp only [Act.put, pA,pB,pC]
      refine RegP.pure1 (by (simp only [gA,gB,gC]); rfl) (by exact fun _ _ _ h => h) (by rfl) (by intro w'; go_simp; try with_reducible rfl) ?_
      try simp only [Act.put, pA,pB,pC]
      refine RegP.pure1 (by (simp only [gA,gB,gC]); rfl) (by exact fun _ _ _ h => h) (by rfl) (by intro w'; go_simp; try with_reducible rfl) ?_
      try simp only [Act.put, pA,pB,pC]
      refine RegP.pure1 (by (simp only [gA,gB,gC]); rfl) (by exact fun _ _ _ h => h) (by rfl) (by intro w'; go_simp; try with_reducible rfl) ?_
      try simp only [Act.put, pA,pB,pC]
      refine RegP.pure1 (by (simp only [gA,gB,gC]); rfl) (by exact fun _ _ _ h => h) (by rfl) (by intro w'; go_simp; try with_reducible rfl) ?_
      try simp only [Act.put, pA,pB,pC]
      refine RegP.pure1 (by (simp only [gA,gB,gC]); rfl) (by exact fun _ _ _ h => h) (by rfl) (by intro w'; go_simp; try with_reducible rfl) ?_
      try simp only [Act.put, pA,pB,pC]
      refine RegP.held1 (by (simp only [gA,gB,gC]); rfl) (by exact fun _ _ _ h => h) (by rfl) (by intro w' hS_; (try dsimp only at hS_); go_split_ands; go_simp; try with_reducible rfl) ?_
      try simp only [Act.put, pA,pB,pC]
      refine RegP.held1 (by (simp only [gA,gB,gC]); rfl) (by exact fun _ _ _ h => h) (by rfl) (by intro w' hS_; (try dsimp only at hS_); go_split_ands; go_simp; try with_reducible rfl) ?_
      try simp only [Act.put, pA,pB,pC]
      refine RegP.ev1 (by (simp only [gA,gB,gC]); rfl) (fun K hK => ?_)
      go_simp
      refine (hT1.out _ (Below.refl _ _).drew).mono ?_
      rintro x w6 ⟨B0, d0, rfl, m0, p0, hb⟩
      have hB6 := Lib.hid (((Below.refl w5.heap.size w5).drew).trans hb)
      have hP0 := Lib.hid p0
      have hM0 := Lib.hid m0
      clear p0 m0 hb
      refine hK.out _ _ ?_ (fun hHeld => ?_)
      · (try dsimp only); exact hSS.out _ hB6.out
      clear hK K
      try simp only [Act.put, pA,pB,pC]
      refine RegP.ev1 (by (simp only [gA,gB,gC]); rfl) (fun K hK => ?_)
      go_simp
      refine (hT2.out _ hB6.out).mono ?_
      rintro x w7 ⟨B2, d2, rfl, m2, p2, hb⟩
      have hB7 := Lib.hid (hB6.out.trans (hb.mono hB6.out.size))
      have hP0' := Lib.hid (Kd.C_below hP0.out hb)
      have hP2 := Lib.hid p2
      have hM2 := Lib.hid m2
      clear p2 m2 hb
      refine hK.out _ _ ?_ (fun hHeld => ?_)
      · (try dsimp only); exact hSS.out _ hB7.out
      clear hK K
      try simp only [Act.put, pA,pB,pC]
      refine RegP.ev1 (by (simp only [gA,gB,gC]); rfl) (fun K hK => ?_)
      go_simp
      refine (same_D m d B0 A3 B2 A1 d0 c3 d2 c1 w7 hM0.out hP0'.out l3 (hR3.out _ hB7.out) hM2.out hP2.out l1 (hR1.out _ hB7.out)).mono ?_
      rintro x w8 ⟨rfl, hb⟩
      have hB8 := Lib.hid (hB7.out.trans (hb.mono hB7.out.size))
      clear hb
      refine hK.out _ _ ?_ (fun hHeld => ?_)
      · (try dsimp only); exact hSS.out _ hB8.out
      clear hK K
      try simp only [Act.put, pA,pB,pC]
      refine RegP.pure1 (by (simp only [gA,gB,gC]); rfl) (by exact fun _ _ _ h => h) (by rfl) (by intro w'; go_simp; try with_reducible rfl) ?_
      try simp only [Act.put, pA,pB,pC]
      refine RegP.pure1 (by (simp only [gA,gB,gC]); rfl) (by exact fun _ _ _ h => h) (by rfl) (by intro w'; go_simp; try with_reducible rfl) ?_
      try simp only [Act.put, pA,pB,pC]
      refine RegP.ev1 (by (simp only [gA,gB,gC]); rfl) (fun K hK => ?_)
      go_simp
      refine (hAw.out _).mono ?_
      rintro x w9 ⟨rfl, hb⟩
      have hB9 := Lib.hid (hB8.out.trans (hb.mono hB8.out.size))
      clear hb
      refine hK.out _ _ ?_ (fun hHeld => ?_)
      · (try dsimp only); exact hSS.out _ hB9.out
      clear hK K
      try simp only [Act.put, pA,pB,pC]
      refine RegP.pure1 (by (simp only [gA,gB,gC]); rfl) (by exact fun _ _ _ h => h) (by rfl) (by intro w'; go_simp; try with_reducible rfl) ?_
      try simp only [Act.put, pA,pB,pC]
      refine RegP.pure1 (by (simp only [gA,gB,gC]); rfl) (by exact fun _ _ _ h => h) (by rfl) (by intro w'; go_simp; try with_reducible rfl) ?_
      try simp only [Act.put, pA,pB,pC]
      refine RegP.done1 ?_
      clear hHeld
      try dsimp only
      go_wp2_with fail
      go_ret
      exact ⟨rfl, hB1.out.trans ((hB15.out.trans (hB9.out.mono hB15.out.size)).mono hB1.out.size)⟩
  · have c0_ : (c != 0) = true := by simp [hc]
    have c1_ : (c == 0) = false := by simp [hc]
    have c2_ : decide (c = 0) = false := by simp [hc]
    clear hok
    go_wp2_with fail
    refine (hAw.out _).mono ?_
    rintro x w2 ⟨rfl, hb⟩
    have hB2 := Lib.hid (hBa.out.trans (hb.mono hBa.out.size))
    clear hb
    go_wp2_with fail
    go_ret
    exact ⟨rfl, hB1.out.trans (hB2.out.mono hB1.out.size)⟩
end Go.Proofs.YtbjekebkgidhaaaGreatDoor.Mf
end
section
namespace Go.Proofs.YtbjekebkgidhaaaGreatDoor.printAgain
open Go.ChangeShapes Go.WideShapes Go.ChangeAt Go.RowKit
open Go.ChangeMaps (open_string shut_string)
set_option linter.unusedVariables false
theorem own : ownKnob Tryz.prog.godebug = none := by kernel_rfl
set_option maxRecDepth 100000 in
theorem lifted (os : Os) (started : os.Started) (H : Type) (enc : TypeId × Value → H) :
    ReturnsInHanded {} Tryz.checked os 4 .any (fun w args => (Rows.printAgainSpec.pre enc Tryz.prog Tryz.f4 Rows.printAgainRow.domain false w args ∧ laidMetH Tryz.prog Rows.printAgainRow.laid w) ∧ sizedMet enc Tryz.prog Tryz.f4 (OpenSpec.ofChange Rows.printAgainSpec) false w args) (Rows.printAgainSpec.post enc Tryz.prog Tryz.f4 false true false false) := by
  refine handed_and_shaped (enc := enc) (C := Tryz.checked) (X := fun w _ => laidMetH Tryz.prog Rows.printAgainRow.laid w) (fun _ _ _ hh h => h.of_heap hh) own started (by kernel_rfl) Tryz.func4
    (ChangeSpec.witness_shaped (enc := enc) (C := Tryz.checked) (os := os) (X := fun w _ => laidMetH Tryz.prog Rows.printAgainRow.laid w) false (World.laidAll Tryz.prog os Rows.printAgainRow.laid) #[.string ByteArray.empty] 8 (World.laidAll_os _ _ _)
      (World.shaped_of_ZipB (by kernel_rfl) (by kernel_rfl)) (by kernel_rfl) (by kernel_rfl) (by kernel_rfl)
      (by rw [MakeChecks.laidMetH_plain _ _ _ (by kernel_rfl)]; exact laidMet_laidAll _ (by kernel_rfl) (by kernel_rfl))) ?_
  intro W base args ds gs before hval0 hW hcnd hsz0 hL hsh
  have hsz : (DataW.weightsEach Tryz.prog (Tryz.f4.params.toList ++ Rows.printAgainSpec.plain.varTypes Tryz.prog) (ds ++ gs)).all (· ≤ reachBytes) = true := hsz0
  have hval : ∀ (j : Nat) t v, Tryz.f4.params[j]? = some t → args[j]? = some v → Value.okWide Tryz.prog W .any base t v := hval0
  have hW' := hW
  obtain ⟨p, q, hA0, hV, rfl, hfz, hnd⟩ := hW
  have hA : DataW.TrodAll enc Tryz.prog W 0 (fun _ => true) true Tryz.f4.params.toList args.toList ds p := hA0
  rw [Tryz.params4] at hA hval hsz
  obtain ⟨v0, vs0, d0, ds0, p0, q0, hargs, rfl, rfl, h0, r0⟩ := trodAll_cons hA
  obtain ⟨rfl, rfl, rfl⟩ := trodAll_nil r0
  obtain rfl : args = #[v0] := by cases args; simp_all
  obtain ⟨rfl, rfl⟩ := trodVars_none hV
  obtain ⟨a0, rfl, rfl, rfl, y0⟩ := open_string Tryz.underlying9 (hval 0 9 v0 rfl rfl) h0
  have w0 : a0.size ≤ 140737488351232 := by
    have z := sized_string hsz (j := 0) (t := 9) rfl rfl
    rw [Array.length_toList] at z
    exact z
  clear hA0 hval0 hsz0 hsz
  refine (Mf.again_walk a0 W (MaxCell.of_shaped hsh) (Tab.of_laid hL) w0).mono fun e W' ⟨he, bel⟩ => ?_
  subst he
  exact ⟨_, rfl, _, _, _, [], _, [], hW', trodAll_mk1 (shut_bool Tryz.underlying4 _), (trodAll_cons_mk (shut_string Tryz.underlying9 y0) trodAll_mk0), rfl, bel.frame _, fun h => by cases h⟩
theorem over : Rows.printAgainRow.holds Tryz.pinned (OpenSpec.ofChange Rows.printAgainSpec) :=
  OpenClaim.holds_of_wide 4 Tryz.f4 rfl rfl rfl rfl rfl rfl rfl ⟨rfl, rfl, rfl, rfl, rfl⟩ rfl rfl rfl rfl rfl (by kernel_rfl) Tryz.func4 (by kernel_rfl)
    (of_decide_eq_true (by kernel_rfl)) (by unfold Func.isWrapper; first | (rw [if_pos (by decide +kernel)]; kernel_rfl) | (rw [if_neg (by decide +kernel)]; exact ⟨rfl, rfl⟩))
    (fun os started H enc _ => lifted os started H enc)
theorem card : Rows.PrintAgainCardSaid :=
  Claim7.holds_tied_plain_at .later [] [.data, .data, .data, .data, .pinned] true (true, "3ee92b0241d4e6cc4ec6d7aa1c3f58a9ba40e9d2fdce97da6f0c63ea24f241e0") true over (fun _ h => by cases h) (by kernel_rfl) (fun _ h => by cases h) printAgain_row_tie rfl ⟨rfl, rfl⟩ (by kernel_rfl) rfl
    (fun f fn hf hfn => by
      obtain rfl : f = 4 := Option.some.inj ((show Tryz.prog.funcNamed "bellows/bellowslaw12.PrintAgain" = some 4 by kernel_rfl).symm.trans hf) |>.symm
      obtain rfl : fn = Tryz.f4 := (Option.some.inj (Tryz.func4.symm.trans hfn)).symm
      have hall : (Tryz.f4.params.toList.all fun u => !Tryz.prog.wantsStandIn u) = true := by kernel_rfl
      exact ⟨by kernel_rfl, fun j t ht => by
        have hm : t ∈ Tryz.f4.params.toList := by simpa using Array.mem_of_getElem? ht
        exact (show Tryz.prog.wantsStandIn t = false by simpa using List.all_eq_true.1 hall t hm)⟩)
    (by kernel_rfl)
#print axioms card
end Go.Proofs.YtbjekebkgidhaaaGreatDoor.printAgain
namespace Go.Proofs.YtbjekebkgidhaaaGreatDoor
theorem printAgain_card : Rows.PrintAgainCardSaid := printAgain.card
end Go.Proofs.YtbjekebkgidhaaaGreatDoor
end
