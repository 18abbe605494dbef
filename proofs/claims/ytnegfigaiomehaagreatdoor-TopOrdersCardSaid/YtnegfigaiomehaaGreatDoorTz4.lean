/- Laid together by wip/tools/shake.py from texts of this claim: TpOrder, TpComm, TpReach, Iter, TpKeys, TpReached, PCmpIsNaNString0, PCmpLessString0, PSlicesIsNaNString0, PSlicesBinarySearchStringString0, TpSearch, TpSort, TpUsed, TpEval, TpTurn, TpAbove, TpPred, TpEdgeOf, TpDel, TpPair, TpIdxF, TpCatF, TpDelP, TpDelF, TpSources, TpPlan, TpTargets, TpOwn, TpWrong, TpThere, TpEvF, TpNewP. -/
import Derived.Test.YtnegfigaiomehaaGreatDoorTz3
import Derived.WalkMore
import Derived.Conc.LoneSelect
import Derived.Tactics
import Derived.Shelf.SlIter.Nil
import Derived.Shelf.SlIterI.Nil
import Derived.Shelf.SortM.Plain
import Derived.Shelf.SortM.SortNone
import Derived.Shelf.SlGeneric
import Derived.Ground.GgzProg
import Derived.Ground.SlgmProg
import Derived.Test.YtnegfigaiomehaaGreatDoorProg
import Derived.Sort.OwnSorted
import Derived.Lib.SliceRun
set_option linter.unusedVariables false
set_option linter.unusedSimpArgs false
section
namespace Go.Proofs.YtnegfigaiomehaaGreatDoor.Tp
open Go.RowKit Go.Lib Go.Shelf Go.Maps Go.Proofs.YtnegfigaiomehaaGreatDoorW.PrintWords Go.Proofs.YtnegfigaiomehaaGreatDoorW.PrintLast Go.Proofs.YtnegfigaiomehaaGreatDoorW.PrintMore Go.Proofs.YtnegfigaiomehaaGreatDoor.U Go.Proofs.YtnegfigaiomehaaGreatDoor.P Go.Proofs.YtnegfigaiomehaaGreatDoor.MapV Go.Proofs.YtnegfigaiomehaaGreatDoor.Ck
open Go.Proofs.YtnegfigaiomehaaGreatDoor.MapI (MapInt OwnsI updI noneI)
theorem ahead_at {w : World} {A : Option Addr} {es : List EdgeL} (h : Kd.C KI w A es.length ((List.range es.length).map fun n => intsN (aheadL es n))) (n : Nat) (hn : n < es.length) : ∃ ad Ai ci, A = some ad ∧ w.cell? (ad.add n) = some (.slice Ai (aheadL es n).length ci) ∧ (aheadL es n).length ≤ ci ∧ Kd.C (Kd.int .i64) w Ai (aheadL es n).length (intsN (aheadL es n)) := by
 obtain ⟨ad, c, e, _, hK, hc0⟩ := Kd.C_get (d := KI) (n := es.length) h [] (n : Int) (by omega) (by omega)
 have hx : ((List.range es.length).map fun n => intsN (aheadL es n)).getD (n : Int).toNat [] = intsN (aheadL es n) := by
  rw [Int.toNat_natCast, List.getD_eq_getElem?_getD, List.getElem?_map, List.getElem?_range hn]; rfl
 rw [hx] at hK
 obtain ⟨Ai, ci, rfl, hl, hC⟩ := hK
 rw [intsN_len] at hl hC hc0
 have h1 := hc0 0 _ rfl
 rw [show (n : Int).toNat * KI.sz + 0 = n by show (n : Int).toNat * 1 + 0 = n; omega] at h1
 exact ⟨ad, Ai, ci, e, h1, hl, hC⟩
def metV (out : List Nat) : MapInt := fun k => if k ∈ intsN out then some (.bool true) else none
theorem mem_intsN {l : List Nat} {n : Nat} : (n : Int) ∈ intsN l ↔ n ∈ l := by
 unfold intsN
 rw [List.mem_map]
 constructor
 ·rintro ⟨a, ha, he⟩
  have : a = n := by omega
  exact this ▸ ha
 ·intro h; exact ⟨n, h, rfl⟩
theorem metV_nil : metV [] = noneI := by funext k; simp [metV, intsN, noneI]
theorem metV_add (out : List Nat) (n : Nat) : updI (metV out) (n : Int) (.bool true) = metV (out ++ [n]) := by
 funext k
 unfold updI metV
 have : intsN (out ++ [n]) = intsN out ++ [(n : Int)] := by simp [intsN]
 rw [this]
 by_cases hk : k = (n : Int)
 ·subst hk; simp
 ·by_cases hm : k ∈ intsN out <;> simp [hk, hm]
theorem metV_at (out : List Nat) (n : Nat) : (metV out (n : Int)).getD (.bool false) = .bool (decide (n ∈ out)) := by
 unfold metV
 by_cases h : n ∈ out
 ·rw [if_pos (mem_intsN.2 h)]; simp [h]
 ·rw [if_neg (fun e => h (mem_intsN.1 e))]; simp [h]
theorem zeroBool (w : World) : (zeroValue 4).run Tryz.prog w = .ok (.bool false) w := by first | exact Tryz.zeroValue4 w | exact Tryz.zeroValue4
theorem int_wf {n : Nat} (h : n ≤ 1000000000) : (Lit.int .i64 (n : Int)).wf = true := by
 simp [Lit.wf, IntKind.min, IntKind.max, IntKind.bits, IntKind.signed] <;> omega
theorem madeL_lt_ahead {es : List EdgeL} {n k : Nat} (h : k ∈ aheadL es n) : k < es.length := (mem_aheadL.1 h).lt
structure Part (es : List EdgeL) (some out : List Nat) : Prop where
 nd : out.Nodup
 sub : ∀ n ∈ out, n ∈ some
 topo : ∀ (i : Nat) (h : i < out.length) (k : Nat), Ah es out[i] k → k ∈ out.take i
theorem Part.nil (es : List EdgeL) (some : List Nat) : Part es some [] := ⟨List.nodup_nil, by simp, fun i h => absurd h (Nat.not_lt_zero _)⟩
theorem Part.add {es : List EdgeL} {some out : List Nat} (h : Part es some out) {n : Nat} (hn : n ∈ some) (hno : n ∉ out) (ha : ∀ k ∈ aheadL es n, k ∈ out) : Part es some (out ++ [n]) := by
 refine ⟨?_, ?_, ?_⟩
 ·rw [List.nodup_append]
  exact ⟨h.nd, by simp, fun a ha b hb => by rintro rfl; rw [List.mem_singleton] at hb; exact hno (hb ▸ ha)⟩
 ·intro m hm
  rcases List.mem_append.1 hm with hm | hm
  ·exact h.sub m hm
  ·rw [List.mem_singleton.1 hm]; exact hn
 ·intro i hi k hk
  rw [List.length_append, List.length_singleton] at hi
  by_cases he : i < out.length
  ·rw [List.getElem_append_left he] at hk
   rw [List.take_append_of_le_length (by omega)]
   exact h.topo i he k hk
  ·have : i = out.length := by omega
   subst this
   rw [List.getElem_append_right (Nat.le_refl _)] at hk
   simp only [Nat.sub_self, List.getElem_cons_zero] at hk
   rw [List.take_append_of_le_length (Nat.le_refl _), List.take_length]
   exact ha k (mem_aheadL.2 hk)
theorem Part.lt {es : List EdgeL} {some out : List Nat} (h : Part es some out) (hs : ∀ n ∈ some, n < es.length) {n : Nat} (hn : n ∈ some) (hno : n ∉ out) : out.length < es.length := by
 have h1 : (n :: out).Nodup := List.nodup_cons.2 ⟨hno, h.nd⟩
 have h2 : (n :: out) ⊆ List.range es.length := by
  intro x hx
  rcases List.mem_cons.1 hx with rfl | hx
  ·exact List.mem_range.2 (hs _ hn)
  ·exact List.mem_range.2 (hs _ (h.sub _ hx))
 have h3 := List.Nodup.length_le_of_subset h1 h2
 rw [List.length_cons, List.length_range] at h3
 omega
theorem Part.fin {es : List EdgeL} {some out : List Nat} (h : Part es some out) (hx : ∀ j (hj : j < some.length), some[j] ∈ out ∨ ∃ k ∈ aheadL es some[j], k ∉ out) : OrderOf es some out := by
 refine ⟨h.nd, h.sub, h.topo, fun n hn hno => ?_⟩
 obtain ⟨j, hj, rfl⟩ := List.mem_iff_getElem.1 hn
 rcases hx j hj with h1 | ⟨k, h1, h2⟩
 ·exact absurd h1 hno
 ·exact ⟨k, mem_aheadL.1 h1, h2⟩
set_option maxRecDepth 100000 in
set_option maxHeartbeats 8000000 in
theorem order_any (p : Nat) (es : List EdgeL) (defs : List Txt) (l : List Nat) (v : Value) (w : World) (hG : GraphAt w p es defs) (hE : es.length ≤ 1000) (hv : Ints w v l) (hn : l.length ≤ 1000) (hlt : ∀ n ∈ l, n < es.length) (hah : ∀ n, (aheadL es n).length ≤ 1000) :
  Calls Tryz.prog 44 #[ptr p, v] w fun e w' => ∃ v' out, e = .returned v' ∧ OrderOf es l out ∧ Kd.R (Kd.int .i64) 3 w' w.heap.size (fun _ => True) v' (intsN out) ∧ Below w.heap.size w w' := by
 obtain ⟨A, c, rfl, hl, hC⟩ := hv
 obtain ⟨N, hN⟩ : ∃ N, l.length = N := ⟨_, rfl⟩
 have hNH := Lib.hid hN
 have hGH := Lib.hid hG
 have hCH := Lib.hid hC
 have hltH := Lib.hid hlt
 have hahH := Lib.hid hah
 rw [hN] at hn ⊢
 clear hN hG hC hlt hl hah
 unfold ptr
 go_enter Tryz.func44, Tryz.ntmps44
 have hmm := @run_makeMap Tryz.prog
 go_wp2_with fail
 go_step3
 go_wp2_with fail
 go_step3
 go_wp2_with fail
 clear hmm
 go_loopg [6] es.length (fun gk s6 wr => ∃ (out : List Nat), Hid (Part es l out) ∧ out.length + gk = es.length ∧ Hid (Kd.R (Kd.int .i64) 3 wr (w.heap.size + 1) (fun _ => True) s6 (intsN out)) ∧ Hid (OwnsI wr w.heap.size out.length (metV out)) ∧ Hid (Below w.heap.size w wr))
 case atStart => exact ⟨[], Lib.hid (Part.nil _ _), by simp, Lib.hid (Kd.R_nil _ _ _ _ _), Lib.hid (by rw [metV_nil]; exact OwnsI.made w), Lib.hid ((Below.refl _ _).alloc (Nat.le_refl _) _)⟩
 case round =>
  obtain ⟨out, hP, hok, hR, hM, hB⟩ := hrel
  rename (∀ (a' : Act) (w' : World), Handed _ _ a' w' → _) => hKo
  obtain ⟨go, rfl⟩ : ∃ g, g = gk := ⟨_, rfl⟩
  have hB0 := Lib.hid (Below.refl wr.heap.size wr)
  go_wp2_with fail
  go_step3
  go_wp2_with fail
  go_step3
  go_wp2_with fail
  go_loopg [6, 14] N (fun gj s6 s14 wj => ∃ i : Nat, s14 = .int .i64 (i : Int) ∧ i + gj = N ∧ Hid (∀ j (hj : j < l.length), j < i → l[j] ∈ out ∨ ∃ k ∈ aheadL es l[j], k ∉ out) ∧ u6 = s6 ∧ wr = wj)
  case atStart => exact ⟨0, rfl, Nat.zero_add _, Lib.hid (fun j _ h => absurd h (Nat.not_lt_zero _)), rfl, rfl⟩
  case round =>
   obtain ⟨i, rfl, hij, hX, rfl, rfl⟩ := hrel
   obtain ⟨gj, rfl⟩ : ∃ g, g = gk := ⟨_, rfl⟩
   cases gj with
   | zero =>
    obtain rfl : i = N := by omega
    have hlt : decide ((i : Int) < (i : Int)) = false := by simp
    go_wp2_with fail
    go_simp
    go_ret
    exact ⟨_, out, rfl, hP.out.fin (fun j hj => hX.out j hj (by rw [← hNH.out]; exact hj)), Kd.R_lower hR.out (by omega), hB.out⟩
   | succ gj =>
    have hi : i < l.length := by rw [hNH.out]; omega
    have hlt : decide ((i : Int) < (N : Int)) = true := by rw [decide_eq_true_iff]; omega
    have i1 : (0 : Int) ≤ (i : Int) := by omega
    have i2 : (i : Int) < (N : Int) := by omega
    obtain ⟨ad, hA, k0⟩ := int_at rfl hCH.out i hi
    subst hA
    replace k0 := below_cell hB.out k0
    have hnl := hltH.out l[i] (List.getElem_mem hi)
    have hin : Hid (l[i] ∈ l) := Lib.hid (List.getElem_mem hi)
    have hXn : Hid ((l[i] ∈ out ∨ ∃ k ∈ aheadL es l[i], k ∉ out) → ∀ j (hj : j < l.length), j < i + 1 → l[j] ∈ out ∨ ∃ k ∈ aheadL es l[j], k ∉ out) := Lib.hid (fun h j hj hji => by
     rcases Nat.lt_or_ge j i with h1 | h1
     ·exact hX.out j hj h1
     ·have : j = i := by omega
      subst this; exact h)
    generalize l[i] = n at *
    have hlk := hM.out.look (t := 121) (e := 4) Tryz.underlying121 (zeroBool wr) (n : Int) (int_wf (by omega))
    rw [metV_at] at hlk
    by_cases hno : n ∈ out
    ·rw [decide_eq_true hno] at hlk
     go_wp2_with fail
     go_roundg gj
     case measure => omega
     case rel => exact ⟨i + 1, by first | rfl | simp, by omega, Lib.hid (hXn.out (.inl hno)), rfl, rfl⟩
    ·rw [decide_eq_false hno] at hlk
     have hnoH := Lib.hid hno
     obtain ⟨A0, c0, A1, c1, mb, A3, c3, hb, _, _, _, ha1, ha2⟩ := (hGH.out.below hB.out).blk
     have x3 := (cell_of_heap (j := 3) hb).trans rfl
     obtain ⟨ad3, Ai, ci, rfl, ka, hci, hCi⟩ := ahead_at ha2 n hnl
     have hCiH := Lib.hid hCi
     have n0 : (0 : Int) ≤ (n : Int) := by omega
     have n1 : (n : Int) < (es.length : Int) := by omega
     have hKl := hahH.out n
     obtain ⟨K, hK⟩ : ∃ K, (aheadL es n).length = K := ⟨_, rfl⟩
     have hKH := Lib.hid hK
     rw [hK] at ka hci hKl
     clear hK hb ha2 hCi hno
     go_wp2_with fail
     clear hlk
     go_loopg [29] K (fun gi s29 wi => ∃ j : Nat, s29 = .int .i64 (j : Int) ∧ j + gi = K ∧ Hid (∀ q (hq : q < (aheadL es n).length), q < j → (aheadL es n)[q] ∈ out) ∧ wr = wi)
     case atStart => exact ⟨0, rfl, Nat.zero_add _, Lib.hid (fun j _ h => absurd h (Nat.not_lt_zero _)), rfl⟩
     case round =>
      obtain ⟨j, rfl, hjk, hY, rfl⟩ := hrel
      cases gk with
      | zero =>
       obtain rfl : j = K := by omega
       have hlt2 : decide ((j : Int) < (j : Int)) = false := by simp
       have hall : Hid (∀ k ∈ aheadL es n, k ∈ out) := Lib.hid (fun k hk => by
        obtain ⟨q, hq, rfl⟩ := List.mem_iff_getElem.1 hk
        exact hY.out q hq (by rw [← hKH.out]; exact hq))
       have hlo := hP.out.lt hltH.out hin.out hnoH.out
       obtain ⟨y1, r1, m1, g1⟩ := hM.out.store (t := 121) (e := 4) Tryz.underlying121 (by unfold maxLen; omega) (n : Int) (.bool true) (int_wf (by omega))
       rw [metV_add] at m1
       have hR1 := Lib.hid (R_old (w1 := y1) hR.out (fun k hk hlt => g1.block k hlt (by simp; omega)))
       have hB1 := Lib.hid (hB.out.grown g1 hB.out.size (fun k hk => by injection hk with hk; omega))
       have hM1 := Lib.hid m1
       have hsz := m1.lt
       clear m1 g1
       have hbd : ((intsN out).length + 1) * 8 ≤ 140737488355328 := by rw [intsN_len]; omega
       go_wp2_with (at_builtin; go_loud (refine Kd.R_append (Kd.int .i64) (w0 := y1) (w.heap.size + 1) rfl _ _ 57 3 (.int .i64 0) 8 rfl Tryz.underlying57 infoInt rfl (by decide) (by decide) u6 (intsN out) (n : Int) [.int .i64 (n : Int)] (fun _ => True) (fun _ => False) rfl rfl rfl (fun _ h => h.elim) (fun _ _ => trivial) hR1.out (Below.refl _ _) (by omega) hbd ?_))
       intro v1 w1 hR2 hb1 hg1 _
       have hown : ∀ k, u6.ownBlock = some k → w.heap.size + 1 ≤ k := fun k hk => ((Kd.R_bound hR1.out).1 k hk).2.1
       have hR3 : Hid (Kd.R (Kd.int .i64) 3 w1 (w.heap.size + 1) (fun _ => True) v1 (intsN (out ++ [n]))) := by
        show Kd.R _ _ _ _ _ _ _
        rw [intsN, List.map_append]
        exact hR2
       have hM2 : Hid (OwnsI w1 w.heap.size (out ++ [n]).length (metV (out ++ [n]))) := by
        rw [List.length_append]
        exact Lib.hid (hM1.out.same (hg1.block _ hsz (fun e => by have := hown _ e.symm; omega)))
       have hB2 := Lib.hid (hB1.out.grown hg1 hB1.out.size (fun k hk => by have := hown k hk; omega))
       have hP2 := Lib.hid (hP.out.add hin.out hnoH.out hall.out)
       clear hR2 hb1 hg1 hown
       go_wp2_with fail
       go_simp
       refine hKo _ _ ?_
       go_roundg (go - 1)
       case measure => omega
       case rel => exact ⟨out ++ [n], hP2, by rw [List.length_append, List.length_singleton]; omega, hR3, hM2, hB2⟩
      | succ gk =>
       have hj : j < (aheadL es n).length := by rw [hKH.out]; omega
       have hlt2 : decide ((j : Int) < (K : Int)) = true := by rw [decide_eq_true_iff]; omega
       have j1 : (0 : Int) ≤ (j : Int) := by omega
       have j2 : (j : Int) < (K : Int) := by omega
       have hCi0 := hCiH.out
       obtain ⟨bd, rfl, b0⟩ := int_at hKH.out (by rw [← hKH.out]; exact hCi0) j hj
       have hml := madeL_lt_ahead (List.getElem_mem hj)
       have hYn : Hid ((aheadL es n)[j] ∈ out → ∀ q (hq : q < (aheadL es n).length), q < j + 1 → (aheadL es n)[q] ∈ out) := Lib.hid (fun h q hq hqj => by
        rcases Nat.lt_or_ge q j with h1 | h1
        ·exact hY.out q hq h1
        ·have : q = j := by omega
         subst this; exact h)
       have hmem : Hid ((aheadL es n)[j] ∈ aheadL es n) := Lib.hid (List.getElem_mem hj)
       generalize (aheadL es n)[j] = k at *
       have hlk := hM.out.look (t := 121) (e := 4) Tryz.underlying121 (zeroBool wr) (k : Int) (int_wf (by omega))
       rw [metV_at] at hlk
       clear hCi0
       by_cases hkno : k ∈ out
       ·rw [decide_eq_true hkno] at hlk
        go_wp2_with fail
        go_roundg gk
        case measure => omega
        case rel => exact ⟨j + 1, by first | rfl | simp, by omega, Lib.hid (hYn.out hkno), rfl⟩
       ·rw [decide_eq_false hkno] at hlk
        go_wp2_with fail
        go_roundg gj
        case measure => omega
        case rel => exact ⟨i + 1, by first | rfl | simp, by omega, Lib.hid (hXn.out (.inr ⟨k, hmem.out, hkno⟩)), rfl, rfl⟩
end Go.Proofs.YtnegfigaiomehaaGreatDoor.Tp
end
section
namespace Go.Proofs.YtnegfigaiomehaaGreatDoor.Comm
open Go Go.Conc Go.RowKit
def OpsS (P : Program) (ops : Array Oper) (Q : Exit → Act → World → Prop) (l : List Nat) (a : Act) (w : World) : Prop := ∀ (b : Frame) (k : List Item) (cs : List Frame),
 ∃ e a' w', Q e a' w' ∧ Arrives P (lone (b.at a (.inRegion ops l :: k)) cs w) b k cs e a' w'
section
variable {P : Program} {ops : Array Oper} {Q : Exit → Act → World → Prop} {a : Act} {w w' : World} {i : Nat} {rest : List Nat} {o : Oper} {v : Value}
theorem ops_of {l : List Nat} (h : wpOps P ops Q l a w) : OpsS P ops Q l a w := wp_ops l a w h
theorem region_of {id : Nat} (h : OpsS P ops Q (List.range ops.size) a w) : (Code.region id ops false).wp P Q a w := fun b k cs =>
 let ⟨e, a', w', q, r⟩ := h b k cs
 ⟨e, a', w', q, .of_steps (.one step_region) r⟩
theorem fin_at (b : Frame) (k : List Item) (ho : ops[i]? = some o) (v : Value) : (b.at a (.inRegion ops (i :: rest) :: k)).finish v = b.at (a.put o.dst v) (.inRegion ops rest :: k) := by
 rw [Frame.finish_at, ho]; rfl
theorem ops_value (ho : ops[i]? = some o) (hw : Region.wanted o (yielded ops a.tmps) = true) (hr : (execOp a.eval o).run P w = .ok (.value v) w') (h : OpsS P ops Q rest (a.put o.dst v) w') : OpsS P ops Q (i :: rest) a w := by
 intro b k cs
 obtain ⟨e, a', w'', hq, harr⟩ := h b k cs
 refine ⟨e, a', w'', hq, .of_steps (.one (step_lone_go ?_)) harr⟩
 rw [stepG_op ho hw, ← fin_at b k ho]
 simp [stepG.apply, hr]
theorem comm_up {b : Frame} {k : List Item} {cs : List Frame} {cases : Array CommCase} {blocking : Bool} {shape : CommShape} (ho : ops[i]? = some o) (hw : Region.wanted o (yielded ops a.tmps) = true) (hr : (execOp a.eval o).run P w = .ok (.comm cases blocking shape) w) :
  ∃ es, stepG P true (G (b.at a (.inRegion ops (i :: rest) :: k)) cs) w = .comm (G (b.at a (.inRegion ops (i :: rest) :: k)) cs) cases blocking shape w es := by
 have hg := stepG_op (P := P) (b := b) (k := k) (cs := cs) (w := w) (rest := rest) ho hw
 have hG : G (b.at a (.inRegion ops (i :: rest) :: k)) cs = { frame := b.at a (.inRegion ops (i :: rest) :: k), callers := cs, status := .running, dying := none } := rfl
 rw [hG, hg]
 unfold stepG.apply
 simp only [Sem.runT_eq, hr, if_true]
 exact ⟨_, rfl⟩
theorem ops_send {x y : Operand} {c cap s r : Nat} {buf : Array Value} {tm : Bool} (ho : ops[i]? = some o) (hw : Region.wanted o (yielded ops a.tmps) = true) (hop : o.op = .send x y) (hx : a.eval x = .chan (some c))
  (hc : w.heap[c]? = some (.chan cap buf false s r tm)) (hroom : buf.size < cap) (h : OpsS P ops Q rest (a.put o.dst undef) (w.setChan c cap (buf.push (a.eval y)) false (s + 1) r tm)) : OpsS P ops Q (i :: rest) a w := by
 intro b k cs
 obtain ⟨e, a', w'', hq, harr⟩ := h b k cs
 refine ⟨e, a', w'', hq, .of_steps (.one ?_) harr⟩
 have hr : (execOp a.eval o).run P w = .ok (.comm #[scase c (a.eval y) (.tuple #[])] true .send) w := by
  unfold execOp
  simp [hop, scase, hx]
 obtain ⟨es, hcm⟩ := comm_up (b := b) (k := k) (cs := cs) (rest := rest) ho hw hr
 have hst := step_lone_send_room (v := a.eval y) (z' := .tuple #[]) hcm hc hroom
 rw [← lone_eq_solo, ← lone_eq_solo, fin_at b k ho] at hst
 exact hst
theorem select_run {sc : SelectCase} {c : Nat} {z : Value} (hop : o.op = .select #[sc] false) (hsc : sc.send = none) (hx : a.eval sc.chan = .chan (some c)) (hz : (zeroValue sc.elem).run P w = .ok z w) :
  (execOp a.eval o).run P w = .ok (.comm #[rcase c z] false .select) w := by
 unfold execOp
 simp [hop, Sem.run_bind, Sem.run_pure, hz, Result.andThen, rcase, hsc, hx]
theorem ops_select_some {z : Value} {sc : SelectCase} {c cap s r : Nat} {buf : Array Value} {tm closed : Bool} (ho : ops[i]? = some o) (hw : Region.wanted o (yielded ops a.tmps) = true) (hop : o.op = .select #[sc] false) (hsc : sc.send = none)
  (hx : a.eval sc.chan = .chan (some c)) (hz : (zeroValue sc.elem).run P w = .ok z w) (hc : w.heap[c]? = some (.chan cap buf closed s r tm)) (hsome : 0 < buf.size)
  (h : OpsS P ops Q rest (a.put o.dst (.tuple #[goInt 0, .bool true, buf.getD 0 undef])) (w.setChan c cap (buf.extract 1 buf.size) closed s (r + 1) tm)) : OpsS P ops Q (i :: rest) a w := by
 intro b k cs
 obtain ⟨e, a', w'', hq, harr⟩ := h b k cs
 refine ⟨e, a', w'', hq, .of_steps (.one ?_) harr⟩
 obtain ⟨es, hcm⟩ := comm_up (b := b) (k := k) (cs := cs) (rest := rest) ho hw (select_run hop hsc hx hz)
 have hst := step_lone_select_recv_buf hcm hc hsome
 rw [← lone_eq_solo, ← lone_eq_solo, fin_at b k ho] at hst
 exact hst
theorem ops_select_none {z : Value} {sc : SelectCase} {c cap s r : Nat} {tm : Bool} (ho : ops[i]? = some o) (hw : Region.wanted o (yielded ops a.tmps) = true) (hop : o.op = .select #[sc] false) (hsc : sc.send = none)
  (hx : a.eval sc.chan = .chan (some c)) (hz : (zeroValue sc.elem).run P w = .ok z w) (hc : w.heap[c]? = some (.chan cap #[] false s r tm))
  (h : OpsS P ops Q rest (a.put o.dst (.tuple #[goInt (-1), .bool false, z])) w) : OpsS P ops Q (i :: rest) a w := by
 intro b k cs
 obtain ⟨e, a', w'', hq, harr⟩ := h b k cs
 refine ⟨e, a', w'', hq, .of_steps (.one ?_) harr⟩
 obtain ⟨es, hcm⟩ := comm_up (b := b) (k := k) (cs := cs) (rest := rest) ho hw (select_run hop hsc hx hz)
 have hst := step_lone_select_default hcm hc
 rw [← lone_eq_solo, ← lone_eq_solo, fin_at b k ho] at hst
 exact hst
end
end Go.Proofs.YtnegfigaiomehaaGreatDoor.Comm
end
section
namespace Go.Proofs.YtnegfigaiomehaaGreatDoor.Tp
open Go.RowKit Go.Lib Go.Shelf Go.Maps Go.Proofs.YtnegfigaiomehaaGreatDoorW.PrintWords Go.Proofs.YtnegfigaiomehaaGreatDoorW.PrintLast Go.Proofs.YtnegfigaiomehaaGreatDoorW.PrintMore Go.Proofs.YtnegfigaiomehaaGreatDoor.U Go.Proofs.YtnegfigaiomehaaGreatDoor.P Go.Proofs.YtnegfigaiomehaaGreatDoor.MapV Go.Proofs.YtnegfigaiomehaaGreatDoor.Ck
open Go.Proofs.YtnegfigaiomehaaGreatDoor.MapI (MapInt OwnsI updI noneI)
def newL : List Nat → List Nat → List Nat
 | _, [] => []
 | met, n :: l => if n ∈ met then newL met l else n :: newL (met ++ [n]) l
theorem newL_snoc (n : Nat) : ∀ (l met : List Nat), newL met (l ++ [n]) = newL met l ++ (if n ∈ met ++ newL met l then [] else [n])
 | [], met => by by_cases h : n ∈ met <;> simp [newL, h]
 | m :: l, met => by
  rw [List.cons_append, newL, newL]
  by_cases h : m ∈ met
  ·rw [if_pos h, if_pos h, newL_snoc n l]
  ·rw [if_neg h, if_neg h, newL_snoc n l, List.cons_append]
   simp only [List.append_assoc, List.singleton_append]
theorem mem_newL {x : Nat} : ∀ (l met : List Nat), x ∈ met ++ newL met l ↔ x ∈ met ∨ x ∈ l
 | [], met => by simp [newL]
 | m :: l, met => by
  rw [newL]
  by_cases h : m ∈ met
  ·rw [if_pos h, mem_newL l, List.mem_cons]
   constructor
   ·rintro (h1 | h1)
    ·exact .inl h1
    ·exact .inr (.inr h1)
   ·rintro (h1 | rfl | h1)
    ·exact .inl h1
    ·exact .inl h
    ·exact .inr h1
  ·rw [if_neg h]
   have := mem_newL (x := x) l (met ++ [m])
   rw [List.append_assoc, List.singleton_append] at this
   rw [this]
   simp [or_assoc]
theorem nodup_newL : ∀ (l met : List Nat), met.Nodup → (met ++ newL met l).Nodup
 | [], met, h => by simpa [newL] using h
 | m :: l, met, h => by
  rw [newL]
  by_cases hm : m ∈ met
  ·rw [if_pos hm]; exact nodup_newL l met h
  ·rw [if_neg hm]
   have := nodup_newL l (met ++ [m]) (by
    rw [List.nodup_append]
    exact ⟨h, by simp, fun a ha b hb => by rintro rfl; rw [List.mem_singleton] at hb; exact hm (hb ▸ ha)⟩)
   rw [List.append_assoc, List.singleton_append] at this
   exact this
theorem few_of {l : List Nat} {E : Nat} (h : l.Nodup) (hl : ∀ n ∈ l, n < E) : l.length ≤ E := by
 have := List.Nodup.length_le_of_subset h (fun x hx => List.mem_range.2 (hl x hx))
 rwa [List.length_range] at this
def encN (n : Nat) : Value := .int .i64 (n : Int)
structure Met (w0 w : World) (E : Nat) (met q : List Nat) : Prop where
 map : OwnsI w w0.heap.size met.length (metV met)
 bm : w.heap[w0.heap.size + 1]? = some (.cells #[.map (some w0.heap.size)] 121 (0, 0))
 ch : ∃ s r, w.heap[w0.heap.size + 2]? = some (.chan (E + 1) (q.map encN).toArray false s r false)
 bc : w.heap[w0.heap.size + 3]? = some (.cells #[.chan (some (w0.heap.size + 2))] 129 (0, 0))
 below : Below w0.heap.size w0 w
set_option maxRecDepth 100000 in
set_option maxHeartbeats 8000000 in
theorem meet_any (w0 : World) (E : Nat) (met q l : List Nat) (v : Value) (w : World) (hM : Met w0 w E met q) (hv : Ints w0 v l) (hl : ∀ n ∈ l, n < E) (hm : ∀ n ∈ met, n < E) (hnd : met.Nodup) (hq : q.length ≤ met.length) (hE : E ≤ 1000) (hn : l.length ≤ 1000) :
  Calls Tryz.prog 79 #[v, ptr (w0.heap.size + 1), ptr (w0.heap.size + 3)] w fun e w' => e = .returned (.tuple #[]) ∧ Met w0 w' E (met ++ newL met l) (q ++ newL met l) := by
 obtain ⟨A, c, rfl, _, hC⟩ := hv
 obtain ⟨N, hN⟩ : ∃ N, l.length = N := ⟨_, rfl⟩
 have hNH := Lib.hid hN
 have hCH := Lib.hid hC
 have hlH := Lib.hid hl
 have hmH := Lib.hid hm
 have hndH := Lib.hid hnd
 have hMH := Lib.hid hM
 rw [hN] at hn ⊢
 clear hN hC hl hm hnd hM
 unfold ptr
 obtain ⟨b, hb⟩ : ∃ b, w0.heap.size = b := ⟨_, rfl⟩
 have hbH := Lib.hid hb
 rw [hb]
 clear hb
 go_enter Tryz.func79, Tryz.ntmps79
 go_wp2_with fail
 go_loopg [8] N (fun gk s8 wr => ∃ i : Nat, s8 = .int .i64 (i : Int) ∧ i + gk = N ∧ Hid (Met w0 wr E (met ++ newL met (l.take i)) (q ++ newL met (l.take i))))
 case atStart => exact ⟨0, rfl, Nat.zero_add _, Lib.hid (by simpa [newL] using hMH.out)⟩
 case round =>
  obtain ⟨i, rfl, hik, hI⟩ := hrel
  cases gk with
  | zero =>
   obtain rfl : i = N := by omega
   have hlt : decide ((i : Int) < (i : Int)) = false := by simp
   go_wp2_with fail
   go_end0
   have := hI.out
   rw [List.take_of_length_le (by rw [hNH.out]; exact Nat.le_refl _)] at this
   exact ⟨rfl, this⟩
  | succ gk =>
   have hi : i < l.length := by rw [hNH.out]; omega
   have hlt : decide ((i : Int) < (N : Int)) = true := by rw [decide_eq_true_iff]; omega
   have i1 : (0 : Int) ≤ (i : Int) := by omega
   have i2 : (i : Int) < (N : Int) := by omega
   obtain ⟨ad, hA, k0⟩ := int_at rfl hCH.out i hi
   subst hA
   replace k0 := below_cell hI.out.below k0
   have hnE := hlH.out l[i] (List.getElem_mem hi)
   have htk : Hid (newL met (l.take (i + 1)) = newL met (l.take i) ++ (if l[i] ∈ met ++ newL met (l.take i) then [] else [l[i]])) := Lib.hid (by rw [List.take_succ_eq_append_getElem hi, newL_snoc])
   have hndi := nodup_newL (l.take i) met hndH.out
   have hlti : ∀ n ∈ met ++ newL met (l.take i), n < E := fun n hn => ((mem_newL _ _).1 hn).elim (hmH.out n) (fun h => hlH.out n (List.mem_of_mem_take h))
   have hfew := few_of hndi hlti
   have hqL : (q ++ newL met (l.take i)).length ≤ (met ++ newL met (l.take i)).length := by rw [List.length_append, List.length_append]; omega
   generalize l[i] = n at *
   have m0 := hI.out.bm
   rw [hbH.out] at m0
   have x0 := (cell_of_heap (j := 0) m0).trans rfl
   have hlk := hI.out.map.look (t := 121) (e := 4) Tryz.underlying121 (zeroBool wr) (n : Int) (int_wf (by omega))
   rw [metV_at, hbH.out] at hlk
   by_cases hno : n ∈ met ++ newL met (l.take i)
   ·rw [decide_eq_true hno] at hlk
    have hst : Hid (newL met (l.take (i + 1)) = newL met (l.take i)) := Lib.hid (by rw [htk.out, if_pos hno, List.append_nil])
    clear hlti hndi hno m0
    go_wp2_with fail
    go_roundg gk
    case measure => omega
    case rel => exact ⟨i + 1, by first | rfl | simp, by omega, by rw [hst.out]; exact hI⟩
   ·rw [decide_eq_false hno] at hlk
    have hst : Hid (newL met (l.take (i + 1)) = newL met (l.take i) ++ [n]) := Lib.hid (by rw [htk.out, if_neg hno])
    have hfew2 : (met ++ newL met (l.take i)).length + 1 ≤ E := by
     have := few_of (E := E) (l := n :: (met ++ newL met (l.take i))) (List.nodup_cons.2 ⟨hno, hndi⟩) (fun m hm => by
      rcases List.mem_cons.1 hm with rfl | hm
      ·exact hnE
      ·exact hlti m hm)
     rwa [List.length_cons] at this
    obtain ⟨y1, r1, m1, g1⟩ := hI.out.map.store (t := 121) (e := 4) Tryz.underlying121 (by unfold maxLen; omega) (n : Int) (.bool true) (int_wf (by omega))
    rw [metV_add] at m1
    have hne : ∀ k, k < wr.heap.size → k ≠ w0.heap.size → y1.heap[k]? = wr.heap[k]? := fun k hk he => g1.block k hk (fun e => he (by injection e))
    have yb := (hne _ (lt_blk hI.out.bm) (by omega)).trans hI.out.bm
    have yc := (hne _ (lt_blk hI.out.bc) (by omega)).trans hI.out.bc
    obtain ⟨s, r, hch⟩ := hI.out.ch
    have yh := (hne _ (lt_blk hch) (by omega)).trans hch
    have hBy := hI.out.below.grown g1 hI.out.below.size (fun k hk => by injection hk with hk; omega)
    rw [hbH.out] at r1
    have ycH := Lib.hid yc
    have yhH := Lib.hid yh
    have ybH := Lib.hid yb
    have hByH := Lib.hid hBy
    have m1H := Lib.hid m1
    clear hlti hndi hno m0 yb yc yh hBy m1 hch hne g1
    go_upto_region 5 with (fail)
    have hc3 : y1.cell? ⟨b + 3, 0, none⟩ = some (.chan (some (b + 2))) := by
     have := ycH.out
     rw [hbH.out] at this
     exact (cell_of_heap (j := 0) this).trans rfl
    have hch : y1.heap[b + 2]? = some (.chan (E + 1) ((q ++ newL met (l.take i)).map encN).toArray false s r false) := by
     have := yhH.out
     rw [hbH.out] at this
     exact this
    refine Comm.region_of ?_
    show Comm.OpsS _ _ _ [0, 1, 2] _ _
    refine Comm.ops_value (v := .chan (some (b + 2))) (w' := y1) rfl rfl (by go_simp; try with_reducible rfl) ?_
    refine Comm.ops_value (v := .int .i64 (n : Int)) (w' := y1) rfl rfl (by go_simp; try with_reducible rfl) ?_
    refine Comm.ops_send rfl rfl rfl rfl hch (by simp only [List.size_toArray, List.length_map]; omega) ?_
    refine Comm.ops_of ?_
    have hF : Hid (Met w0 (y1.setChan (b + 2) (E + 1) (((q ++ newL met (l.take i)).map encN).toArray.push (.int .i64 (n : Int))) false (s + 1) r false) E (met ++ newL met (l.take (i + 1))) (q ++ newL met (l.take (i + 1)))) := by
     have hk : ∀ k o, k ≠ b + 2 → y1.heap[k]? = some o → (y1.setChan (b + 2) (E + 1) (((q ++ newL met (l.take i)).map encN).toArray.push (.int .i64 (n : Int))) false (s + 1) r false).heap[k]? = some o := fun k o hk ho => by
      simp only [World.setChan]; rw [Array.getElem?_setIfInBounds_ne (by omega)]; exact ho
     have hb0 := hbH.out
     refine Lib.hid ⟨?_, ?_, ?_, ?_, ?_⟩
     ·have hmm := m1H.out
      rw [hst.out, ← List.append_assoc, List.length_append]
      refine hmm.same ?_
      simp only [World.setChan]; rw [Array.getElem?_setIfInBounds_ne (by omega)]
     ·exact hk _ _ (by omega) ybH.out
     ·refine ⟨s + 1, r, ?_⟩
      rw [hb0, Conc.heap_setChan _ _ _ _ _ _ _ _ (lt_blk hch), hst.out]
      congr 2
      simp [encN]
     ·exact hk _ _ (by omega) ycH.out
     ·exact Conc.below_setChan hByH.out (by omega) _ _ _ _ _ _
    clear hc3 hch
    show wpOps _ _ _ [] _ (y1.setChan (b + 2) (E + 1) (((q ++ newL met (l.take i)).map encN).toArray.push (.int .i64 (n : Int))) false (s + 1) r false)
    generalize y1.setChan (b + 2) (E + 1) (((q ++ newL met (l.take i)).map encN).toArray.push (.int .i64 (n : Int))) false (s + 1) r false = yz at *
    simp only [wpOps]
    go_simp
    go_wp2_with fail
    go_roundg gk
    case measure => omega
    case rel => exact ⟨i + 1, by first | rfl | simp, by omega, hF⟩
end Go.Proofs.YtnegfigaiomehaaGreatDoor.Tp
end
section
namespace Go.Proofs
open Go.Shelf
def Tryz.keysI_ren : Go.Shelf.Ren := ⟨fun | 7 => 81 | 10 => 108 | n => n, fun | 23 => 121 | 26 => 3 | 3 => 4 | 28 => 133 | 0 => 0 | 27 => 132 | 33 => 151 | 4 => 4 | n => n, fun | n => n⟩
theorem Tryz.keysI : Go.Proofs.SlLaysZI.n7 Tryz.prog Tryz.keysI_ren := {
 mixed := by kernel_rfl
 f7 := ⟨Tryz.f81.name, by decide, Tryz.func81.trans (congrArg some (by kernel_rfl))⟩
 f10 := ⟨Tryz.f108.name, by decide, Tryz.func108.trans (congrArg some (by kernel_rfl))⟩
 t0 := Tryz.underlying0
 a0 := Tryz.isAgg0
 z0 := Tryz.sizeOf0
 v0 := Tryz.zeroValue0
 t4 := Tryz.underlying4
 a4 := Tryz.isAgg4
 z4 := Tryz.sizeOf4
 v4 := Tryz.zeroValue4
 t23 := Tryz.underlying121
 a23 := Tryz.isAgg121
 z23 := Tryz.sizeOf121
 v23 := Tryz.zeroValue121
 t26 := Tryz.underlying3
 a26 := Tryz.isAgg3
 z26 := Tryz.sizeOf3
 v26 := Tryz.zeroValue3
 t27 := Tryz.underlying132
 a27 := Tryz.isAgg132
 z27 := Tryz.sizeOf132
 v27 := Tryz.zeroValue132
 t28 := Tryz.underlying133
 a28 := Tryz.isAgg133
 z28 := Tryz.sizeOf133
 v28 := Tryz.zeroValue133
 t33 := Tryz.underlying151
 a33 := Tryz.isAgg151
 z33 := Tryz.sizeOf151
 v33 := Tryz.zeroValue151 }
def Tryz.sortedI_ren : Go.Shelf.Ren := ⟨fun | 6 => 80 | 8 => 106 | 9 => 107 | 11 => 133 | 13 => 104 | 12 => 134 | 23 => 131 | 24 => 132 | 14 => 154 | 15 => 155 | 16 => 156 | 17 => 157 | 18 => 158 | 19 => 159 | 20 => 160 | 21 => 161 | 22 => 162 | 25 => 177 | 26 => 150 | 27 => 151 | 28 => 178 | 29 => 179 | 30 => 180 | 31 => 189 | n => n, fun | 26 => 3 | 28 => 133 | 24 => 57 | 0 => 0 | 3 => 3 | 37 => 127 | 48 => 76 | 50 => 158 | 4 => 4 | 40 => 175 | 39 => 174 | 45 => 60 | 5 => 5 | 9 => 9 | 51 => 194 | 55 => 198 | 57 => 220 | 58 => 221 | 33 => 151 | n => n, fun | n => n⟩
theorem Tryz.sortedI : Go.Proofs.SlLaysZI.n6 Tryz.prog Tryz.sortedI_ren := {
 mixed := by kernel_rfl
 f6 := ⟨Tryz.f80.name, by decide, Tryz.func80.trans (congrArg some (by kernel_rfl))⟩
 f8 := ⟨Tryz.f106.name, by decide, Tryz.func106.trans (congrArg some (by kernel_rfl))⟩
 f11 := ⟨Tryz.f133.name, by decide, Tryz.func133.trans (congrArg some (by kernel_rfl))⟩
 t0 := Tryz.underlying0
 a0 := Tryz.isAgg0
 z0 := Tryz.sizeOf0
 v0 := Tryz.zeroValue0
 t24 := Tryz.underlying57
 a24 := Tryz.isAgg57
 z24 := Tryz.sizeOf57
 v24 := Tryz.zeroValue57
 t26 := Tryz.underlying3
 a26 := Tryz.isAgg3
 z26 := Tryz.sizeOf3
 v26 := Tryz.zeroValue3
 t28 := Tryz.underlying133
 a28 := Tryz.isAgg133
 z28 := Tryz.sizeOf133
 v28 := Tryz.zeroValue133
 i26 := by kernel_rfl }
def Tryz.sortI_ren : Go.Shelf.Ren := ⟨fun | 5 => 107 | 8 => 104 | 7 => 134 | 19 => 131 | 20 => 132 | 10 => 154 | 11 => 155 | 12 => 156 | 13 => 157 | 14 => 158 | 15 => 159 | 16 => 160 | 17 => 161 | 18 => 162 | 30 => 177 | 31 => 150 | 32 => 151 | 33 => 178 | 34 => 179 | 35 => 180 | 40 => 189 | n => n, fun | 23 => 57 | 25 => 3 | 3 => 3 | 32 => 127 | 22 => 57 | 0 => 0 | 44 => 76 | 46 => 158 | 4 => 4 | 36 => 175 | 35 => 174 | 41 => 60 | 5 => 5 | 9 => 9 | 53 => 194 | 57 => 198 | 63 => 220 | 64 => 221 | n => n, fun | n => n⟩
theorem Tryz.sortI : Go.Proofs.SlLaysM.n5 Tryz.prog Tryz.sortI_ren := {
 mixed := by kernel_rfl
 f5 := ⟨Tryz.f107.name, by decide, Tryz.func107.trans (congrArg some (by kernel_rfl))⟩
 f7 := ⟨Tryz.f134.name, by decide, Tryz.func134.trans (congrArg some (by kernel_rfl))⟩
 f8 := Tryz.func104.trans (congrArg some (by kernel_rfl))
 f10 := ⟨Tryz.f154.name, by decide, Tryz.func154.trans (congrArg some (by kernel_rfl))⟩
 f11 := ⟨Tryz.f155.name, by decide, Tryz.func155.trans (congrArg some (by kernel_rfl))⟩
 f12 := ⟨Tryz.f156.name, by decide, Tryz.func156.trans (congrArg some (by kernel_rfl))⟩
 f13 := ⟨Tryz.f157.name, by decide, Tryz.func157.trans (congrArg some (by kernel_rfl))⟩
 f14 := ⟨Tryz.f158.name, by decide, Tryz.func158.trans (congrArg some (by kernel_rfl))⟩
 f15 := ⟨Tryz.f159.name, by decide, Tryz.func159.trans (congrArg some (by kernel_rfl))⟩
 f16 := ⟨Tryz.f160.name, by decide, Tryz.func160.trans (congrArg some (by kernel_rfl))⟩
 f17 := ⟨Tryz.f161.name, by decide, Tryz.func161.trans (congrArg some (by kernel_rfl))⟩
 f18 := ⟨Tryz.f162.name, by decide, Tryz.func162.trans (congrArg some (by kernel_rfl))⟩
 f19 := Tryz.func131.trans (congrArg some (by kernel_rfl))
 f20 := Tryz.func132.trans (congrArg some (by kernel_rfl))
 f30 := ⟨Tryz.f177.name, by decide, Tryz.func177.trans (congrArg some (by kernel_rfl))⟩
 f31 := Tryz.func150.trans (congrArg some (by kernel_rfl))
 f32 := Tryz.func151.trans (congrArg some (by kernel_rfl))
 f33 := ⟨Tryz.f178.name, by decide, Tryz.func178.trans (congrArg some (by kernel_rfl))⟩
 f34 := ⟨Tryz.f179.name, by decide, Tryz.func179.trans (congrArg some (by kernel_rfl))⟩
 f35 := ⟨Tryz.f180.name, by decide, Tryz.func180.trans (congrArg some (by kernel_rfl))⟩
 f40 := ⟨Tryz.f189.name, by decide, Tryz.func189.trans (congrArg some (by kernel_rfl))⟩
 t0 := Tryz.underlying0
 a0 := Tryz.isAgg0
 z0 := Tryz.sizeOf0
 v0 := Tryz.zeroValue0
 t3 := Tryz.underlying3
 a3 := Tryz.isAgg3
 z3 := Tryz.sizeOf3
 v3 := Tryz.zeroValue3
 t4 := Tryz.underlying4
 a4 := Tryz.isAgg4
 z4 := Tryz.sizeOf4
 v4 := Tryz.zeroValue4
 t5 := Tryz.underlying5
 a5 := Tryz.isAgg5
 z5 := Tryz.sizeOf5
 v5 := Tryz.zeroValue5
 t9 := Tryz.underlying9
 a9 := Tryz.isAgg9
 z9 := Tryz.sizeOf9
 v9 := Tryz.zeroValue9
 t22 := Tryz.underlying57
 a22 := Tryz.isAgg57
 z22 := Tryz.sizeOf57
 v22 := Tryz.zeroValue57
 t23 := Tryz.underlying57
 a23 := Tryz.isAgg57
 z23 := Tryz.sizeOf57
 v23 := Tryz.zeroValue57
 t25 := Tryz.underlying3
 a25 := Tryz.isAgg3
 z25 := Tryz.sizeOf3
 v25 := Tryz.zeroValue3
 t32 := Tryz.underlying127
 a32 := Tryz.isAgg127
 z32 := Tryz.sizeOf127
 v32 := Tryz.zeroValue127
 t35 := Tryz.underlying174
 a35 := Tryz.isAgg174
 z35 := Tryz.sizeOf174
 v35 := Tryz.zeroValue174
 t36 := Tryz.underlying175
 a36 := Tryz.isAgg175
 z36 := Tryz.sizeOf175
 v36 := Tryz.zeroValue175
 t41 := Tryz.underlying60
 a41 := Tryz.isAgg60
 z41 := Tryz.sizeOf60
 v41 := Tryz.zeroValue60
 t44 := Tryz.underlying76
 a44 := Tryz.isAgg76
 z44 := Tryz.sizeOf76
 v44 := Tryz.zeroValue76
 t46 := Tryz.underlying158
 a46 := Tryz.isAgg158
 z46 := Tryz.sizeOf158
 v46 := Tryz.zeroValue158
 t53 := Tryz.underlying194
 a53 := Tryz.isAgg194
 z53 := Tryz.sizeOf194
 v53 := Tryz.zeroValue194
 t57 := Tryz.underlying198
 a57 := Tryz.isAgg198
 z57 := Tryz.sizeOf198
 v57 := Tryz.zeroValue198
 t63 := Tryz.underlying220
 a63 := Tryz.isAgg220
 z63 := Tryz.sizeOf220
 v63 := Tryz.zeroValue220
 t64 := Tryz.underlying221
 a64 := Tryz.isAgg221
 z64 := Tryz.sizeOf221
 v64 := Tryz.zeroValue221 }
def Tryz.keysS_ren : Go.Shelf.Ren := ⟨fun | 7 => 73 | 10 => 102 | n => n, fun | 23 => 83 | 26 => 9 | 3 => 3 | 28 => 124 | 0 => 0 | 27 => 123 | 33 => 50 | 4 => 4 | n => n, fun | n => n⟩
theorem Tryz.keysS : Go.Proofs.SlLaysZ.n7 Tryz.prog Tryz.keysS_ren := {
 mixed := by kernel_rfl
 f7 := ⟨Tryz.f73.name, by decide, Tryz.func73.trans (congrArg some (by kernel_rfl))⟩
 f10 := ⟨Tryz.f102.name, by decide, Tryz.func102.trans (congrArg some (by kernel_rfl))⟩
 t0 := Tryz.underlying0
 a0 := Tryz.isAgg0
 z0 := Tryz.sizeOf0
 v0 := Tryz.zeroValue0
 t4 := Tryz.underlying4
 a4 := Tryz.isAgg4
 z4 := Tryz.sizeOf4
 v4 := Tryz.zeroValue4
 t23 := Tryz.underlying83
 a23 := Tryz.isAgg83
 z23 := Tryz.sizeOf83
 v23 := Tryz.zeroValue83
 t26 := Tryz.underlying9
 a26 := Tryz.isAgg9
 z26 := Tryz.sizeOf9
 v26 := Tryz.zeroValue9
 t27 := Tryz.underlying123
 a27 := Tryz.isAgg123
 z27 := Tryz.sizeOf123
 v27 := Tryz.zeroValue123
 t28 := Tryz.underlying124
 a28 := Tryz.isAgg124
 z28 := Tryz.sizeOf124
 v28 := Tryz.zeroValue124
 t33 := Tryz.underlying50
 a33 := Tryz.isAgg50
 z33 := Tryz.sizeOf50
 v33 := Tryz.zeroValue50 }
def Tryz.sortedS_ren : Go.Shelf.Ren := ⟨fun | 6 => 72 | 8 => 101 | 9 => 75 | 11 => 122 | 13 => 104 | 12 => 103 | 23 => 131 | 24 => 132 | 14 => 123 | 15 => 124 | 16 => 125 | 17 => 126 | 18 => 127 | 19 => 128 | 20 => 77 | 21 => 129 | 22 => 130 | 25 => 149 | 26 => 150 | 27 => 151 | 28 => 152 | 29 => 153 | 30 => 105 | 31 => 176 | n => n, fun | 26 => 9 | 28 => 124 | 24 => 23 | 0 => 0 | 3 => 3 | 37 => 127 | 48 => 76 | 50 => 158 | 4 => 4 | 40 => 175 | 39 => 174 | 45 => 60 | 5 => 5 | 9 => 9 | 51 => 194 | 55 => 198 | 57 => 220 | 58 => 221 | 33 => 50 | n => n, fun | n => n⟩
theorem Tryz.sortedS : Go.Proofs.SlLaysZ.n6 Tryz.prog Tryz.sortedS_ren := {
 mixed := by kernel_rfl
 f6 := ⟨Tryz.f72.name, by decide, Tryz.func72.trans (congrArg some (by kernel_rfl))⟩
 f8 := ⟨Tryz.f101.name, by decide, Tryz.func101.trans (congrArg some (by kernel_rfl))⟩
 f11 := ⟨Tryz.f122.name, by decide, Tryz.func122.trans (congrArg some (by kernel_rfl))⟩
 t0 := Tryz.underlying0
 a0 := Tryz.isAgg0
 z0 := Tryz.sizeOf0
 v0 := Tryz.zeroValue0
 t24 := Tryz.underlying23
 a24 := Tryz.isAgg23
 z24 := Tryz.sizeOf23
 v24 := Tryz.zeroValue23
 t26 := Tryz.underlying9
 a26 := Tryz.isAgg9
 z26 := Tryz.sizeOf9
 v26 := Tryz.zeroValue9
 t28 := Tryz.underlying124
 a28 := Tryz.isAgg124
 z28 := Tryz.sizeOf124
 v28 := Tryz.zeroValue124
 i26 := by kernel_rfl }
def Tryz.sortS_ren : Go.Shelf.Ren := ⟨fun | 6 => 75 | 8 => 104 | 9 => 103 | 19 => 131 | 20 => 132 | 21 => 123 | 22 => 124 | 23 => 125 | 24 => 126 | 25 => 127 | 26 => 128 | 27 => 77 | 28 => 129 | 29 => 130 | 36 => 149 | 31 => 150 | 32 => 151 | 37 => 152 | 38 => 153 | 39 => 105 | 41 => 176 | n => n, fun | 27 => 23 | 29 => 9 | 3 => 3 | 32 => 127 | 26 => 23 | 0 => 0 | 44 => 76 | 46 => 158 | 4 => 4 | 36 => 175 | 35 => 174 | 41 => 60 | 5 => 5 | 9 => 9 | 53 => 194 | 57 => 198 | 63 => 220 | 64 => 221 | n => n, fun | n => n⟩
theorem Tryz.sortS : Go.Proofs.SlLaysM.n6 Tryz.prog Tryz.sortS_ren := {
 mixed := by kernel_rfl
 f6 := ⟨Tryz.f75.name, by decide, Tryz.func75.trans (congrArg some (by kernel_rfl))⟩
 f8 := Tryz.func104.trans (congrArg some (by kernel_rfl))
 f9 := ⟨Tryz.f103.name, by decide, Tryz.func103.trans (congrArg some (by kernel_rfl))⟩
 f19 := Tryz.func131.trans (congrArg some (by kernel_rfl))
 f20 := Tryz.func132.trans (congrArg some (by kernel_rfl))
 f21 := ⟨Tryz.f123.name, by decide, Tryz.func123.trans (congrArg some (by kernel_rfl))⟩
 f22 := ⟨Tryz.f124.name, by decide, Tryz.func124.trans (congrArg some (by kernel_rfl))⟩
 f23 := ⟨Tryz.f125.name, by decide, Tryz.func125.trans (congrArg some (by kernel_rfl))⟩
 f24 := ⟨Tryz.f126.name, by decide, Tryz.func126.trans (congrArg some (by kernel_rfl))⟩
 f25 := ⟨Tryz.f127.name, by decide, Tryz.func127.trans (congrArg some (by kernel_rfl))⟩
 f26 := ⟨Tryz.f128.name, by decide, Tryz.func128.trans (congrArg some (by kernel_rfl))⟩
 f27 := ⟨Tryz.f77.name, by decide, Tryz.func77.trans (congrArg some (by kernel_rfl))⟩
 f28 := ⟨Tryz.f129.name, by decide, Tryz.func129.trans (congrArg some (by kernel_rfl))⟩
 f29 := ⟨Tryz.f130.name, by decide, Tryz.func130.trans (congrArg some (by kernel_rfl))⟩
 f31 := Tryz.func150.trans (congrArg some (by kernel_rfl))
 f32 := Tryz.func151.trans (congrArg some (by kernel_rfl))
 f36 := ⟨Tryz.f149.name, by decide, Tryz.func149.trans (congrArg some (by kernel_rfl))⟩
 f37 := ⟨Tryz.f152.name, by decide, Tryz.func152.trans (congrArg some (by kernel_rfl))⟩
 f38 := ⟨Tryz.f153.name, by decide, Tryz.func153.trans (congrArg some (by kernel_rfl))⟩
 f39 := ⟨Tryz.f105.name, by decide, Tryz.func105.trans (congrArg some (by kernel_rfl))⟩
 f41 := ⟨Tryz.f176.name, by decide, Tryz.func176.trans (congrArg some (by kernel_rfl))⟩
 t0 := Tryz.underlying0
 a0 := Tryz.isAgg0
 z0 := Tryz.sizeOf0
 v0 := Tryz.zeroValue0
 t3 := Tryz.underlying3
 a3 := Tryz.isAgg3
 z3 := Tryz.sizeOf3
 v3 := Tryz.zeroValue3
 t4 := Tryz.underlying4
 a4 := Tryz.isAgg4
 z4 := Tryz.sizeOf4
 v4 := Tryz.zeroValue4
 t5 := Tryz.underlying5
 a5 := Tryz.isAgg5
 z5 := Tryz.sizeOf5
 v5 := Tryz.zeroValue5
 t9 := Tryz.underlying9
 a9 := Tryz.isAgg9
 z9 := Tryz.sizeOf9
 v9 := Tryz.zeroValue9
 t26 := Tryz.underlying23
 a26 := Tryz.isAgg23
 z26 := Tryz.sizeOf23
 v26 := Tryz.zeroValue23
 t27 := Tryz.underlying23
 a27 := Tryz.isAgg23
 z27 := Tryz.sizeOf23
 v27 := Tryz.zeroValue23
 t29 := Tryz.underlying9
 a29 := Tryz.isAgg9
 z29 := Tryz.sizeOf9
 v29 := Tryz.zeroValue9
 t32 := Tryz.underlying127
 a32 := Tryz.isAgg127
 z32 := Tryz.sizeOf127
 v32 := Tryz.zeroValue127
 t35 := Tryz.underlying174
 a35 := Tryz.isAgg174
 z35 := Tryz.sizeOf174
 v35 := Tryz.zeroValue174
 t36 := Tryz.underlying175
 a36 := Tryz.isAgg175
 z36 := Tryz.sizeOf175
 v36 := Tryz.zeroValue175
 t41 := Tryz.underlying60
 a41 := Tryz.isAgg60
 z41 := Tryz.sizeOf60
 v41 := Tryz.zeroValue60
 t44 := Tryz.underlying76
 a44 := Tryz.isAgg76
 z44 := Tryz.sizeOf76
 v44 := Tryz.zeroValue76
 t46 := Tryz.underlying158
 a46 := Tryz.isAgg158
 z46 := Tryz.sizeOf158
 v46 := Tryz.zeroValue158
 t53 := Tryz.underlying194
 a53 := Tryz.isAgg194
 z53 := Tryz.sizeOf194
 v53 := Tryz.zeroValue194
 t57 := Tryz.underlying198
 a57 := Tryz.isAgg198
 z57 := Tryz.sizeOf198
 v57 := Tryz.zeroValue198
 t63 := Tryz.underlying220
 a63 := Tryz.isAgg220
 z63 := Tryz.sizeOf220
 v63 := Tryz.zeroValue220
 t64 := Tryz.underlying221
 a64 := Tryz.isAgg221
 z64 := Tryz.sizeOf221
 v64 := Tryz.zeroValue221 }
end Go.Proofs
end
section
namespace Go.Proofs.YtnegfigaiomehaaGreatDoor.Tp
open Go.RowKit Go.Lib Go.Shelf Go.Maps Go.Sort Go.Proofs.YtnegfigaiomehaaGreatDoorW.PrintWords Go.Proofs.YtnegfigaiomehaaGreatDoorW.PrintLast Go.Proofs.YtnegfigaiomehaaGreatDoorW.PrintMore Go.Proofs.YtnegfigaiomehaaGreatDoor.U Go.Proofs.YtnegfigaiomehaaGreatDoor.P Go.Proofs.YtnegfigaiomehaaGreatDoor.MapV Go.Proofs.YtnegfigaiomehaaGreatDoor.Ck
open Go.Proofs.YtnegfigaiomehaaGreatDoor.MapI (MapInt OwnsI updI noneI mem_intKeys mem_strKeys)
theorem sortsI (m : Nat) : AnyZI.SortsIn Tryz.prog Tryz.sortedI_ren Fence.wide m :=
  ⟨fun blk off cap ss W hH hblk hsz => callsIn_wide.2 (AnyM.slices_Sort_int Tryz.sortI blk off cap ss W hH hblk hsz),
   fun p cap W => callsIn_wide.2 (AnyM.slices_Sort_int_none Tryz.sortI p cap W)⟩
theorem sortsS (m : Nat) : AnyZ.SortsIn Tryz.prog Tryz.sortedS_ren Fence.wide m :=
  ⟨fun blk off cap ss W hH hblk hsz => callsIn_wide.2 (AnyM.slices_Sort_string Tryz.sortS blk off cap ss W hH hblk hsz),
   fun p cap W => callsIn_wide.2 (AnyM.slices_Sort_string_none Tryz.sortS p cap W)⟩
theorem KeysI_call (mb : Option Nat) (w : World) : Calls Tryz.prog 81 #[.map mb] w fun e w' => e = .returned (.func (.func 108) #[] #[.pointer (some ⟨w.heap.size, 0, none⟩)]) ∧ w' = w.alloc (.cells #[.map mb] 121) :=
  (callsIn_wide (n := 5)).1 (AnyZI.keys_in Tryz.keysI Fence.wide 5 trivial rfl mb w)
theorem KeysS_call (mb : Option Nat) (w : World) : Calls Tryz.prog 73 #[.map mb] w fun e w' => e = .returned (.func (.func 102) #[] #[.pointer (some ⟨w.heap.size, 0, none⟩)]) ∧ w' = w.alloc (.cells #[.map mb] 83) :=
  (callsIn_wide (n := 5)).1 (AnyZ.keys_in Tryz.keysS Fence.wide 5 trivial rfl mb w)
theorem SortedI_call {H : Type} (b nn : Nat) (D0 : DataW H) (R : Value → Option (DataW H × List MemPlace)) (w : World) (hown : w.ownsMap Tryz.prog 3 R b nn D0) (hmax : Maps.size D0 ≤ 1000000) :
    Calls Tryz.prog 80 #[.func (.func 108) #[] #[.pointer (some ⟨w.heap.size, 0, none⟩)]] (w.alloc (.cells #[.map (some b)] 121)) fun e w' => ∃ (v : Value) (ss : List Int), e = .returned v ∧ ss.Perm (intKeys D0) ∧
      w'.ownsRow (w.heap.size + 1) 3 1 v ss.length ((ss.mergeSort (fun x y => decide (x ≤ y))).map encZ) ∧ Below (w.heap.size + 1) (w.alloc (.cells #[.map (some b)] 121)) w' := by
  have hbl := hown.lt
  have hseq : SeqGives Fence.wide 2 Tryz.prog 108 #[.pointer (some ⟨w.heap.size, 0, none⟩)] encZ (fun ss => ss.Perm (intKeys D0)) (Maps.size D0) (w.alloc (.cells #[.map (some b)] 121)) :=
    AnyZI.keys_gives (ρ := Tryz.keysI_ren) { Tryz.keysI with } Fence.wide _ trivial rfl (by omega) w.heap.size b nn D0 _ (by simp) (by simp) (by
      obtain ⟨es, clock, hb, Ft, hs, hD⟩ := hown
      exact ⟨es, clock, (Below.heap_alloc _ _ b hbl).trans hb, Ft, hs, hD⟩)
  have cS := AnyZI.sorted_in Tryz.sortedI Fence.wide 5 trivial trivial trivial trivial rfl (by omega) (sortsI _) (enters_of Tryz.func107 (by kernel_rfl) rfl) 108 #[.pointer (some ⟨w.heap.size, 0, none⟩)] trivial (enters_of Tryz.func108 (by kernel_rfl) rfl) _ _ (by unfold maxLen; omega) (by omega) _ hseq
  change CallsIn _ _ Tryz.prog 80 _ _ _ at cS
  refine ((callsIn_wide (n := 5)).1 cS).mono ?_
  rintro e w' ⟨v, ss, rfl, hS, hrow, hnil, hb⟩
  exact ⟨v, ss, rfl, hS, ownsRow_base_a hrow (by simp), hb.mono (by simp)⟩
theorem SortedS_call {H : Type} (b nn : Nat) (D0 : DataW H) (R : Value → Option (DataW H × List MemPlace)) (w : World) (hown : w.ownsMap Tryz.prog 9 R b nn D0) (hmax : Maps.size D0 ≤ 1000000) :
    Calls Tryz.prog 72 #[.func (.func 102) #[] #[.pointer (some ⟨w.heap.size, 0, none⟩)]] (w.alloc (.cells #[.map (some b)] 83)) fun e w' => ∃ (v : Value) (ss : List (List UInt8)), e = .returned v ∧ ss.Perm (strKeys D0) ∧
      w'.ownsRow (w.heap.size + 1) 9 1 v ss.length ((ss.mergeSort (fun x y => decide (x ≤ y))).map encStr) ∧ Below (w.heap.size + 1) (w.alloc (.cells #[.map (some b)] 83)) w' := by
  have hbl := hown.lt
  have hseq : SeqGives Fence.wide 2 Tryz.prog 102 #[.pointer (some ⟨w.heap.size, 0, none⟩)] encStr (fun ss => ss.Perm (strKeys D0)) (Maps.size D0) (w.alloc (.cells #[.map (some b)] 83)) :=
    AnyZ.keys_gives (ρ := Tryz.keysS_ren) { Tryz.keysS with } Fence.wide _ trivial rfl (by omega) w.heap.size b nn D0 _ (by simp) (by simp) (by
      obtain ⟨es, clock, hb, Ft, hs, hD⟩ := hown
      exact ⟨es, clock, (Below.heap_alloc _ _ b hbl).trans hb, Ft, hs, hD⟩)
  have cS := AnyZ.sorted_in Tryz.sortedS Fence.wide 5 trivial trivial trivial trivial rfl (by omega) (sortsS _) (enters_of Tryz.func75 (by kernel_rfl) rfl) 102 #[.pointer (some ⟨w.heap.size, 0, none⟩)] trivial (enters_of Tryz.func102 (by kernel_rfl) rfl) _ _ (by unfold maxLen; omega) (by omega) _ hseq
  change CallsIn _ _ Tryz.prog 72 _ _ _ at cS
  refine ((callsIn_wide (n := 5)).1 cS).mono ?_
  rintro e w' ⟨v, ss, rfl, hS, hrow, hnil, hb⟩
  exact ⟨v, ss, rfl, hS, ownsRow_base_a hrow (by simp), hb.mono (by simp)⟩
theorem intKeys_len {H : Type} (D : DataW H) (h : ∃ es, D = .map es) : (intKeys D).length = Maps.size D := by
  obtain ⟨es, rfl⟩ := h
  exact List.length_map ..
theorem strKeys_len {H : Type} (D : DataW H) (h : ∃ es, D = .map es) : (strKeys D).length = Maps.size D := by
  obtain ⟨es, rfl⟩ := h
  exact List.length_map ..
theorem SortedI_any (b n : Nat) (met : List Nat) (w : World) (h : OwnsI w b n (metV met)) (hn : n ≤ 1000000) :
    Calls Tryz.prog 80 #[.func (.func 108) #[] #[.pointer (some ⟨w.heap.size, 0, none⟩)]] (w.alloc (.cells #[.map (some b)] 121)) fun e w' => ∃ (v : Value) (r : List Nat), e = .returned v ∧ (∀ k, k ∈ r ↔ k ∈ met) ∧ r.length ≤ n ∧ Kd.R (Kd.int .i64) 3 w' w.heap.size (fun _ => True) v (intsN r) ∧ Below w.heap.size w w' := by
  obtain ⟨D, hown, h1, h2⟩ := h
  have hsz := hown.size_le
  obtain ⟨es, he, _⟩ := hown.keysOf
  refine (SortedI_call b n D _ w hown (by omega)).mono ?_
  rintro e w' ⟨v, ss, rfl, hS, hrow, hb⟩
  have hmem : ∀ k, k ∈ ss ↔ k ∈ intsN met := fun k => by
    rw [hS.mem_iff, mem_intKeys hown k, h1 k]
    unfold metV
    by_cases hk : k ∈ intsN met <;> simp [hk]
  have hpos : ∀ k ∈ ss, ∃ a : Nat, k = (a : Int) := fun k hk => by
    obtain ⟨a, _, rfl⟩ := List.mem_map.1 ((hmem k).1 hk)
    exact ⟨a, rfl⟩
  have hr : intsN ((ss.mergeSort (fun x y => decide (x ≤ y))).map Int.toNat) = ss.mergeSort (fun x y => decide (x ≤ y)) := by
    unfold intsN
    rw [List.map_map]
    conv => rhs; rw [← List.map_id (ss.mergeSort (fun x y => decide (x ≤ y)))]
    refine List.map_congr_left fun k hk => ?_
    obtain ⟨a, rfl⟩ := hpos k ((List.mergeSort_perm ss _).mem_iff.1 hk)
    simp
  refine ⟨v, (ss.mergeSort (fun x y => decide (x ≤ y))).map Int.toNat, rfl, fun k => ?_, ?_, ?_, ?_⟩
  · rw [← mem_intsN, hr, (List.mergeSort_perm ss _).mem_iff, hmem, mem_intsN]
  · rw [List.length_map, (List.mergeSort_perm ss _).length_eq, hS.length_eq, intKeys_len D ⟨es, he⟩]; exact hsz
  · rw [hr]
    refine Kd.R_lower (base := w.heap.size + 1) (Kd.R_of_own (enc := Value.int .i64) ?_ (fun _ _ => trivial)) (by omega)
    have e1 : (ss.mergeSort (fun x y => decide (x ≤ y))).length = ss.length := (List.mergeSort_perm ss _).length_eq
    rw [e1]
    exact hrow
  · exact ((Below.refl _ w).alloc (Nat.le_refl _) _).trans (hb.mono (by omega))
theorem SortedS_any (b n : Nat) (es : List EdgeL) (w : World) (h : OwnsV w b n (makerV es)) (hn : n ≤ 1000000) :
    Calls Tryz.prog 72 #[.func (.func 102) #[] #[.pointer (some ⟨w.heap.size, 0, none⟩)]] (w.alloc (.cells #[.map (some b)] 83)) fun e w' => ∃ (v : Value) (r : List Txt), e = .returned v ∧ (∀ k, k ∈ r ↔ (makerL es k).isSome = true) ∧ r.length ≤ n ∧ Kd.R Kd.string 9 w' w.heap.size (fun _ => True) v (r.map B) ∧ Below w.heap.size w w' := by
  obtain ⟨D, hown, h1, h2⟩ := h
  have hsz := hown.size_le
  obtain ⟨rs, he, _⟩ := hown.keysOf
  refine (SortedS_call b n D _ w hown (by omega)).mono ?_
  rintro e w' ⟨v, ss, rfl, hS, hrow, hb⟩
  refine ⟨v, ss.mergeSort (fun x y => decide (x ≤ y)), rfl, fun k => ?_, ?_, ?_, ?_⟩
  · rw [(List.mergeSort_perm ss _).mem_iff, hS.mem_iff, mem_strKeys hown k, h1 k]
    unfold makerV
    cases makerL es k <;> rfl
  · rw [(List.mergeSort_perm ss _).length_eq, hS.length_eq, strKeys_len D ⟨rs, he⟩]; exact hsz
  · refine Kd.R_lower (base := w.heap.size + 1) (Kd.R_of_own (enc := Value.string) ?_ (fun _ _ => trivial)) (by omega)
    have e1 : ((ss.mergeSort (fun x y => decide (x ≤ y))).map B).length = ss.length := by rw [List.length_map]; exact (List.mergeSort_perm ss _).length_eq
    rw [e1]
    have e2 : encs Value.string ((ss.mergeSort (fun x y => decide (x ≤ y))).map B) = (ss.mergeSort (fun x y => decide (x ≤ y))).map encStr := by
      simp [encs, Function.comp_def, encStr, B]
    rw [e2]
    exact hrow
  · exact ((Below.refl _ w).alloc (Nat.le_refl _) _).trans (hb.mono (by omega))
end Go.Proofs.YtnegfigaiomehaaGreatDoor.Tp
end
section
namespace Go.Proofs.YtnegfigaiomehaaGreatDoor.Tp
open Go.RowKit Go.Lib Go.Shelf Go.Maps Go.Proofs.YtnegfigaiomehaaGreatDoorW.PrintWords Go.Proofs.YtnegfigaiomehaaGreatDoorW.PrintLast Go.Proofs.YtnegfigaiomehaaGreatDoorW.PrintMore Go.Proofs.YtnegfigaiomehaaGreatDoor.U Go.Proofs.YtnegfigaiomehaaGreatDoor.P Go.Proofs.YtnegfigaiomehaaGreatDoor.MapV Go.Proofs.YtnegfigaiomehaaGreatDoor.Ck
open Go.Proofs.YtnegfigaiomehaaGreatDoor.MapI (MapInt OwnsI updI noneI)
structure Re (es : List EdgeL) (src met q : List Nat) : Prop where
 nd : met.Nodup
 lt : ∀ n ∈ met, n < es.length
 sub : ∀ n ∈ q, n ∈ met
 ql : q.length ≤ met.length
 all : ∀ n ∈ src, n ∈ met
 closed : ∀ m ∈ met, m ∈ q ∨ ∀ k ∈ aheadL es m, k ∈ met
 sound : ∀ m ∈ met, ∃ s ∈ src, Star es s m
theorem Re.start {es : List EdgeL} {src : List Nat} (h : ∀ n ∈ src, n < es.length) : Re es src (newL [] src) (newL [] src) := by
 have hm : ∀ x, x ∈ newL [] src ↔ x ∈ src := fun x => by have := mem_newL (x := x) src []; simpa using this
 have hn := nodup_newL src [] List.nodup_nil
 rw [List.nil_append] at hn
 exact ⟨hn, fun n hn => h n ((hm n).1 hn), fun n hn => hn, Nat.le_refl _, fun n hn => (hm n).2 hn, fun m hm => .inl hm, fun m hm' => ⟨m, (hm m).1 hm', .refl _⟩⟩
theorem Re.step {es : List EdgeL} {src met q : List Nat} {n : Nat} (h : Re es src met (n :: q)) : Re es src (met ++ newL met (aheadL es n)) (q ++ newL met (aheadL es n)) := by
 have hm := fun x => mem_newL (x := x) (aheadL es n) met
 have hnm := h.sub n (by simp)
 refine ⟨nodup_newL _ _ h.nd, fun x hx => ?_, fun x hx => ?_, ?_, fun x hx => List.mem_append_left _ (h.all x hx), fun m hm' => ?_, fun m hm' => ?_⟩
 ·rcases (hm x).1 hx with hx | hx
  ·exact h.lt x hx
  ·exact madeL_lt_ahead hx
 ·rcases List.mem_append.1 hx with hx | hx
  ·exact List.mem_append_left _ (h.sub x (by simp [hx]))
  ·exact List.mem_append_right _ hx
 ·have := h.ql
  rw [List.length_cons] at this
  rw [List.length_append, List.length_append]; omega
 ·rcases List.mem_append.1 hm' with hx | hx
  ·rcases h.closed m hx with h1 | h1
   ·rcases List.mem_cons.1 h1 with rfl | h1
    ·exact .inr fun k hk => (hm k).2 (.inr hk)
    ·exact .inl (List.mem_append_left _ h1)
   ·exact .inr fun k hk => List.mem_append_left _ (h1 k hk)
  ·exact .inl (List.mem_append_right _ hx)
 ·rcases (hm m).1 hm' with hx | hx
  ·exact h.sound m hx
  ·obtain ⟨s, hs, hst⟩ := h.sound n hnm
   exact ⟨s, hs, hst.snoc (mem_aheadL.1 hx)⟩
theorem Re.few {es : List EdgeL} {src met q : List Nat} (h : Re es src met q) : met.length ≤ es.length := few_of h.nd h.lt
theorem Re.fin {es : List EdgeL} {src met : List Nat} (h : Re es src met []) (n : Nat) : n ∈ met ↔ ∃ s ∈ src, Star es s n := by
 constructor
 ·exact h.sound n
 ·rintro ⟨s, hs, hst⟩
  have key : ∀ a b, Star es a b → a ∈ met → b ∈ met := by
   intro a b hab
   induction hab with
   | refl => exact id
   | step h1 _ ih =>
    intro ha
    rcases h.closed _ ha with h2 | h2
    ·simp at h2
    ·exact ih (h2 _ (mem_aheadL.2 h1))
  exact key s n hst (h.all s hs)
theorem met_start (w : World) (E : Nat) : Met w ((((w.alloc (.map #[] 0)).alloc (.cells #[.map (some w.heap.size)] 121)).alloc (.chan (E + 1) #[] false 0 0 false)).alloc (.cells #[.chan (some (w.heap.size + 2))] 129)) E [] [] := by
 have b1 : Below w.heap.size w (w.alloc (.map #[] 0)) := (Below.refl _ _).alloc (Nat.le_refl _) _
 have h1 := OwnsI.made w
 generalize hx1 : w.alloc (.map #[] 0) = x1 at *
 have z1 : x1.heap.size = w.heap.size + 1 := by rw [← hx1]; simp
 have b2 := (Below.refl x1.heap.size x1).alloc (Nat.le_refl _) (.cells #[.map (some w.heap.size)] 121)
 have h2 := heap_alloc_new x1 (.cells #[.map (some w.heap.size)] 121)
 rw [z1] at h2
 generalize hx2 : x1.alloc (.cells #[.map (some w.heap.size)] 121) = x2 at *
 have z2 : x2.heap.size = w.heap.size + 2 := by rw [← hx2]; simp [z1]
 have b3 := (Below.refl x2.heap.size x2).alloc (Nat.le_refl _) (.chan (E + 1) #[] false 0 0 false)
 have h3 := heap_alloc_new x2 (.chan (E + 1) #[] false 0 0 false)
 rw [z2] at h3
 generalize hx3 : x2.alloc (.chan (E + 1) #[] false 0 0 false) = x3 at *
 have z3 : x3.heap.size = w.heap.size + 3 := by rw [← hx3]; simp [z2]
 have b4 := (Below.refl x3.heap.size x3).alloc (Nat.le_refl _) (.cells #[.chan (some (w.heap.size + 2))] 129)
 have h4 := heap_alloc_new x3 (.cells #[.chan (some (w.heap.size + 2))] 129)
 rw [z3] at h4
 generalize x3.alloc (.cells #[.chan (some (w.heap.size + 2))] 129) = x4 at *
 refine ⟨?_, below_blk b4 (below_blk b3 h2), ⟨0, 0, below_blk b4 h3⟩, h4, b1.trans ((b2.mono (by omega)).trans ((b3.mono (by omega)).trans (b4.mono (by omega))))⟩
 rw [metV_nil]
 exact ((h1.same (b2.block _ h1.lt)).same (b3.block _ (by omega))).same (b4.block _ (by omega))
set_option maxRecDepth 100000 in
set_option maxHeartbeats 8000000 in
theorem reached_any (p : Nat) (es : List EdgeL) (defs : List Txt) (l : List Nat) (v : Value) (w : World) (hG : GraphAt w p es defs) (hE : es.length ≤ 1000) (hv : Ints w v l) (hn : l.length ≤ 1000) (hlt : ∀ n ∈ l, n < es.length) (hah : ∀ n, (aheadL es n).length ≤ 1000) :
  Calls Tryz.prog 51 #[ptr p, v] w fun e w' => ∃ v' r, e = .returned v' ∧ (∀ n, n ∈ r ↔ ∃ s ∈ l, Star es s n) ∧ r.length ≤ es.length ∧ Kd.R (Kd.int .i64) 3 w' w.heap.size (fun _ => True) v' (intsN r) ∧ Below w.heap.size w w' := by
 have hGH := Lib.hid hG
 have hvH := Lib.hid hv
 have hltH := Lib.hid hlt
 have hahH := Lib.hid hah
 obtain ⟨A0, c0, A1, c1, mb, A3, c3, hb, _⟩ := hG.blk
 have x0 := (cell_of_heap (j := 0) hb).trans rfl
 have hbH := Lib.hid hb
 obtain ⟨A, c, rfl, _, _⟩ := hv
 clear hG hb hlt hah
 unfold ptr
 have hmm := @run_makeMap Tryz.prog
 obtain ⟨i0, hi, hz0, hz1, hz2⟩ := info_parts infoInt
 have hmc : ∀ w : World, (Instr.makeChan 129 (.int .i64 ((es.length : Int) + 1))).run Tryz.prog w = .ok (.chan (some w.heap.size)) (w.alloc (.chan (es.length + 1) #[] false 0 0 false)) := fun w => by
  have := Conc.run_makeChan (P := Tryz.prog) (w := w) Tryz.underlying129 hi .i64 (es.length + 1) (by omega) (by rw [hz2]; omega)
  simpa using this
 have x2 : ((w.alloc (.map #[] 0)).alloc (.cells #[.map (some w.heap.size)] 121)).cell? ⟨p, 0, none⟩ = some (.slice A0 es.length c0) := Lib.cell?_alloc_some _ (Lib.cell?_alloc_some _ x0)
 go_enter Tryz.func51, Tryz.ntmps51
 go_wp2_with fail
 clear hmm hmc x0 x2 hi hz0 hz1 hz2
 have hS := Re.start hltH.out
 have hm0 := meet_any w es.length [] [] l (.slice A l.length c) _ (met_start w es.length) hvH.out hltH.out (by simp) List.nodup_nil (Nat.le_refl _) hE hn
 rw [List.nil_append] at hm0
 refine hm0.mono ?_
 rintro e w1 ⟨rfl, hM1⟩
 have hM1H := Lib.hid hM1
 have hSH := Lib.hid hS
 have hfew := hS.few
 have hq1 := hS.ql
 clear hm0 hM1 hS
 go_wp2_with fail
 go_loopg [8] (3 * es.length) (fun gk s8 wr => ∃ met q : List Nat, Hid (Re es l met q) ∧ 2 * (es.length - met.length) + q.length ≤ gk ∧ Hid (Met w wr es.length met q))
 case atStart => exact ⟨_, _, hSH, by omega, hM1H⟩
 case round =>
  obtain ⟨met, q, hR, hgk, hM⟩ := hrel
  clear hM1H hSH hfew hq1
  have hfew := hR.out.few
  have c3 := (cell_of_heap (j := 0) hM.out.bc).trans rfl
  go_upto_region 6 with (fail)
  obtain ⟨s, r, hch⟩ := hM.out.ch
  clear c3
  refine Comm.region_of ?_
  show Comm.OpsS _ _ _ [0, 1, 2] _ _
  cases q with
  | nil =>
   refine Comm.ops_select_none rfl rfl rfl rfl rfl (zeroInt wr) hch ?_
   refine Comm.ops_value (v := .int .i64 (-1)) (w' := wr) rfl rfl (by go_simp; try with_reducible rfl) ?_
   refine Comm.ops_value (v := .bool false) (w' := wr) rfl rfl (by go_simp; try with_reducible rfl) ?_
   refine Comm.ops_of ?_
   simp only [wpOps]
   go_simp
   have x1 := (cell_of_heap (j := 0) hM.out.bm).trans rfl
   have hK := Lib.hid (KeysI_call (some w.heap.size) wr)
   have hL := Lib.hid (SortedI_any w.heap.size met.length met wr hM.out.map (by omega))
   go_wp2_with fail
   refine hK.out.mono ?_
   rintro e w2 ⟨rfl, rfl⟩
   go_wp2_with fail
   refine hL.out.mono ?_
   rintro e w3 ⟨v', rr, rfl, hmem, hlen, hRR, hb⟩
   have hmemH := Lib.hid hmem
   have hRRH := Lib.hid hRR
   have hbH2 := Lib.hid hb
   clear hmem hRR hb
   go_wp2_with fail
   go_ret
   exact ⟨v', rr, rfl, fun n => (hmemH.out n).trans (hR.out.fin n), by omega, Kd.R_lower hRRH.out hM.out.below.size, hM.out.below.trans (hbH2.out.mono hM.out.below.size)⟩
  | cons n q =>
   have hbuf : ((n :: q).map encN).toArray.getD 0 undef = .int .i64 (n : Int) := by simp [encN]
   have hex : ((n :: q).map encN).toArray.extract 1 ((n :: q).map encN).toArray.size = (q.map encN).toArray := by
    simp only [List.size_toArray, List.length_map, List.length_cons, List.map_cons]
    simp [List.take_of_length_le]
   refine Comm.ops_select_some rfl rfl rfl rfl rfl (zeroInt wr) hch (by simp) ?_
   rw [hbuf, hex]
   have hM2 : Hid (Met w (wr.setChan (w.heap.size + 2) (es.length + 1) (q.map encN).toArray false s (r + 1) false) es.length met q) := by
    have hk : ∀ k o, k ≠ w.heap.size + 2 → wr.heap[k]? = some o → (wr.setChan (w.heap.size + 2) (es.length + 1) (q.map encN).toArray false s (r + 1) false).heap[k]? = some o := fun k o hk ho => by
     simp only [World.setChan]; rw [Array.getElem?_setIfInBounds_ne (by omega)]; exact ho
    refine Lib.hid ⟨?_, hk _ _ (by omega) hM.out.bm, ⟨s, r + 1, Conc.heap_setChan _ _ _ _ _ _ _ _ (lt_blk hch)⟩, hk _ _ (by omega) hM.out.bc, Conc.below_setChan hM.out.below (by omega) _ _ _ _ _ _⟩
    refine hM.out.map.same ?_
    simp only [World.setChan]; rw [Array.getElem?_setIfInBounds_ne (by omega)]
   clear hch hbuf hex
   generalize wr.setChan (w.heap.size + 2) (es.length + 1) (q.map encN).toArray false s (r + 1) false = yz at *
   refine Comm.ops_value (v := .int .i64 0) (w' := yz) rfl rfl (by go_simp; try with_reducible rfl) ?_
   refine Comm.ops_value (v := .bool true) (w' := yz) rfl rfl (by go_simp; try with_reducible rfl) ?_
   refine Comm.ops_of ?_
   simp only [wpOps]
   go_simp
   have hnE := hR.out.lt n (hR.out.sub n (by simp))
   obtain ⟨A0', c0', A1', c1', mb', A3', c3', hb', _, _, _, ha1, ha2⟩ := (hGH.out.below hM2.out.below).blk
   have y3 := (cell_of_heap (j := 3) hb').trans rfl
   obtain ⟨ad3, Ai, ci, rfl, ka, hci, hCi⟩ := ahead_at ha2 n hnE
   have n0 : (0 : Int) ≤ (n : Int) := by omega
   have n1 : (n : Int) < (es.length : Int) := by omega
   have hA0 : Hid (Ints w (.slice Ai (aheadL es n).length ci) (aheadL es n)) := by
    obtain ⟨_, _, _, _, _, A3'', c3'', hb'', _, _, _, _, ha2''⟩ := hGH.out.blk
    have h1 := (below_blk hM2.out.below hb'').symm.trans hb'
    injection h1 with h1
    injection h1 with h1 _ _
    have h4 : A3'' = some ad3 := by
     have := congrArg (fun a => a[3]?) h1
     simp at this
     exact this.1
    obtain ⟨ad', Ai', ci', e1, ka', hci', hCi'⟩ := ahead_at ha2'' n hnE
    rw [h4] at e1
    injection e1 with e1
    subst e1
    have h5 := (below_cell hM2.out.below ka').symm.trans ka
    injection h5 with h5
    injection h5 with h6 _ h7
    subst h6 h7
    exact Lib.hid ⟨_, _, rfl, hci, hCi'⟩
   have hme := Lib.hid (meet_any w es.length met q (aheadL es n) (.slice Ai (aheadL es n).length ci) yz hM2.out hA0.out (fun k hk => madeL_lt_ahead hk) hR.out.lt hR.out.nd (by have := hR.out.ql; rw [List.length_cons] at this; omega) hE (hahH.out n))
   have hst := hR.out.step
   have hst2 := hst.few
   rw [List.length_append] at hst2
   have hstH := Lib.hid hst
   clear hst ha2 hCi hb'
   rw [List.length_cons] at hgk
   go_wp2_with fail
   refine hme.out.mono ?_
   rintro e w2 ⟨rfl, hM3⟩
   have hM3H := Lib.hid hM3
   clear hM3
   go_wp2_with fail
   go_roundg (gk - 1)
   case measure => omega
   case rel => exact ⟨_, _, hstH, by rw [List.length_append, List.length_append]; omega, hM3H⟩
end Go.Proofs.YtnegfigaiomehaaGreatDoor.Tp
end
section
namespace Go.Proofs.YtnegfigaiomehaaGreatDoor.P
open Go.RowKit Go.Proofs.YtnegfigaiomehaaGreatDoorW.PrintWords Go.Proofs.YtnegfigaiomehaaGreatDoorW.PrintLast Go.Proofs.YtnegfigaiomehaaGreatDoorW.PrintMore
attribute [local go_sem] max2_int min2_int max_two min_two max_three min_three max_four min_four
def cmp_isNaN_string.f (a0 : ByteArray) : Option (Bool) := some (a0.toList != a0.toList)
set_option maxHeartbeats 8000000 in
set_option maxRecDepth 100000 in
theorem cmp_isNaN_string.calls (a0 : ByteArray) (r : Bool) (w : World) (h : cmp_isNaN_string.f a0 = some r) :
  Calls Tryz.prog 105 #[.string a0] w fun e w' => e = .returned (.bool r) ∧ Drawn0 w w' := by
 have H : (some (a0.toList != a0.toList)) = some r := h
 clear h
 obtain rfl := Option.some.inj H
 go_enter Tryz.func105, Tryz.ntmps105
 go_wp2
 go_ret
 exact ⟨by first | rfl | (simp; done) | (simp [*]; done), by repeat (first | exact Drawn0.refl _ | apply Drawn0.step)⟩
end Go.Proofs.YtnegfigaiomehaaGreatDoor.P
end
section
namespace Go.Proofs.YtnegfigaiomehaaGreatDoor.P
open Go.RowKit Go.Proofs.YtnegfigaiomehaaGreatDoorW.PrintWords Go.Proofs.YtnegfigaiomehaaGreatDoorW.PrintLast Go.Proofs.YtnegfigaiomehaaGreatDoorW.PrintMore
attribute [local go_sem] max2_int min2_int max_two min_two max_three min_three max_four min_four
def cmp_Less_string.f (a0 : ByteArray) (a1 : ByteArray) : Option (Bool) := (cmp_isNaN_string.f a0).bind fun t193 => (if t193 = true then ((cmp_isNaN_string.f a1).bind fun t194 => (if t194 = true then (some (Op.bytesLess a0.toList a1.toList)) else (some true))) else (some (Op.bytesLess a0.toList a1.toList)))
set_option maxHeartbeats 8000000 in
set_option maxRecDepth 100000 in
theorem cmp_Less_string.calls (a0 : ByteArray) (a1 : ByteArray) (r : Bool) (w : World) (h : cmp_Less_string.f a0 a1 = some r) :
  Calls Tryz.prog 77 #[.string a0, .string a1] w fun e w' => e = .returned (.bool r) ∧ Drawn0 w w' := by
 have H : ((cmp_isNaN_string.f a0).bind fun t193 => (if t193 = true then ((cmp_isNaN_string.f a1).bind fun t194 => (if t194 = true then (some (Op.bytesLess a0.toList a1.toList)) else (some true))) else (some (Op.bytesLess a0.toList a1.toList)))) = some r := h
 clear h
 replace H := Option.bind_eq_some_iff.mp H
 obtain ⟨t193, A30, H⟩ := H
 replace H : (if t193 = true then ((cmp_isNaN_string.f a1).bind fun t194 => (if t194 = true then (some (Op.bytesLess a0.toList a1.toList)) else (some true))) else (some (Op.bytesLess a0.toList a1.toList))) = some r := H
 have A3 := Aside0.mk A30
 clear A30
 by_cases c4 : t193 = true
 ·subst c4
  have H1 : ((cmp_isNaN_string.f a1).bind fun t194 => (if t194 = true then (some (Op.bytesLess a0.toList a1.toList)) else (some true))) = some r := by rw [if_pos rfl] at H; exact H
  clear H
  have H := H1
  clear H1
  replace H := Option.bind_eq_some_iff.mp H
  obtain ⟨t194, A50, H⟩ := H
  replace H : (if t194 = true then (some (Op.bytesLess a0.toList a1.toList)) else (some true)) = some r := H
  have A5 := Aside0.mk A50
  clear A50
  by_cases c6 : t194 = true
  ·subst c6
   have H1 : (some (Op.bytesLess a0.toList a1.toList)) = some r := by rw [if_pos rfl] at H; exact H
   clear H
   have H := H1
   clear H1
   obtain rfl := Option.some.inj H
   go_enter Tryz.func77, Tryz.ntmps77
   go_wp2_with (first | ((with_reducible refine gate_callee (f := 105) rfl ?_); refine goesL_ (some 6) rfl rfl Tryz.func105 (by kernel_rfl) rfl #[.string a0] rfl (by (try simp only [List.map_toArray, List.map_cons, List.map_nil]); first | done | rfl | (simp only [List.length_drop, List.length_take]; rfl)) ?_; (with_reducible refine (cmp_isNaN_string.calls a0 true _ A3.out).mono ?_); rintro e w' ⟨rfl, ⟨nd, rfl⟩⟩; refine ⟨_, rfl, ?_⟩) | (go_at_call 105; (with_reducible refine (cmp_isNaN_string.calls a1 true _ A5.out).mono ?_); rintro e w' ⟨rfl, ⟨nd, rfl⟩⟩))
   go_ret
   exact ⟨by first | rfl | (simp; done) | (simp [*]; done), by repeat (first | exact Drawn0.refl _ | apply Drawn0.step)⟩
  ·replace c6 := Bool.eq_false_iff.mpr c6
   subst c6
   have H1 : (some true) = some r := by rw [if_neg (show ¬ (false = true) by decide)] at H; exact H
   clear H
   have H := H1
   clear H1
   obtain rfl := Option.some.inj H
   go_enter Tryz.func77, Tryz.ntmps77
   go_wp2_with (first | ((with_reducible refine gate_callee (f := 105) rfl ?_); refine goesL_ (some 6) rfl rfl Tryz.func105 (by kernel_rfl) rfl #[.string a0] rfl (by (try simp only [List.map_toArray, List.map_cons, List.map_nil]); first | done | rfl | (simp only [List.length_drop, List.length_take]; rfl)) ?_; (with_reducible refine (cmp_isNaN_string.calls a0 true _ A3.out).mono ?_); rintro e w' ⟨rfl, ⟨nd, rfl⟩⟩; refine ⟨_, rfl, ?_⟩) | (go_at_call 105; (with_reducible refine (cmp_isNaN_string.calls a1 false _ A5.out).mono ?_); rintro e w' ⟨rfl, ⟨nd, rfl⟩⟩))
   go_ret
   exact ⟨by first | rfl | (simp; done) | (simp [*]; done), by repeat (first | exact Drawn0.refl _ | apply Drawn0.step)⟩
 ·replace c4 := Bool.eq_false_iff.mpr c4
  subst c4
  have H1 : (some (Op.bytesLess a0.toList a1.toList)) = some r := by rw [if_neg (show ¬ (false = true) by decide)] at H; exact H
  clear H
  have H := H1
  clear H1
  obtain rfl := Option.some.inj H
  go_enter Tryz.func77, Tryz.ntmps77
  go_wp2_with (first | ((with_reducible refine gate_callee (f := 105) rfl ?_); refine goesL_ (some 6) rfl rfl Tryz.func105 (by kernel_rfl) rfl #[.string a0] rfl (by (try simp only [List.map_toArray, List.map_cons, List.map_nil]); first | done | rfl | (simp only [List.length_drop, List.length_take]; rfl)) ?_; (with_reducible refine (cmp_isNaN_string.calls a0 false _ A3.out).mono ?_); rintro e w' ⟨rfl, ⟨nd, rfl⟩⟩; refine ⟨_, rfl, ?_⟩))
  go_ret
  exact ⟨by first | rfl | (simp; done) | (simp [*]; done), by repeat (first | exact Drawn0.refl _ | apply Drawn0.step)⟩
end Go.Proofs.YtnegfigaiomehaaGreatDoor.P
end
section
namespace Go.Proofs.YtnegfigaiomehaaGreatDoor.P
open Go.RowKit Go.Proofs.YtnegfigaiomehaaGreatDoorW.PrintWords Go.Proofs.YtnegfigaiomehaaGreatDoorW.PrintLast Go.Proofs.YtnegfigaiomehaaGreatDoorW.PrintMore
attribute [local go_sem] max2_int min2_int max_two min_two max_three min_three max_four min_four
def slices_isNaN_string.f (a0 : ByteArray) : Option (Bool) := some (a0.toList != a0.toList)
set_option maxHeartbeats 8000000 in
set_option maxRecDepth 100000 in
theorem slices_isNaN_string.calls (a0 : ByteArray) (r : Bool) (w : World) (h : slices_isNaN_string.f a0 = some r) :
  Calls Tryz.prog 78 #[.string a0] w fun e w' => e = .returned (.bool r) ∧ Drawn0 w w' := by
 have H : (some (a0.toList != a0.toList)) = some r := h
 clear h
 obtain rfl := Option.some.inj H
 go_enter Tryz.func78, Tryz.ntmps78
 go_wp2
 go_ret
 exact ⟨by first | rfl | (simp; done) | (simp [*]; done), by repeat (first | exact Drawn0.refl _ | apply Drawn0.step)⟩
end Go.Proofs.YtnegfigaiomehaaGreatDoor.P
end
section
namespace Go.Proofs.YtnegfigaiomehaaGreatDoor.P
open Go.RowKit Go.Proofs.YtnegfigaiomehaaGreatDoorW.PrintWords Go.Proofs.YtnegfigaiomehaaGreatDoorW.PrintLast Go.Proofs.YtnegfigaiomehaaGreatDoorW.PrintMore
attribute [local go_sem] max2_int min2_int max_two min_two max_three min_three max_four min_four
def slices_BinarySearch_string_string.l0 : Nat → List ByteArray → ByteArray → Int → Int → Int → Option (Int × Bool)
 | 0, _, _, _, _, _ => none
 | k + 1, x0, x1, x6, x7, x8 => if x7 < x8 then (if 0 ≤ (wrap64 ((IntKind.u64.wrap (wrap64 (x7 + x8))) / 2)) then (if (wrap64 ((IntKind.u64.wrap (wrap64 (x7 + x8))) / 2)) < (x0.length : Int) then ((cmp_Less_string.f (rdOf ByteArray.empty x0 (wrap64 ((IntKind.u64.wrap (wrap64 (x7 + x8))) / 2))) x1).bind fun t328 => (if t328 = true then (slices_BinarySearch_string_string.l0 k x0 x1 x6 (wrap64 ((wrap64 ((IntKind.u64.wrap (wrap64 (x7 + x8))) / 2)) + 1)) x8) else (slices_BinarySearch_string_string.l0 k x0 x1 x6 x7 (wrap64 ((IntKind.u64.wrap (wrap64 (x7 + x8))) / 2))))) else (none)) else (none)) else (if x7 < x6 then (if 0 ≤ x7 then (if x7 < (x0.length : Int) then (if (rdOf ByteArray.empty x0 x7).toList = x1.toList then (some (x7, true)) else ((slices_isNaN_string.f (rdOf ByteArray.empty x0 x7)).bind fun t331 => (if t331 = true then ((slices_isNaN_string.f x1).bind fun t332 => (some (x7, t332))) else (some (x7, false))))) else (none)) else (none)) else (some (x7, false)))
def slices_BinarySearch_string_string.f (k : Nat) (l0 : List ByteArray) (a1 : ByteArray) : Option (Int × Bool) := slices_BinarySearch_string_string.l0 k l0 a1 (l0.length : Int) 0 (l0.length : Int)
theorem slices_BinarySearch_string_string.mono_l : ∀ k, (∀ y0 y1 y2 y3 y4, LeO (slices_BinarySearch_string_string.l0 k y0 y1 y2 y3 y4) (slices_BinarySearch_string_string.l0 (k + 1) y0 y1 y2 y3 y4))
 | 0 => fun _ _ _ _ _ r h => by simp [slices_BinarySearch_string_string.l0] at h
 | k + 1 => by
  have ih0 := slices_BinarySearch_string_string.mono_l k
  ·intro y0 y1 y2 y3 y4
   unfold slices_BinarySearch_string_string.l0
   repeat' first
   | (with_reducible exact ih0 _ _ _ _ _)
   | (with_reducible exact LeO.refl _)
   | (with_reducible exact LeO.none _)
   | (with_reducible refine LeO.ite ?_ ?_)
   | (with_reducible refine LeO.bind ?_ (fun _ => ?_))
   | exact ih0 _ _ _ _ _
   | exact LeO.none _
   | refine LeO.ite ?_ ?_
   | refine LeO.bind ?_ (fun _ => ?_)
theorem slices_BinarySearch_string_string.mono : ∀ a0 a1 k, LeO (slices_BinarySearch_string_string.f k a0 a1) (slices_BinarySearch_string_string.f (k + 1) a0 a1) := by
 intro a0 a1 k
 have ih0 := slices_BinarySearch_string_string.mono_l k
 unfold slices_BinarySearch_string_string.f
 repeat' first
   | (with_reducible exact ih0 _ _ _ _ _)
   | (with_reducible exact LeO.refl _)
   | (with_reducible exact LeO.none _)
   | (with_reducible refine LeO.ite ?_ ?_)
   | (with_reducible refine LeO.bind ?_ (fun _ => ?_))
   | exact ih0 _ _ _ _ _
   | exact LeO.none _
   | refine LeO.ite ?_ ?_
   | refine LeO.bind ?_ (fun _ => ?_)
set_option maxHeartbeats 8000000 in
set_option maxRecDepth 100000 in
theorem slices_BinarySearch_string_string.calls (k : Nat) (A0 : Option Addr) (c0 : Nat) (l0 : List ByteArray) (a1 : ByteArray) (r1 : Int) (r2 : Bool) (w : World) (hr0 : Kd.C Kd.string w A0 l0.length l0) (hc0 : l0.length ≤ c0) (h : slices_BinarySearch_string_string.f k l0 a1 = some (r1, r2)) :
  Calls Tryz.prog 50 #[.slice A0 l0.length c0, .string a1] w fun e w' => e = .returned (.tuple #[.int .i64 r1, .bool r2]) ∧ Drawn0 w w' := by
 have HR0 := Aside0.mk hr0
 have HC0 := Aside0.mk hc0
 clear hr0 hc0
 have H : (slices_BinarySearch_string_string.l0 k l0 a1 (l0.length : Int) 0 (l0.length : Int)) = some (r1, r2) := h
 clear h
 have H' := Aside0.mk H
 clear H
 go_enter Tryz.func50, Tryz.ntmps50
 go_wp2
 go_loopg [7, 8] k (fun kq v7 v8 w' => ∃ (x7_1 : Int) (x8_1 : Int), v7 = .int .i64 x7_1 ∧ v8 = .int .i64 x8_1 ∧ Aside0 (slices_BinarySearch_string_string.l0 kq l0 a1 (l0.length : Int) x7_1 x8_1 = some (r1, r2)) ∧ Aside0 (kq ≤ k) ∧ Drawn0 w w')
 case atStart => exact ⟨(0), ((l0.length : Int)), (by first | rfl | (simp; done) | (simp [*]; done)), (by first | rfl | (simp; done) | (simp [*]; done)), H', ⟨Nat.le_refl _⟩, by repeat (first | exact Drawn0.refl _ | apply Drawn0.step)⟩
 case round =>
  clear H'
  try clear p2
  obtain ⟨x7_1, x8_1, rfl, rfl, HA, HK1, ⟨m1, rfl⟩⟩ := hrel
  cases gk with
  | zero => exact absurd HA.out (by simp [slices_BinarySearch_string_string.l0])
  | succ k1 =>
   have H := HA.out
   clear HA
   simp only [slices_BinarySearch_string_string.l0] at H
   by_cases c3 : x7_1 < x8_1
   ·rw [if_pos c3] at H
    have c3b0 : decide (x7_1 < x8_1) = true := decide_eq_true c3
    clear c3
    obtain ⟨ji4, hji4⟩ : ∃ j_ : Int, (wrap64 ((IntKind.u64.wrap (wrap64 (x7_1 + x8_1))) / 2)) = j_ := ⟨_, rfl⟩
    replace H : (if 0 ≤ (ji4) then (if (ji4) < (l0.length : Int) then ((cmp_Less_string.f (rdOf ByteArray.empty l0 (ji4)) a1).bind fun t328 => (if t328 = true then (slices_BinarySearch_string_string.l0 k1 l0 a1 (l0.length : Int) (wrap64 ((ji4) + 1)) x8_1) else (slices_BinarySearch_string_string.l0 k1 l0 a1 (l0.length : Int) x7_1 ji4))) else (none)) else (none)) = some (r1, r2) := by first | (rw [hji4] at H; exact H) | (simp only [hji4] at H ⊢; exact H)
    have hji4w : (IntKind.i64.wrap ((IntKind.u64.wrap (wrap64 (x7_1 + x8_1))) / 2)) = ji4 := (i64_w _).trans hji4
    by_cases c5 : 0 ≤ (ji4)
    ·rw [if_pos c5] at H
     have c5b0 : decide (0 ≤ (ji4)) = true := decide_eq_true c5
     clear c5
     by_cases c6 : (ji4) < (l0.length : Int)
     ·rw [if_pos c6] at H
      have c6b0 : decide ((ji4) < (l0.length : Int)) = true := decide_eq_true c6
      clear c6
      replace H := Option.bind_eq_some_iff.mp H
      obtain ⟨t328, A70, H⟩ := H
      replace H : (if t328 = true then (slices_BinarySearch_string_string.l0 k1 l0 a1 (l0.length : Int) (wrap64 ((ji4) + 1)) x8_1) else (slices_BinarySearch_string_string.l0 k1 l0 a1 (l0.length : Int) x7_1 ji4)) = some (r1, r2) := H
      have A7 := Aside0.mk A70
      clear A70
      by_cases c8 : t328 = true
      ·subst c8
       have H1 : (slices_BinarySearch_string_string.l0 k1 l0 a1 (l0.length : Int) (wrap64 ((ji4) + 1)) x8_1) = some (r1, r2) := by rw [if_pos rfl] at H; exact H
       clear H
       have H := H1
       clear H1
       have H' := Aside0.mk H
       clear H
       have p327 : 0 ≤ ((ji4) : Int) := of_decide_eq_true (by first | (with_reducible assumption) | assumption)
       have q327 : (ji4) < (l0.length : Int) := of_decide_eq_true (by first | (with_reducible assumption) | assumption)
       obtain ⟨ad327, e327, hx327_0⟩ := Kd.at_string HR0.out (ji4) p327 q327
       cases e327
       replace p327 := eq_true p327
       replace q327 := eq_true q327
       go_wp2_with (first | ((with_reducible refine gate_callee (f := 77) rfl ?_); refine goesL_ (some 27) rfl rfl Tryz.func77 (by kernel_rfl) rfl #[.string (rdOf ByteArray.empty l0 (ji4)), .string a1] rfl (by (try simp only [List.map_toArray, List.map_cons, List.map_nil]); first | done | (simp only [hji4]; rfl) | rfl | (simp only [List.length_drop, List.length_take]; rfl)) ?_; (with_reducible refine (cmp_Less_string.calls (rdOf ByteArray.empty l0 (ji4)) a1 true _ A7.out).mono ?_); rintro e w' ⟨rfl, ⟨nd, rfl⟩⟩; refine ⟨_, rfl, ?_⟩))
       go_roundg k1
       case measure => have := HK1.out; omega
       case rel => exact ⟨(wrap64 ((ji4) + 1)), (x8_1), (by first | rfl | (simp; done) | (simp only [← hji4] <;> (first | rfl | simp)) | (simp [*]; done)), (by first | rfl | (simp; done) | (simp [*]; done)), H', ⟨by have := HK1.out; omega⟩, by repeat (first | exact Drawn0.refl _ | apply Drawn0.step)⟩
      ·replace c8 := Bool.eq_false_iff.mpr c8
       subst c8
       have H1 : (slices_BinarySearch_string_string.l0 k1 l0 a1 (l0.length : Int) x7_1 ji4) = some (r1, r2) := by rw [if_neg (show ¬ (false = true) by decide)] at H; exact H
       clear H
       have H := H1
       clear H1
       have H' := Aside0.mk H
       clear H
       have p327 : 0 ≤ ((ji4) : Int) := of_decide_eq_true (by first | (with_reducible assumption) | assumption)
       have q327 : (ji4) < (l0.length : Int) := of_decide_eq_true (by first | (with_reducible assumption) | assumption)
       obtain ⟨ad327, e327, hx327_0⟩ := Kd.at_string HR0.out (ji4) p327 q327
       cases e327
       replace p327 := eq_true p327
       replace q327 := eq_true q327
       go_wp2_with (first | ((with_reducible refine gate_callee (f := 77) rfl ?_); refine goesL_ (some 27) rfl rfl Tryz.func77 (by kernel_rfl) rfl #[.string (rdOf ByteArray.empty l0 (ji4)), .string a1] rfl (by (try simp only [List.map_toArray, List.map_cons, List.map_nil]); first | done | (simp only [hji4]; rfl) | rfl | (simp only [List.length_drop, List.length_take]; rfl)) ?_; (with_reducible refine (cmp_Less_string.calls (rdOf ByteArray.empty l0 (ji4)) a1 false _ A7.out).mono ?_); rintro e w' ⟨rfl, ⟨nd, rfl⟩⟩; refine ⟨_, rfl, ?_⟩))
       go_roundg k1
       case measure => have := HK1.out; omega
       case rel => exact ⟨(x7_1), (ji4), (by first | rfl | (simp; done) | (simp [*]; done)), (by first | rfl | (simp; done) | (simp only [← hji4] <;> (first | rfl | simp)) | (simp [*]; done)), H', ⟨by have := HK1.out; omega⟩, by repeat (first | exact Drawn0.refl _ | apply Drawn0.step)⟩
     ·rw [if_neg c6] at H
      exact absurd H (by simp)
    ·rw [if_neg c5] at H
     exact absurd H (by simp)
   ·rw [if_neg c3] at H
    have c3b0 : decide (x7_1 < x8_1) = false := decide_eq_false c3
    clear c3
    by_cases c9 : x7_1 < (l0.length : Int)
    ·rw [if_pos c9] at H
     have c9b0 : decide (x7_1 < (l0.length : Int)) = true := decide_eq_true c9
     clear c9
     by_cases c10 : 0 ≤ x7_1
     ·rw [if_pos c10] at H
      have c10b0 : decide (0 ≤ x7_1) = true := decide_eq_true c10
      clear c10
      by_cases c11 : x7_1 < (l0.length : Int)
      ·rw [if_pos c11] at H
       have c11b0 : decide (x7_1 < (l0.length : Int)) = true := decide_eq_true c11
       clear c11
       by_cases c12 : (rdOf ByteArray.empty l0 x7_1).toList = a1.toList
       ·rw [if_pos c12] at H
        have c12b0 : ((rdOf ByteArray.empty l0 x7_1).toList == a1.toList) = true := beq_iff_eq.mpr c12
        have c12b1 : ((rdOf ByteArray.empty l0 x7_1).toList != a1.toList) = false := bne_eq_false_iff_eq.mpr c12
        clear c12
        simp only [Option.some.injEq, Prod.mk.injEq] at H
        obtain ⟨rfl, rfl⟩ := H
        have p329 : 0 ≤ (x7_1 : Int) := of_decide_eq_true (by first | (with_reducible assumption) | assumption)
        have q329 : x7_1 < (l0.length : Int) := of_decide_eq_true (by first | (with_reducible assumption) | assumption)
        obtain ⟨ad329, e329, hx329_0⟩ := Kd.at_string HR0.out x7_1 p329 q329
        cases e329
        replace p329 := eq_true p329
        replace q329 := eq_true q329
        go_wp2
        go_ret2
        exact ⟨by first | rfl | (simp; done) | (simp [*]; done), by repeat (first | exact Drawn0.refl _ | apply Drawn0.step)⟩
       ·rw [if_neg c12] at H
        have c12b0 : ((rdOf ByteArray.empty l0 x7_1).toList == a1.toList) = false := beq_eq_false_iff_ne.mpr c12
        have c12b1 : ((rdOf ByteArray.empty l0 x7_1).toList != a1.toList) = true := bne_iff_ne.mpr c12
        replace H := Option.bind_eq_some_iff.mp H
        obtain ⟨t331, A130, H⟩ := H
        replace H : (if t331 = true then ((slices_isNaN_string.f a1).bind fun t332 => (some (x7_1, t332))) else (some (x7_1, false))) = some (r1, r2) := H
        have A13 := Aside0.mk A130
        clear A130
        by_cases c14 : t331 = true
        ·subst c14
         have H1 : ((slices_isNaN_string.f a1).bind fun t332 => (some (x7_1, t332))) = some (r1, r2) := by rw [if_pos rfl] at H; exact H
         clear H
         have H := H1
         clear H1
         replace H := Option.bind_eq_some_iff.mp H
         obtain ⟨t332, A150, H⟩ := H
         replace H : (some (x7_1, t332)) = some (r1, r2) := H
         have A15 := Aside0.mk A150
         clear A150
         simp only [Option.some.injEq, Prod.mk.injEq] at H
         obtain ⟨rfl, rfl⟩ := H
         have p329 : 0 ≤ (x7_1 : Int) := of_decide_eq_true (by first | (with_reducible assumption) | assumption)
         have q329 : x7_1 < (l0.length : Int) := of_decide_eq_true (by first | (with_reducible assumption) | assumption)
         obtain ⟨ad329, e329, hx329_0⟩ := Kd.at_string HR0.out x7_1 p329 q329
         cases e329
         replace p329 := eq_true p329
         replace q329 := eq_true q329
         have p330 : 0 ≤ (x7_1 : Int) := of_decide_eq_true (by first | (with_reducible assumption) | assumption)
         have q330 : x7_1 < (l0.length : Int) := of_decide_eq_true (by first | (with_reducible assumption) | assumption)
         obtain ⟨ad330, e330, hx330_0⟩ := Kd.at_string HR0.out x7_1 p330 q330
         obtain rfl : ad329 = ad330 := (by injection e330)
         replace p330 := eq_true p330
         replace q330 := eq_true q330
         go_wp2_with (first | (go_at_call 78; (with_reducible refine (slices_isNaN_string.calls (rdOf ByteArray.empty l0 x7_1) true _ A13.out).mono ?_); rintro e w' ⟨rfl, ⟨nd, rfl⟩⟩) | (go_at_call 78; (with_reducible refine (slices_isNaN_string.calls a1 t332 _ A15.out).mono ?_); rintro e w' ⟨rfl, ⟨nd, rfl⟩⟩))
         go_ret2
         exact ⟨by first | rfl | (simp; done) | (simp [*]; done), by repeat (first | exact Drawn0.refl _ | apply Drawn0.step)⟩
        ·replace c14 := Bool.eq_false_iff.mpr c14
         subst c14
         have H1 : (some (x7_1, false)) = some (r1, r2) := by rw [if_neg (show ¬ (false = true) by decide)] at H; exact H
         clear H
         have H := H1
         clear H1
         simp only [Option.some.injEq, Prod.mk.injEq] at H
         obtain ⟨rfl, rfl⟩ := H
         have p329 : 0 ≤ (x7_1 : Int) := of_decide_eq_true (by first | (with_reducible assumption) | assumption)
         have q329 : x7_1 < (l0.length : Int) := of_decide_eq_true (by first | (with_reducible assumption) | assumption)
         obtain ⟨ad329, e329, hx329_0⟩ := Kd.at_string HR0.out x7_1 p329 q329
         cases e329
         replace p329 := eq_true p329
         replace q329 := eq_true q329
         have p330 : 0 ≤ (x7_1 : Int) := of_decide_eq_true (by first | (with_reducible assumption) | assumption)
         have q330 : x7_1 < (l0.length : Int) := of_decide_eq_true (by first | (with_reducible assumption) | assumption)
         obtain ⟨ad330, e330, hx330_0⟩ := Kd.at_string HR0.out x7_1 p330 q330
         obtain rfl : ad329 = ad330 := (by injection e330)
         replace p330 := eq_true p330
         replace q330 := eq_true q330
         go_wp2_with (first | (go_at_call 78; (with_reducible refine (slices_isNaN_string.calls (rdOf ByteArray.empty l0 x7_1) false _ A13.out).mono ?_); rintro e w' ⟨rfl, ⟨nd, rfl⟩⟩))
         go_ret2
         exact ⟨by first | rfl | (simp; done) | (simp [*]; done), by repeat (first | exact Drawn0.refl _ | apply Drawn0.step)⟩
      ·rw [if_neg c11] at H
       exact absurd H (by simp)
     ·rw [if_neg c10] at H
      exact absurd H (by simp)
    ·rw [if_neg c9] at H
     have c9b0 : decide (x7_1 < (l0.length : Int)) = false := decide_eq_false c9
     clear c9
     simp only [Option.some.injEq, Prod.mk.injEq] at H
     obtain ⟨rfl, rfl⟩ := H
     go_wp2
     go_ret2
     exact ⟨by first | rfl | (simp; done) | (simp [*]; done), by repeat (first | exact Drawn0.refl _ | apply Drawn0.step)⟩
end Go.Proofs.YtnegfigaiomehaaGreatDoor.P
end
section
namespace Go.Proofs.YtnegfigaiomehaaGreatDoor.Tp
open Go.RowKit Go.Lib Go.Shelf Go.Maps Go.Proofs.YtnegfigaiomehaaGreatDoorW.PrintWords Go.Proofs.YtnegfigaiomehaaGreatDoorW.PrintLast Go.Proofs.YtnegfigaiomehaaGreatDoorW.PrintMore Go.Proofs.YtnegfigaiomehaaGreatDoor.U Go.Proofs.YtnegfigaiomehaaGreatDoor.P Go.Proofs.YtnegfigaiomehaaGreatDoor.MapV Go.Proofs.YtnegfigaiomehaaGreatDoor.Ck
set_option maxRecDepth 100000 in
set_option maxHeartbeats 4000000 in
theorem Outs_any (p : Nat) (es : List EdgeL) (w : World) (h : MakersAt w p es) :
  Calls Tryz.prog 45 #[ptr p] w fun e w' => ∃ (v : Value) (r : List Txt), e = .returned v ∧ (∀ k, k ∈ r ↔ (makerL es k).isSome = true) ∧ r.length ≤ 1000000 ∧ Kd.R Kd.string 9 w' w.heap.size (fun _ => True) v (r.map B) ∧ Below w.heap.size w w' := by
 obtain ⟨v0, v1, v3, mb, n, hb, hn, hm⟩ := h
 have c2 := (cell_of_heap (j := 2) hb).trans rfl
 have hK := Lib.hid (KeysS_call (some mb) w)
 have hL := Lib.hid (SortedS_any mb n es w hm hn)
 clear hb hm
 unfold ptr
 go_enter Tryz.func45, Tryz.ntmps45
 go_wp2_with fail
 refine hK.out.mono ?_
 rintro e w2 ⟨rfl, rfl⟩
 go_wp2_with fail
 refine hL.out.mono ?_
 rintro e w3 ⟨v', rr, rfl, hmem, hlen, hRR, hb⟩
 have hmemH := Lib.hid hmem
 have hRRH := Lib.hid hRR
 have hbH := Lib.hid hb
 clear hmem hRR hb
 go_wp2_with fail
 go_ret
 exact ⟨v', rr, rfl, hmemH.out, by omega, hRRH.out, hbH.out⟩
theorem B_list (a : Txt) : (B a).toList = a := toList_B a
theorem less_f (a b : Txt) : cmp_Less_string.f (B a) (B b) = some (decide (a < b)) := by
 unfold cmp_Less_string.f cmp_isNaN_string.f
 simp [B_list, bytesLess_eq]
theorem half (i j : Nat) (h : i + j ≤ 4000000) : Hid (wrap64 ((IntKind.u64.wrap (wrap64 ((i : Int) + (j : Int)))) / 2) = (((i + j) / 2 : Nat) : Int)) := by
 show _ = _
 have h1 : wrap64 ((i : Int) + (j : Int)) = ((i + j : Nat) : Int) := (wrapH2 i j (by omega)).out
 rw [h1]
 have h2 : IntKind.u64.wrap ((i + j : Nat) : Int) = ((i + j : Nat) : Int) := by
  simp [IntKind.wrap, IntKind.bits, IntKind.signed]; omega
 rw [h2]
 have h3 : ((i + j : Nat) : Int) / 2 = (((i + j) / 2 : Nat) : Int) := by omega
 rw [h3, wrap_id _ (by omega) (by omega)]
theorem rd_l (l : List Txt) (i : Nat) (h : i < l.length) : rdOf ByteArray.empty (l.map B) (i : Int) = B l[i] := by
 unfold rdOf
 rw [Int.toNat_natCast, List.getD_eq_getElem?_getD, List.getElem?_map, List.getElem?_eq_getElem h]; rfl
theorem search_go (l : List Txt) (t : Txt) (hs : l.Pairwise (· ≤ ·)) (hn : l.length ≤ 1000000) : ∀ (d i j : Nat), j - i ≤ d → i ≤ j → j ≤ l.length → (∀ q (h : q < l.length), q < i → l[q] < t) → (∀ q (h : q < l.length), j ≤ q → t ≤ l[q]) →
  ∃ k r, slices_BinarySearch_string_string.l0 k (l.map B) (B t) (l.length : Int) (i : Int) (j : Int) = some (r, decide (t ∈ l)) := by
 intro d
 have tr : ∀ {a b c : Txt}, a ≤ b → b < c → a < c := fun h1 h2 => List.lt_of_le_of_lt h1 h2
 have pw : ∀ a b (ha : a < l.length) (hb : b < l.length), a < b → l[a] ≤ l[b] := fun a b ha hb hab => List.pairwise_iff_getElem.1 hs a b ha hb hab
 have fin : ∀ i : Nat, i ≤ l.length → (∀ q (h : q < l.length), q < i → l[q] < t) → (∀ q (h : q < l.length), i ≤ q → t ≤ l[q]) → ∃ k r, slices_BinarySearch_string_string.l0 k (l.map B) (B t) (l.length : Int) (i : Int) (i : Int) = some (r, decide (t ∈ l)) := by
  intro i hi h1 h2
  refine ⟨1, (i : Int), ?_⟩
  have n0 : ¬ (i : Int) < (i : Int) := by omega
  rw [slices_BinarySearch_string_string.l0, if_neg n0, List.length_map]
  by_cases hil : i < l.length
  ·rw [if_pos (by omega), if_pos (by omega), if_pos (by omega), rd_l l i hil, B_list, B_list]
   by_cases he : l[i] = t
   ·rw [if_pos he]
    have : t ∈ l := he ▸ List.getElem_mem hil
    simp [this]
   ·rw [if_neg he]
    have hno : t ∉ l := by
     intro hm
     obtain ⟨q, hq, e⟩ := List.mem_iff_getElem.1 hm
     rcases Nat.lt_or_ge q i with hqi | hqi
     ·have := h1 q hq hqi
      rw [e] at this
      exact List.lt_irrefl _ this
     ·rcases Nat.lt_or_eq_of_le hqi with hqi | hqi
      ·have a1 := pw i q hil hq hqi
       rw [e] at a1
       exact he (List.le_antisymm a1 (h2 i hil (Nat.le_refl _)))
      ·subst hqi; exact he e
    unfold slices_isNaN_string.f
    simp [hno]
  ·rw [if_neg (by omega)]
   have hno : t ∉ l := by
    intro hm
    obtain ⟨q, hq, e⟩ := List.mem_iff_getElem.1 hm
    have := h1 q hq (by omega)
    rw [e] at this
    exact List.lt_irrefl _ this
   simp [hno]
 induction d with
 | zero =>
  intro i j hd hij hj h1 h2
  obtain rfl : i = j := by omega
  exact fin i hj h1 h2
 | succ d ih =>
  intro i j hd hij hj h1 h2
  by_cases he : i = j
  ·subst he; exact fin i hj h1 h2
  have hh := half i j (by omega)
  have m1 : i ≤ (i + j) / 2 := by omega
  have m2 : (i + j) / 2 < j := by omega
  obtain ⟨m, hm⟩ : ∃ m, (i + j) / 2 = m := ⟨_, rfl⟩
  rw [hm] at hh m1 m2
  have hml : m < l.length := by omega
  have hw := wrapH m (by omega)
  by_cases hl : l[m] < t
  ·obtain ⟨k, r, hk⟩ := ih (m + 1) j (by omega) (by omega) hj (fun q hq hqm => by
    rcases Nat.lt_or_eq_of_le (Nat.le_of_lt_succ hqm) with h3 | h3
    ·exact tr (pw q m hq hml h3) hl
    ·subst h3; exact hl) h2
   refine ⟨k + 1, r, ?_⟩
   rw [slices_BinarySearch_string_string.l0, if_pos (by omega), hh.out, if_pos (by omega), List.length_map, if_pos (by omega), rd_l l m hml, less_f, Option.bind_some, if_pos (by simp [hl]), hw.out]
   exact hk
  ·obtain ⟨k, r, hk⟩ := ih i m (by omega) m1 (by omega) h1 (fun q hq hqm => by
    have hge : t ≤ l[m] := List.not_lt.1 hl
    rcases Nat.lt_or_eq_of_le hqm with h3 | h3
    ·exact List.le_trans hge (pw m q hml hq h3)
    ·subst h3; exact hge)
   refine ⟨k + 1, r, ?_⟩
   rw [slices_BinarySearch_string_string.l0, if_pos (by omega), hh.out, if_pos (by omega), List.length_map, if_pos (by omega), rd_l l m hml, less_f, Option.bind_some, if_neg (by simp [hl])]
   exact hk
theorem Search_any (v : Value) (l : List Txt) (t : Txt) (w : World) (h : Str w v l) (hs : l.Pairwise (· ≤ ·)) (hn : l.length ≤ 1000000) :
  Calls Tryz.prog 50 #[v, .string (B t)] w fun e w' => ∃ r : Int, e = .returned (.tuple #[.int .i64 r, .bool (decide (t ∈ l))]) ∧ Below w.heap.size w w' := by
 obtain ⟨A, c, rfl, hc, hC⟩ := h
 obtain ⟨k, r, hk⟩ := search_go l t hs hn l.length 0 l.length (by omega) (by omega) (Nat.le_refl _) (fun q h h' => absurd h' (Nat.not_lt_zero _)) (fun q h h' => by omega)
 have := slices_BinarySearch_string_string.calls k A c (l.map B) (B t) r (decide (t ∈ l)) w (by rw [List.length_map]; exact hC) (by rw [List.length_map]; exact hc) (by
  unfold slices_BinarySearch_string_string.f
  rw [List.length_map]
  exact hk)
 rw [List.length_map] at this
 refine this.mono ?_
 rintro e w' ⟨rfl, hd⟩
 exact ⟨r, rfl, hd.below⟩
end Go.Proofs.YtnegfigaiomehaaGreatDoor.Tp
end
section
namespace Go.Proofs.YtnegfigaiomehaaGreatDoor.Tp
open Go.RowKit Go.Lib Go.Shelf Go.Maps Go.Sort Go.Proofs.YtnegfigaiomehaaGreatDoorW.PrintWords Go.Proofs.YtnegfigaiomehaaGreatDoorW.PrintLast Go.Proofs.YtnegfigaiomehaaGreatDoorW.PrintMore Go.Proofs.YtnegfigaiomehaaGreatDoor.U Go.Proofs.YtnegfigaiomehaaGreatDoor.P Go.Proofs.YtnegfigaiomehaaGreatDoor.MapV Go.Proofs.YtnegfigaiomehaaGreatDoor.Ck
def Own (w : World) (base : Nat) (v : Value) (l : List Txt) : Prop := w.ownsRow base 9 1 v l.length (l.map encStr)
theorem own_R {w : World} {base : Nat} {v : Value} {l : List Txt} (h : Own w base v l) : Kd.R Kd.string 9 w base (fun _ => True) v (l.map B) := by
 refine Kd.R_of_own (enc := Value.string) ?_ (fun _ _ => trivial)
 have e2 : encs Value.string (l.map B) = l.map encStr := by simp [encs, Function.comp_def, encStr, B]
 rw [List.length_map, e2]
 exact h
theorem R_own' {w : World} {base : Nat} {ok : Nat → Prop} {v : Value} {l : List Txt} (h : Kd.R Kd.string 9 w base ok v (l.map B)) : Own w base v l := by
 obtain ⟨_, inner, ho, hr⟩ := h
 have := reps_str2 (fun _ _ h => h) _ _ hr
 rw [this, List.length_map, List.map_map] at ho
 exact ho
theorem SortT_any (v : Value) (l : List Txt) (base : Nat) (w : World) (h : Own w base v l) (hl : l.length ≤ 1000000) :
  Calls Tryz.prog 75 #[v] w fun e w' => e = .returned (.tuple #[]) ∧ Own w' base v (l.mergeSort fun x y => decide (x ≤ y)) ∧ w.grownBy w' v.ownBlock := by
 have hlen : (l.mergeSort fun x y => decide (x ≤ y)).length = l.length := (List.mergeSort_perm l _).length_eq
 rcases h.2 with ⟨rfl, hn⟩ | ⟨g, cap, cur, rfl, hbase, hb, h1, h2, h3, h4⟩
 ·have hnil : l = [] := by
   have := h.1
   cases l with
   | nil => rfl
   | cons a l => simp at hn
  subst hnil
  refine (Tryz.slices_Sort_string_none none 0 w).mono ?_
  rintro e w' ⟨rfl, rfl⟩
  refine ⟨rfl, ?_, World.grownBy.refl _ _⟩
  simpa using h
 ·rw [Nat.mul_one] at h4
  refine (Tryz.slices_Sort_string g 0 cap l w (holds_of_block hb h4) (lt_blk hb) (by omega)).mono ?_
  rintro e w' ⟨rfl, n, os, rfl⟩
  refine ⟨rfl, ?_, grownBy_sorted _⟩
  unfold Own
  rw [hlen]
  exact ownsRow_sorted hlen hbase hb h1 h2 (by rw [h3])
theorem compact_go (d : Array Txt) : ∀ m, (∀ x, x ∈ compactUpTo d m ↔ ∃ j, j < m ∧ d[j]! = x) ∧ ((∀ i j, i < j → j < m → d[i]! ≤ d[j]!) → (compactUpTo d m).Pairwise (· ≤ ·))
 | 0 => ⟨fun x => by simp [compactUpTo], fun _ => by simp [compactUpTo]⟩
 | m + 1 => by
  obtain ⟨h1, h2⟩ := compact_go d m
  rw [compactUpTo_succ]
  constructor
  ·intro x
   rw [List.mem_append, h1]
   constructor
   ·rintro (⟨j, hj, rfl⟩ | hx)
    ·exact ⟨j, by omega, rfl⟩
    ·by_cases hk : keeps d m = true
     ·rw [if_pos hk, List.mem_singleton] at hx; exact ⟨m, by omega, hx.symm⟩
     ·rw [if_neg hk] at hx; simp at hx
   ·rintro ⟨j, hj, rfl⟩
    rcases Nat.lt_or_eq_of_le (Nat.le_of_lt_succ hj) with h3 | rfl
    ·exact .inl ⟨j, h3, rfl⟩
    ·by_cases hk : keeps d j = true
     ·rw [if_pos hk]; exact .inr (by simp)
     ·left
      unfold keeps at hk
      simp at hk
      exact ⟨j - 1, by omega, by simpa using hk.2.symm⟩
  ·intro hs
   rw [List.pairwise_append]
   refine ⟨h2 fun i j hij hj => hs i j hij (by omega), by split <;> simp, fun a ha b hb => ?_⟩
   obtain ⟨j, hj, rfl⟩ := (h1 a).1 ha
   by_cases hk : keeps d m = true
   ·rw [if_pos hk, List.mem_singleton] at hb
    subst hb
    exact hs j m hj (by omega)
   ·rw [if_neg hk] at hb; simp at hb
theorem mem_compact (l : List Txt) (x : Txt) : x ∈ Lib.compact l ↔ x ∈ l := by
 have := (compact_go l.toArray l.length).1 x
 have e : Lib.compact l = compactUpTo l.toArray l.length := by first | rfl | simp [Lib.compact]
 rw [e, this, List.mem_iff_getElem]
 constructor
 ·rintro ⟨j, hj, rfl⟩
  exact ⟨j, hj, by simp [hj]⟩
 ·rintro ⟨j, hj, rfl⟩
  exact ⟨j, hj, by simp [hj]⟩
theorem sorted_compact (l : List Txt) (h : l.Pairwise (· ≤ ·)) : (Lib.compact l).Pairwise (· ≤ ·) := by
 have e : Lib.compact l = compactUpTo l.toArray l.length := by first | rfl | simp [Lib.compact]
 rw [e]
 refine (compact_go l.toArray l.length).2 fun i j hij hj => ?_
 have := List.pairwise_iff_getElem.1 h i j (by omega) hj hij
 simpa [hj, Nat.lt_trans hij hj] using this
theorem CompactT_any (v : Value) (l : List Txt) (base : Nat) (w : World) (h : Own w base v l) (hl : l.length ≤ 1000000) :
  Calls Tryz.prog 76 #[v] w fun e w' => ∃ v', e = .returned v' ∧ Own w' base v' (Lib.compact l) ∧ w.grownBy w' v.ownBlock := by
 have hcl := Lib.compact_length_le l
 rcases h.2 with ⟨rfl, hn⟩ | ⟨g, cap, cur, rfl, hbase, hb, h1, h2, h3, h4⟩
 ·have hnil : l = [] := by
   cases l with
   | nil => rfl
   | cons a l => simp at hn
  subst hnil
  refine (Tryz.slices_Compact_string_empty none 0 w).mono ?_
  rintro e w' ⟨rfl, rfl⟩
  refine ⟨_, rfl, ?_, World.grownBy.refl _ _⟩
  have e0 : Lib.compact ([] : List Txt) = [] := by first | rfl | simp [Lib.compact, compactUpTo]
  rw [e0]; exact h
 ·rw [Nat.mul_one] at h4
  refine (Tryz.slices_Compact_string g 0 cap l w (holds_of_block hb h4) (by omega) h1).mono ?_
  rintro e w' ⟨rfl, q, rfl⟩
  generalize hr : List.replicate (l.length - (Lib.compact l).length) ([] : Txt) = R
  have hrl : (Lib.compact l ++ R).length = l.length := by rw [List.length_append, ← hr, List.length_replicate]; omega
  have hs := heap_sorted (n := q) (os := #[]) (Lib.compact l ++ R).toArray hb
  rw [grow_empty] at hs
  have hg := grownBy_sorted (w := w) (g := g) (n := q) (os := #[]) (Lib.compact l ++ R).toArray
  rw [grow_empty] at hg
  refine ⟨_, rfl, ⟨by simp, .inr ⟨g, cap, _, rfl, hbase, hs, by omega, h2, by simp [putCells, h3], ?_⟩⟩, hg⟩
  rw [Nat.mul_one]
  have ht := take_putCells cur (Lib.compact l ++ R) (by rw [hrl]; omega)
  have h5 : ((putCells encStr 0 (Lib.compact l ++ R).toArray cur).toList.take (Lib.compact l ++ R).length).take (Lib.compact l).length = ((Lib.compact l ++ R).map encStr).take (Lib.compact l).length := by rw [ht]
  rw [List.take_take, Nat.min_eq_left (by simp)] at h5
  rw [h5, List.map_append, List.take_append_of_le_length (by simp), List.take_of_length_le (by simp)]
end Go.Proofs.YtnegfigaiomehaaGreatDoor.Tp
end
section
namespace Go.Proofs.YtnegfigaiomehaaGreatDoor.Tp
open Go.RowKit Go.Lib Go.Shelf Go.Maps Go.Proofs.YtnegfigaiomehaaGreatDoorW.PrintWords Go.Proofs.YtnegfigaiomehaaGreatDoorW.PrintLast Go.Proofs.YtnegfigaiomehaaGreatDoorW.PrintMore Go.Proofs.YtnegfigaiomehaaGreatDoor.U Go.Proofs.YtnegfigaiomehaaGreatDoor.P Go.Proofs.YtnegfigaiomehaaGreatDoor.MapV Go.Proofs.YtnegfigaiomehaaGreatDoor.Ck
theorem edge_at {w : World} {A : Option Addr} {es : List EdgeL} {n : Nat} (hn : es.length = n) (h : Kd.C KE w A n (es.map toE)) (i : Nat) (hi : i < es.length) : ∃ ad A0 c0 A1 c1 A2 c2 A3 c3, A = some ad ∧
  w.cell? (ad.add (i * 6)) = some (.slice A0 es[i].outs.length c0) ∧ w.cell? ⟨(ad.add (i * 6)).block, (ad.add (i * 6)).off + 1, none⟩ = some (.slice A1 es[i].ins.length c1) ∧ w.cell? ⟨(ad.add (i * 6)).block, (ad.add (i * 6)).off + 2, none⟩ = some (.slice A2 es[i].imp.length c2) ∧ w.cell? ⟨(ad.add (i * 6)).block, (ad.add (i * 6)).off + 3, none⟩ = some (.slice A3 es[i].ord.length c3) ∧
  w.cell? ⟨(ad.add (i * 6)).block, (ad.add (i * 6)).off + 4, none⟩ = some (.string (B es[i].cmd)) ∧ w.cell? ⟨(ad.add (i * 6)).block, (ad.add (i * 6)).off + 5, none⟩ = some (.string (B es[i].dep)) ∧
  EdgeAt w [.slice A0 es[i].outs.length c0, .slice A1 es[i].ins.length c1, .slice A2 es[i].imp.length c2, .slice A3 es[i].ord.length c3, .string (B es[i].cmd), .string (B es[i].dep)] es[i] := by
 subst hn
 have hlen : (es.map toE).length = es.length := List.length_map ..
 obtain ⟨ad, A0, c0, A1, c1, A2, c2, A3, c3, rfl, k0, k1, k2, k3, k4, k5, l0, g0, l1, g1, l2, g2, l3, g3⟩ := at_T35 h (i : Int) (by omega) (by omega)
 have hx : rd_T35 (es.map toE) (i : Int) = toE es[i] := by
  show (es.map toE).getD (i : Int).toNat _ = _
  rw [Int.toNat_natCast, List.getD_eq_getElem?_getD, List.getElem?_map, List.getElem?_eq_getElem hi]; rfl
 rw [Int.toNat_natCast] at k0 k1 k2 k3 k4 k5
 rw [hx] at k0 k1 k2 k3 k4 k5 l0 g0 l1 g1 l2 g2 l3 g3
 simp only [toE, List.length_map] at k0 k1 k2 k3 k4 k5 l0 g0 l1 g1 l2 g2 l3 g3
 exact ⟨ad, A0, c0, A1, c1, A2, c2, A3, c3, rfl, k0, k1, k2, k3, k4, k5, _, _, _, _, rfl, ⟨A0, c0, rfl, l0, g0⟩, ⟨A1, c1, rfl, l1, g1⟩, ⟨A2, c2, rfl, l2, g2⟩, ⟨A3, c3, rfl, l3, g3⟩⟩
def allNeeds (es : List EdgeL) : List Txt := es.flatMap needsL
def usedRow (es : List EdgeL) : List Txt := Lib.compact ((allNeeds es).mergeSort fun x y => decide (x ≤ y))
theorem leB_pairwise (l : List Txt) : (l.mergeSort fun x y => decide (x ≤ y)).Pairwise (· ≤ ·) := by
 have tr : ∀ a b c : List UInt8, decide (a ≤ b) = true → decide (b ≤ c) = true → decide (a ≤ c) = true := fun a b c h1 h2 => by simp only [decide_eq_true_eq] at *; exact List.le_trans h1 h2
 have tot : ∀ a b : List UInt8, (decide (a ≤ b) || decide (b ≤ a)) = true := fun a b => by simp only [Bool.or_eq_true, decide_eq_true_eq]; exact List.le_total a b
 exact (List.pairwise_mergeSort tr tot l).imp (fun h => by simpa using h)
theorem mem_usedRow (es : List EdgeL) (f : Txt) : f ∈ usedRow es ↔ ∃ e ∈ es, f ∈ needsL e := by
 unfold usedRow allNeeds
 rw [mem_compact, (List.mergeSort_perm _ _).mem_iff, List.mem_flatMap]
theorem usedRow_sorted (es : List EdgeL) : (usedRow es).Pairwise (· ≤ ·) := sorted_compact _ (leB_pairwise _)
theorem allNeeds_take (es : List EdgeL) (i : Nat) (h : i < es.length) : allNeeds (es.take (i + 1)) = allNeeds (es.take i) ++ needsL es[i] := by
 unfold allNeeds
 rw [List.take_succ_eq_append_getElem h, List.flatMap_append]; simp
theorem allNeeds_len (es : List EdgeL) (h : ∀ e ∈ es, (needsL e).length ≤ 1000) : (allNeeds es).length ≤ 1000 * es.length := by
 induction es with
 | nil => simp [allNeeds]
 | cons e es ih =>
  have h1 := ih fun e he => h e (by simp [he])
  have h2 := h e (by simp)
  unfold allNeeds at h1 ⊢
  rw [List.flatMap_cons, List.length_append, List.length_cons]; omega
set_option maxRecDepth 100000 in
set_option maxHeartbeats 8000000 in
theorem used_any (p : Nat) (es : List EdgeL) (defs : List Txt) (w : World) (hG : GraphAt w p es defs) (hE : es.length ≤ 100) (hN : ∀ e ∈ es, (needsL e).length ≤ 1000) :
  Calls Tryz.prog 47 #[ptr p] w fun e w' => ∃ v, e = .returned v ∧ Own w' w.heap.size v (usedRow es) ∧ Below w.heap.size w w' := by
 have hGH := Lib.hid hG
 have hNH := Lib.hid hN
 obtain ⟨A0, c0, A1, c1, mb, A3, c3, hb, ⟨_, hC⟩, _⟩ := hG.blk
 have x0 := (cell_of_heap (j := 0) hb).trans rfl
 have hCH := Lib.hid hC
 have hbH := Lib.hid hb
 obtain ⟨n, hn⟩ : ∃ n, es.length = n := ⟨_, rfl⟩
 have hnH := Lib.hid hn
 rw [hn] at x0 hE
 clear hG hN hb hC hn
 unfold ptr
 go_enter Tryz.func47, Tryz.ntmps47
 go_wp2_with fail
 clear x0
 go_loopg [3, 12] n (fun gk s3 s12 wr => ∃ i : Nat, s12 = .int .i64 (i : Int) ∧ i + gk = n ∧ Hid (Kd.R Kd.string 9 wr w.heap.size (fun _ => True) s3 ((allNeeds (es.take i)).map B)) ∧ Hid (Below w.heap.size w wr))
 case atStart => exact ⟨0, rfl, Nat.zero_add _, Lib.hid (Kd.R_nil _ _ _ _ _), Lib.hid (Below.refl _ _)⟩
 case round =>
  obtain ⟨i, rfl, hik, hR, hB⟩ := hrel
  cases gk with
  | zero =>
   obtain rfl : i = n := by omega
   have hlt : decide ((i : Int) < (i : Int)) = false := by simp
   have hO : Hid (Own wr w.heap.size u3 (allNeeds es)) := by
    have := R_own' hR.out
    rw [List.take_of_length_le (by rw [hnH.out]; exact Nat.le_refl _)] at this
    exact Lib.hid this
   have hal := allNeeds_len es hNH.out
   rw [hnH.out] at hal
   have hS := Lib.hid (SortT_any u3 (allNeeds es) w.heap.size wr hO.out (by omega))
   have hown : Hid (∀ k, u3.ownBlock = some k → w.heap.size ≤ k) := Lib.hid (fun k hk => (World.ownsRow.lt hO.out k hk).1)
   go_wp2_with fail
   refine hS.out.mono ?_
   rintro e w2 ⟨rfl, ho, hg⟩
   have hl2 : ((allNeeds es).mergeSort fun x y => decide (x ≤ y)).length = (allNeeds es).length := (List.mergeSort_perm _ _).length_eq
   have hK := Lib.hid (CompactT_any u3 _ w.heap.size w2 ho (by rw [hl2]; omega))
   have hB2 := Lib.hid (hB.out.grown hg hB.out.size hown.out)
   clear ho hg hl2
   go_wp2_with fail
   refine hK.out.mono ?_
   rintro e w3 ⟨v', rfl, ho, hg⟩
   have hoH := Lib.hid ho
   have hB3 := Lib.hid (hB2.out.grown hg hB2.out.size hown.out)
   clear ho hg
   go_wp2_with fail
   go_ret
   exact ⟨v', rfl, hoH.out, hB3.out⟩
  | succ gk =>
   have hi : i < es.length := by rw [hnH.out]; omega
   have hlt : decide ((i : Int) < (n : Int)) = true := by rw [decide_eq_true_iff]; omega
   have i1 : (0 : Int) ≤ (i : Int) := by omega
   have i2 : (i : Int) < (n : Int) := by omega
   obtain ⟨ad, a0, d0, a1, d1, a2, d2, a3, d3, hA, k0, k1, k2, k3, k4, k5, hed⟩ := edge_at rfl hCH.out i hi
   subst hA
   replace k0 := below_cell hB.out k0
   replace k1 := below_cell hB.out k1
   replace k2 := below_cell hB.out k2
   replace k3 := below_cell hB.out k3
   replace k4 := below_cell hB.out k4
   replace k5 := below_cell hB.out k5
   have htk := Lib.hid (allNeeds_take es i hi)
   have hnl := hNH.out es[i] (List.getElem_mem hi)
   have hal := allNeeds_len (es.take i) (fun e he => hNH.out e (List.mem_of_mem_take he))
   rw [List.length_take] at hal
   have hedH := Lib.hid hed
   generalize es[i] = e at *
   clear hed
   have hBa : Hid (Below w.heap.size w (wr.alloc (.cells #[.slice a0 e.outs.length d0, .slice a1 e.ins.length d1, .slice a2 e.imp.length d2, .slice a3 e.ord.length d3, .string (B e.cmd), .string (B e.dep)] 35))) := Lib.hid (hB.out.alloc hB.out.size _)
   have hRa : Hid (Kd.R Kd.string 9 (wr.alloc (.cells #[.slice a0 e.outs.length d0, .slice a1 e.ins.length d1, .slice a2 e.imp.length d2, .slice a3 e.ord.length d3, .string (B e.cmd), .string (B e.dep)] 35)) w.heap.size (fun _ => True) u3 ((allNeeds (es.take i)).map B)) := Lib.hid (Kd.R_below hR.out ((Below.refl _ _).alloc (Nat.le_refl _) _))
   have hne := Lib.hid (needs_any [.slice a0 e.outs.length d0, .slice a1 e.ins.length d1, .slice a2 e.imp.length d2, .slice a3 e.ord.length d3, .string (B e.cmd), .string (B e.dep)] e (wr.alloc (.cells #[.slice a0 e.outs.length d0, .slice a1 e.ins.length d1, .slice a2 e.imp.length d2, .slice a3 e.ord.length d3, .string (B e.cmd), .string (B e.dep)] 35)) (hedH.out.below hBa.out) (by omega))
   go_wp2_with fail
   refine hne.out.mono ?_
   rintro x w1 ⟨v1, rfl, hRv, hb1⟩
   obtain ⟨A1', c1', rfl, hl1, hC1⟩ := str_of_R hRv
   have hC1H := Lib.hid hC1
   have hR1 := Lib.hid (Kd.R_below hRa.out hb1)
   have hB1 := Lib.hid (hBa.out.trans (hb1.mono hBa.out.size))
   clear hRv hb1 hl1 hC1 k0 k1 k2 k3 k4 k5
   have hbd : (((allNeeds (es.take i)).map B).length + (needsL e).length) * 16 ≤ 140737488355328 := by rw [List.length_map]; omega
   go_wp2_with (at_builtin; go_loud (refine Kd.R_append_row (w0 := w) Value.string ByteArray.empty (h1 := fun _ => rfl) w.heap.size rfl _ _ 23 9 (.string ⟨#[]⟩) 16 rfl Tryz.underlying23 infoTxt rfl (by decide) u3 ((allNeeds (es.take i)).map B) ((needsL e).map B) A1' (needsL e).length c1' (fun _ => True) rfl rfl (fun _ _ => trivial) hR1.out hC1H.out hB1.out hB1.out.size hbd ?_))
   intro v2 w2 hR2 hb2 _ _
   have hO1 : Hid (Kd.R Kd.string 9 w2 w.heap.size (fun _ => True) v2 ((allNeeds (es.take (i + 1))).map B)) := by
    show Kd.R _ _ _ _ _ _ _
    rw [htk.out, List.map_append]; exact hR2
   have hB2 := Lib.hid hb2
   clear hR2 hb2
   go_wp2_with fail
   go_roundg gk
   case measure => omega
   case rel => exact ⟨i + 1, by first | rfl | simp, by omega, hO1, hB2⟩
end Go.Proofs.YtnegfigaiomehaaGreatDoor.Tp
end
section
namespace Go.Proofs.YtnegfigaiomehaaGreatDoor.Tp
open Go.RowKit Go.Lib Go.Proofs.YtnegfigaiomehaaGreatDoor.U Go.Proofs.YtnegfigaiomehaaGreatDoor.P Go.Proofs.YtnegfigaiomehaaGreatDoor.MapV Go.Proofs.YtnegfigaiomehaaGreatDoor.Ck
open Classical in
noncomputable def aboveB (es : List EdgeL) (n : Nat) (nm : Txt) : Bool := decide (∃ k, Above es n k ∧ makerL es nm = some k)
open Classical in
theorem aboveB_iff {es : List EdgeL} {n : Nat} {nm : Txt} : aboveB es n nm = true ↔ ∃ k, Above es n k ∧ makerL es nm = some k := by
 unfold aboveB
 exact decide_eq_true_iff
noncomputable def filesFor (own : Txt → Bool) (es : List EdgeL) (l made : List FileL) (n : Nat) : List FileL :=
 (l.filter fun f => (makerL es f.n).isNone && !own f.n) ++ made.filter fun f => aboveB es n f.n
def missingL (es : List EdgeL) (l : List FileL) (nm : Txt) : Bool := (makerL es nm).isNone && (findL l nm).isNone
def fitsL (e : EdgeL) (D : DishL) : Bool := decide (D.dep = e.dep) && decide (D.outs.map FileL.n = e.outs)
noncomputable def evalGo (own : Txt → Bool) (es : List EdgeL) (l : List FileL) : List Nat → List FileL → Option (List FileL)
 | [], made => some made
 | n :: ns, made => match es[n]? with
  | none => none
  | some e => if (needsL e).any (missingL es l) = true then none else
   match cookE e.cmd ⟨e.ins ++ e.imp, filesFor own es l made n⟩ with
   | none => none
   | some D => if fitsL e D = true then evalGo own es l ns (made ++ D.outs) else none
noncomputable def findF (own : Txt → Bool) (es : List EdgeL) (l : List FileL) (v : Nat → Txt) (n : Nat) (nm : Txt) : Option Txt :=
 match makerL es nm with
 | none => if own nm = true then none else findL l nm
 | some k => if aboveB es n nm = true then some (v k) else none
def outsOf (es : List EdgeL) (k : Nat) : List Txt := match es[k]? with
 | some e => e.outs
 | none => []
def madeOf (es : List EdgeL) (v : Nat → Txt) (ks : List Nat) : List FileL := ks.flatMap fun k => (outsOf es k).map fun o => ⟨o, v k⟩
theorem mem_outsOf {es : List EdgeL} (h : Once es) {k : Nat} {o : Txt} : o ∈ outsOf es k ↔ makerL es o = some k := by
 rw [maker_iff h]
 unfold outsOf
 cases hk : es[k]? with
 | none => simp
 | some e => simp
theorem findL_cons (f : FileL) (fs : List FileL) (nm : Txt) : findL (f :: fs) nm = if f.n = nm then some f.b else findL fs nm := by
 unfold findL
 rw [List.find?_cons]
 by_cases h : f.n = nm
 ·simp [h]
 ·have : (f.n == nm) = false := by simpa using h
  rw [this]; simp [h]
theorem findL_nil (nm : Txt) : findL [] nm = none := rfl
theorem findL_append (a b : List FileL) (nm : Txt) : findL (a ++ b) nm = (findL a nm).or (findL b nm) := by
 induction a with
 | nil => simp [findL_nil]
 | cons f a ih =>
  rw [List.cons_append, findL_cons, findL_cons]
  split
  ·rfl
  ·exact ih
theorem findL_filter (p : Txt → Bool) (fs : List FileL) (nm : Txt) : findL (fs.filter fun f => p f.n) nm = if p nm = true then findL fs nm else none := by
 induction fs with
 | nil => simp [findL_nil]
 | cons f fs ih =>
  rw [List.filter_cons]
  by_cases h : f.n = nm
  ·subst h
   by_cases hp : p f.n = true
   ·rw [if_pos hp, if_pos hp, findL_cons, findL_cons, if_pos rfl, if_pos rfl]
   ·rw [if_neg hp, if_neg hp, ih, if_neg hp]
  ·split
   ·rw [findL_cons, if_neg h, findL_cons, if_neg h, ih]
   ·rw [findL_cons, if_neg h, ih]
theorem findL_outs (os : List Txt) (b nm : Txt) : findL (os.map fun o => ⟨o, b⟩) nm = if nm ∈ os then some b else none := by
 induction os with
 | nil => rfl
 | cons o os ih =>
  rw [List.map_cons, findL_cons, ih]
  by_cases h : o = nm
  ·subst h; simp
  ·have h' : ¬ nm = o := fun e => h e.symm
   simp [h, h']
theorem findL_made {es : List EdgeL} (h : Once es) (v : Nat → Txt) (nm : Txt) : ∀ ks : List Nat, findL (madeOf es v ks) nm = match makerL es nm with
  | none => none
  | some k => if k ∈ ks then some (v k) else none
 | [] => by
  show findL [] nm = _
  rw [findL_nil]
  cases makerL es nm <;> simp
 | k :: ks => by
  have ih := findL_made h v nm ks
  show findL (((outsOf es k).map fun o => ⟨o, v k⟩) ++ madeOf es v ks) nm = _
  rw [findL_append, findL_outs, ih]
  have hm := mem_outsOf h (k := k) (o := nm)
  cases hk : makerL es nm with
  | none =>
   rw [hk] at hm
   have : nm ∉ outsOf es k := fun hh => by have := hm.1 hh; cases this
   simp [this]
  | some j =>
   rw [hk] at hm
   by_cases hj : j = k
   ·subst hj
    have : nm ∈ outsOf es j := hm.2 rfl
    simp [this]
   ·have : nm ∉ outsOf es k := fun hh => by have := hm.1 hh; injection this with this; exact hj this
    simp [this, hj]
theorem find_files {own : Txt → Bool} {es : List EdgeL} (h : Once es) {l : List FileL} {v : Nat → Txt} {ks : List Nat} {n : Nat} (hk : ∀ k, Above es n k → k ∈ ks) (nm : Txt) : findL (filesFor own es l (madeOf es v ks) n) nm = findF own es l v n nm := by
 unfold filesFor findF
 rw [findL_append, findL_filter (fun nm => (makerL es nm).isNone && !own nm), findL_filter (fun nm => aboveB es n nm), findL_made h]
 cases hm : makerL es nm with
 | none =>
  have h2 : aboveB es n nm = false := by
   rw [Bool.eq_false_iff, ne_eq, aboveB_iff]
   rintro ⟨k, _, hk⟩
   rw [hm] at hk; cases hk
  cases ho : own nm <;> simp [h2]
 | some k =>
  simp only [Option.isNone_some, Bool.false_and, Bool.false_eq_true, if_false, Option.none_or]
  by_cases ha : aboveB es n nm = true
  ·rw [if_pos ha, if_pos ha]
   rw [aboveB_iff] at ha
   obtain ⟨j, hj, hjm⟩ := ha
   rw [hm] at hjm
   injection hjm with hjm
   subst hjm
   rw [if_pos (hk _ hj)]
  ·rw [if_neg ha, if_neg ha]
def Cooks (own : Txt → Bool) (es : List EdgeL) (l : List FileL) (v : Nat → Txt) (n : Nat) : Prop := ∃ e, es[n]? = some e ∧ (needsL e).any (missingL es l) = false ∧
 ∀ fs, (∀ nm, findL fs nm = findF own es l v n nm) → ∃ D, cookE e.cmd ⟨e.ins ++ e.imp, fs⟩ = some D ∧ fitsL e D = true ∧ D.outs = e.outs.map fun o => ⟨o, v n⟩
theorem findF_ext {own : Txt → Bool} {es : List EdgeL} {l : List FileL} {v v' : Nat → Txt} {n : Nat} (h : ∀ k, Above es n k → v' k = v k) (nm : Txt) : findF own es l v' n nm = findF own es l v n nm := by
 unfold findF
 cases hm : makerL es nm with
 | none => rfl
 | some k =>
  simp only
  by_cases ha : aboveB es n nm = true
  ·rw [if_pos ha, if_pos ha]
   rw [aboveB_iff] at ha
   obtain ⟨j, hj, hjm⟩ := ha
   rw [hm] at hjm
   injection hjm with hjm
   subst hjm
   rw [h _ hj]
  ·rw [if_neg ha, if_neg ha]
theorem Cooks.ext {own : Txt → Bool} {es : List EdgeL} {l : List FileL} {v v' : Nat → Txt} {n : Nat} (hc : Cooks own es l v n) (h : ∀ k, Above es n k → v' k = v k) (hn : v' n = v n) : Cooks own es l v' n := by
 obtain ⟨e, he, hm, hD⟩ := hc
 refine ⟨e, he, hm, fun fs hfs => ?_⟩
 rw [hn]
 exact hD fs (fun nm => (hfs nm).trans (findF_ext h nm))
theorem dish_outs {c : Txt} {v : Env} {D : DishL} (h : cookE c v = some D) : ∃ b, D.outs = (D.outs.map FileL.n).map fun o => ⟨o, b⟩ := by
 unfold cookE at h
 split at h
 ·cases h
 ·split at h
  ·cases h
  ·rename_i b found _
   split at h
   ·injection h with h
    subst h
    exact ⟨b, by simp [List.map_map, Function.comp_def]⟩
   ·cases h
def Topo (es : List EdgeL) (pre plan : List Nat) : Prop := ∀ (i : Nat) (h : i < plan.length) (k : Nat), Above es plan[i] k → k ∈ pre ++ plan.take i
theorem Topo.tail {es : List EdgeL} {pre : List Nat} {n : Nat} {ns : List Nat} (h : Topo es pre (n :: ns)) : Topo es (pre ++ [n]) ns := fun i hi k hk => by
 have := h (i + 1) (by simpa using hi) k (by simpa using hk)
 simpa using this
theorem run_tells {own : Txt → Bool} {es : List EdgeL} (ho : Once es) {l : List FileL} : ∀ (plan pre : List Nat) (v : Nat → Txt) (x : List FileL), (pre ++ plan).Nodup → Topo es pre plan → evalGo own es l plan (madeOf es v pre) = some x →
  ∃ v', (∀ k ∈ pre, v' k = v k) ∧ x = madeOf es v' (pre ++ plan) ∧ ∀ n ∈ plan, Cooks own es l v' n
 | [], pre, v, x, _, _, h => by
  injection h with h
  exact ⟨v, fun _ _ => rfl, by rw [← h, List.append_nil], by simp⟩
 | n :: ns, pre, v, x, hnd, ht, h => by
  rw [evalGo] at h
  cases he : es[n]? with
  | none => rw [he] at h; cases h
  | some e =>
   rw [he] at h
   simp only at h
   split at h
   ·cases h
   ·rename_i hm
    cases hc : cookE e.cmd ⟨e.ins ++ e.imp, filesFor own es l (madeOf es v pre) n⟩ with
    | none => rw [hc] at h; cases h
    | some D =>
     rw [hc] at h
     simp only at h
     split at h
     ·rename_i hf
      obtain ⟨b, hb⟩ := dish_outs hc
      have hfo : D.outs.map FileL.n = e.outs := by
       simp only [fitsL, Bool.and_eq_true, decide_eq_true_iff] at hf; exact hf.2
      rw [hfo] at hb
      let v2 : Nat → Txt := fun k => if k = n then b else v k
      have hnp : n ∉ pre := fun hh => by
       rw [List.nodup_append] at hnd
       exact hnd.2.2 n hh n (by simp) rfl
      have hv2 : ∀ k ∈ pre, v2 k = v k := fun k hk => by
       have : k ≠ n := fun e => hnp (e ▸ hk)
       simp [v2, this]
      have hmo : ∀ ks : List Nat, (∀ k ∈ ks, v2 k = v k) → madeOf es v2 ks = madeOf es v ks := fun ks hks => by
       unfold madeOf
       induction ks with
       | nil => rfl
       | cons k ks ih =>
        rw [List.flatMap_cons, List.flatMap_cons, ih (fun k hk => hks k (by simp [hk])), hks k (by simp)]
      have hmade : madeOf es v pre ++ D.outs = madeOf es v2 (pre ++ [n]) := by
       unfold madeOf
       rw [List.flatMap_append]
       have h1 := hmo pre hv2
       unfold madeOf at h1
       rw [h1, hb]
       simp [outsOf, he, v2]
      rw [hmade] at h
      obtain ⟨v3, h1, h2, h3⟩ := run_tells ho ns (pre ++ [n]) v2 x (by simpa using hnd) ht.tail h
      have hab : ∀ k, Above es n k → k ∈ pre := fun k hk => by
       have := ht 0 (by simp) k (by simpa using hk)
       simpa using this
      refine ⟨v3, fun k hk => (h1 k (by simp [hk])).trans (hv2 k hk), by simpa using h2, fun m hm' => ?_⟩
      rcases List.mem_cons.1 hm' with rfl | hm'
      ·have hvn : v3 m = b := (h1 m (by simp)).trans (by simp [v2])
       refine ⟨e, he, by simpa using hm, fun fs hfs => ⟨D, ?_, hf, by rw [hb, hvn]⟩⟩
       rw [← hc]
       refine cookE_ext rfl (fun nm => ?_)
       show findL fs nm = findL (filesFor own es l (madeOf es v pre) m) nm
       rw [hfs nm, find_files ho hab]
       exact findF_ext (fun k hk => (h1 k (by simp [hab k hk])).trans (hv2 k (hab k hk))) nm
      ·exact h3 m hm'
     ·cases h
theorem run_makes {own : Txt → Bool} {es : List EdgeL} (ho : Once es) {l : List FileL} {v : Nat → Txt} : ∀ (plan pre : List Nat), Topo es pre plan → (∀ n ∈ plan, Cooks own es l v n) → evalGo own es l plan (madeOf es v pre) = some (madeOf es v (pre ++ plan))
 | [], pre, _, _ => by rw [evalGo, List.append_nil]
 | n :: ns, pre, ht, hc => by
  obtain ⟨e, he, hm, hD⟩ := hc n (by simp)
  have hab : ∀ k, Above es n k → k ∈ pre := fun k hk => by
   have := ht 0 (by simp) k (by simpa using hk)
   simpa using this
  obtain ⟨D, h1, h2, h3⟩ := hD (filesFor own es l (madeOf es v pre) n) (fun nm => find_files ho hab nm)
  rw [evalGo, he]
  simp only
  rw [if_neg (by rw [hm]; simp), h1]
  simp only
  rw [if_pos h2]
  have hmade : madeOf es v pre ++ D.outs = madeOf es v (pre ++ [n]) := by
   unfold madeOf
   rw [List.flatMap_append, h3]
   simp [outsOf, he]
  rw [hmade, run_makes ho ns (pre ++ [n]) ht.tail (fun m hm' => hc m (by simp [hm']))]
  simp
end Go.Proofs.YtnegfigaiomehaaGreatDoor.Tp
end
section
namespace Go.Proofs.YtnegfigaiomehaaGreatDoor.Tp
open Go.RowKit Go.Lib Go.Proofs.YtnegfigaiomehaaGreatDoor.U Go.Proofs.YtnegfigaiomehaaGreatDoor.P Go.Proofs.YtnegfigaiomehaaGreatDoor.MapV Go.Proofs.YtnegfigaiomehaaGreatDoor.Ck
def rho (es : List EdgeL) (n : Nat) : Nat := es.length - 1 - n
theorem rho_lt {es : List EdgeL} {n : Nat} (h : n < es.length) : rho es n < es.length := by unfold rho; omega
theorem rho_rho {es : List EdgeL} {n : Nat} (h : n < es.length) : rho es (rho es n) = n := by unfold rho; omega
theorem rho_inj {es : List EdgeL} {n m : Nat} (hn : n < es.length) (hm : m < es.length) (h : rho es n = rho es m) : n = m := by unfold rho at h; omega
theorem rho_rev (es : List EdgeL) (n : Nat) : rho es.reverse n = rho es n := by unfold rho; rw [List.length_reverse]
theorem turn_at {es : List EdgeL} {n : Nat} (h : n < es.length) : es.reverse[rho es n]? = es[n]? := by
 rw [List.getElem?_reverse (rho_lt h)]
 congr 1
 exact rho_rho h
theorem once_turn {es : List EdgeL} (h : Once es) : Once es.reverse := by
 unfold Once at h ⊢
 exact (List.Perm.nodup_iff (List.Perm.flatMap_right EdgeL.outs (List.reverse_perm es))).2 h
theorem maker_turn {es : List EdgeL} (h : Once es) (f : Txt) : makerL es.reverse f = (makerL es f).map (rho es) := by
 cases hm : makerL es f with
 | none =>
  show _ = none
  rw [maker_none] at hm ⊢
  exact fun e he => hm e (List.mem_reverse.1 he)
 | some k =>
  show _ = some (rho es k)
  rw [maker_iff (once_turn h)]
  obtain ⟨e, he, hf⟩ := maker_at hm
  exact ⟨e, by rw [turn_at (maker_lt hm)]; exact he, hf⟩
theorem ah_turn {es : List EdgeL} (h : Once es) {n k : Nat} (ha : Ah es n k) : Ah es.reverse (rho es n) (rho es k) := by
 obtain ⟨e, he, f, hf, hm⟩ := ha
 exact ⟨e, by rw [turn_at (List.getElem?_eq_some_iff.1 he).1]; exact he, f, hf, by rw [maker_turn h, hm]; rfl⟩
theorem star_turn {es : List EdgeL} (h : Once es) {n k : Nat} (hs : Star es n k) : Star es.reverse (rho es n) (rho es k) := by
 induction hs with
 | refl => exact .refl _
 | step h1 _ ih => exact .step (ah_turn h h1) ih
theorem above_turn {es : List EdgeL} (h : Once es) {n k : Nat} (ha : Above es n k) : Above es.reverse (rho es n) (rho es k) := by
 obtain ⟨j, h1, h2⟩ := ha
 exact ⟨_, ah_turn h h1, star_turn h h2⟩
theorem Above.src {es : List EdgeL} {n k : Nat} (h : Above es n k) : n < es.length := by obtain ⟨j, h1, _⟩ := h; exact h1.src
theorem Star.lt {es : List EdgeL} {n k : Nat} (h : Star es n k) (hn : n < es.length) : k < es.length := by
 induction h with
 | refl => exact hn
 | step h1 _ ih => exact ih h1.lt
theorem Above.lt {es : List EdgeL} {n k : Nat} (h : Above es n k) : k < es.length := by
 obtain ⟨j, h1, h2⟩ := h
 exact h2.lt h1.lt
theorem above_back {es : List EdgeL} (h : Once es) {n k : Nat} (hn : n < es.length) (hk : k < es.length) (ha : Above es.reverse (rho es n) (rho es k)) : Above es n k := by
 have := above_turn (once_turn h) ha
 rw [List.reverse_reverse, rho_rev, rho_rev, rho_rho hn, rho_rho hk] at this
 exact this
theorem star_back {es : List EdgeL} (h : Once es) {n k : Nat} (hn : n < es.length) (hk : k < es.length) (ha : Star es.reverse (rho es n) (rho es k)) : Star es n k := by
 have := star_turn (once_turn h) ha
 rw [List.reverse_reverse, rho_rev, rho_rev, rho_rho hn, rho_rho hk] at this
 exact this
theorem ranked_turn {es : List EdgeL} (h : Once es) (hr : Ranked es) : Ranked es.reverse := by
 obtain ⟨rank, hk⟩ := hr
 refine ⟨fun n => rank (rho es n), fun n k ha => ?_⟩
 have := ah_turn (once_turn h) ha
 rw [List.reverse_reverse, rho_rev, rho_rev] at this
 exact hk _ _ this
def usedL (es : List EdgeL) (f : Txt) : Bool := es.any fun e => (needsL e).contains f
def targetsL (es : List EdgeL) (defs : List Txt) : List Txt := if defs ≠ [] then defs else (es.flatMap EdgeL.outs).filter fun f => !usedL es f
theorem used_turn (es : List EdgeL) (f : Txt) : usedL es.reverse f = usedL es f := by
 unfold usedL
 rw [Bool.eq_iff_iff, List.any_eq_true, List.any_eq_true]
 simp
theorem targets_turn (es : List EdgeL) (defs : List Txt) (t : Txt) : t ∈ targetsL es.reverse defs ↔ t ∈ targetsL es defs := by
 unfold targetsL
 split
 ·exact Iff.rfl
 ·rw [List.mem_filter, List.mem_filter, used_turn]
  simp
structure Ready (own : Txt → Bool) (es : List EdgeL) (defs : List Txt) (l : List FileL) : Prop where
 once : Once es
 ranked : Ranked es
 plain : ∀ e ∈ es, ∀ f, f ∈ e.outs ∨ f ∈ needsL e → own f = false
 known : ∀ t ∈ targetsL es defs, (makerL es t).isSome = true ∨ usedL es t = true
 there : ∀ t ∈ targetsL es defs, missingL es l t = false
def PlanOf (es : List EdgeL) (ts : List Txt) (plan : List Nat) : Prop := ∃ r, (∀ n, n ∈ r ↔ ∃ t ∈ ts, ∃ k, makerL es t = some k ∧ Star es k n) ∧ OrderOf es r plan
def EvalIs (own : Txt → Bool) (es : List EdgeL) (defs : List Txt) (l : List FileL) : Option (List FileL) → Prop
 | none => ¬ Ready own es defs l ∨ ∃ plan, PlanOf es (targetsL es defs) plan ∧ evalGo own es l plan [] = none
 | some x => Ready own es defs l ∧ ∃ plan, PlanOf es (targetsL es defs) plan ∧ evalGo own es l plan [] = some x
theorem missing_turn {es : List EdgeL} (h : Once es) (l : List FileL) (nm : Txt) : missingL es.reverse l nm = missingL es l nm := by
 unfold missingL
 rw [maker_turn h]
 cases makerL es nm <;> rfl
theorem ready_turn {own : Txt → Bool} {es : List EdgeL} {defs : List Txt} {l : List FileL} (h : Ready own es defs l) : Ready own es.reverse defs l := by
 refine ⟨once_turn h.once, ranked_turn h.once h.ranked, fun e he f hf => h.plain e (List.mem_reverse.1 he) f hf, fun t ht => ?_, fun t ht => ?_⟩
 ·rw [maker_turn h.once, used_turn]
  have := h.known t ((targets_turn es defs t).1 ht)
  cases hm : makerL es t with
  | none => rw [hm] at this; exact this
  | some k => exact .inl rfl
 ·rw [missing_turn h.once]
  exact h.there t ((targets_turn es defs t).1 ht)
theorem plan_mem {es : List EdgeL} {ts : List Txt} {plan : List Nat} (hr : Ranked es) (h : PlanOf es ts plan) (n : Nat) : n ∈ plan ↔ ∃ t ∈ ts, ∃ k, makerL es t = some k ∧ Star es k n := by
 obtain ⟨r, h1, h2⟩ := h
 rw [← h1]
 refine ⟨h2.sub n, fun hn => order_all hr h2 (fun m hm k hk => ?_) n hn⟩
 rw [h1] at hm ⊢
 obtain ⟨t, ht, j, hj, hs⟩ := hm
 exact ⟨t, ht, j, hj, hs.snoc hk⟩
theorem plan_topo {es : List EdgeL} {ts : List Txt} {plan : List Nat} (h : PlanOf es ts plan) : Topo es [] plan := by
 obtain ⟨r, _, h2⟩ := h
 have key : ∀ m k, Star es m k → ∀ i, i ≤ plan.length → m ∈ plan.take i → k ∈ plan.take i := by
  intro m k hs
  induction hs with
  | refl => exact fun _ _ h => h
  | step ha _ ih =>
   intro i hi hm
   refine ih i hi ?_
   obtain ⟨j, hj, he⟩ := List.mem_iff_getElem.1 hm
   rw [List.getElem_take] at he
   rw [List.length_take] at hj
   have := h2.topo j (by omega) _ (by rw [he]; exact ha)
   have h3 : plan.take j = (plan.take i).take j := by rw [List.take_take, Nat.min_eq_left (by omega)]
   rw [h3] at this
   exact List.mem_of_mem_take this
 intro i hi k hk
 obtain ⟨j, h1, h2'⟩ := hk
 rw [List.nil_append]
 exact key j k h2' i (by omega) (h2.topo i hi j h1)
theorem plan_nd {es : List EdgeL} {ts : List Txt} {plan : List Nat} (h : PlanOf es ts plan) : plan.Nodup := by
 obtain ⟨r, _, h2⟩ := h
 exact h2.nd
theorem findF_turn {own : Txt → Bool} {es : List EdgeL} (h : Once es) {l : List FileL} {v : Nat → Txt} {n : Nat} (hn : n < es.length) (nm : Txt) : findF own es.reverse l (fun k => v (rho es k)) (rho es n) nm = findF own es l v n nm := by
 unfold findF
 rw [maker_turn h]
 cases hm : makerL es nm with
 | none => rfl
 | some k =>
  have hk := maker_lt hm
  have ha : aboveB es.reverse (rho es n) nm = aboveB es n nm := by
   rw [Bool.eq_iff_iff, aboveB_iff, aboveB_iff]
   constructor
   ·rintro ⟨j, hj, hjm⟩
    rw [maker_turn h, hm] at hjm
    injection hjm with hjm
    subst hjm
    exact ⟨k, above_back h hn hk hj, hm⟩
   ·rintro ⟨j, hj, hjm⟩
    rw [hm] at hjm
    injection hjm with hjm
    subst hjm
    exact ⟨_, above_turn h hj, by rw [maker_turn h, hm]; rfl⟩
  simp only [Option.map_some, ha, rho_rho hk]
theorem cooks_turn {own : Txt → Bool} {es : List EdgeL} (h : Once es) {l : List FileL} {v : Nat → Txt} {n : Nat} (hc : Cooks own es l v n) : Cooks own es.reverse l (fun k => v (rho es k)) (rho es n) := by
 obtain ⟨e, he, hm, hD⟩ := hc
 have hn := (List.getElem?_eq_some_iff.1 he).1
 refine ⟨e, by rw [turn_at hn]; exact he, ?_, fun fs hfs => ?_⟩
 ·rw [← hm]
  congr 1
  funext nm
  exact missing_turn h l nm
 ·dsimp only
  rw [rho_rho hn]
  exact hD fs (fun nm => (hfs nm).trans (findF_turn h hn nm))
theorem eval_turn {own : Txt → Bool} {es : List EdgeL} {defs : List Txt} {l x : List FileL} {r : Option (List FileL)} (h : EvalIs own es defs l (some x)) (h' : EvalIs own es.reverse defs l r) : ∃ y, r = some y ∧ x.length = y.length ∧ ∀ f ∈ x, findL y f.n = some f.b := by
 obtain ⟨hR, plan, hP, hx⟩ := h
 have ho := hR.once
 have hR' := ready_turn hR
 obtain ⟨v, _, hxv, hck⟩ := run_tells ho plan [] (fun _ => []) x (by simpa using plan_nd hP) (plan_topo hP) hx
 rw [List.nil_append] at hxv
 have hlt : ∀ n ∈ plan, n < es.length := fun n hn => by
  obtain ⟨e, he, _⟩ := hck n hn
  exact (List.getElem?_eq_some_iff.1 he).1
 have main : ∀ plan', PlanOf es.reverse (targetsL es.reverse defs) plan' → evalGo own es.reverse l plan' [] = some (madeOf es.reverse (fun k => v (rho es k)) plan') ∧ (∀ n, n ∈ plan' → n < es.length ∧ rho es n ∈ plan) ∧ (∀ n ∈ plan, rho es n ∈ plan') := by
  intro plan' hP'
  have hm := plan_mem hR.ranked hP
  have hm' := plan_mem hR'.ranked hP'
  have hA : ∀ n ∈ plan, rho es n ∈ plan' := fun n hn => by
   obtain ⟨t, ht, k, hk, hs⟩ := (hm n).1 hn
   exact (hm' _).2 ⟨t, (targets_turn es defs t).2 ht, rho es k, by rw [maker_turn ho, hk]; rfl, star_turn ho hs⟩
  have hB : ∀ n, n ∈ plan' → n < es.length ∧ rho es n ∈ plan := fun n hn => by
   obtain ⟨t, ht, k, hk, hs⟩ := (hm' n).1 hn
   have hkl := maker_lt hk
   have hnl := hs.lt hkl
   rw [List.length_reverse] at hnl hkl
   refine ⟨hnl, (hm _).2 ⟨t, (targets_turn es defs t).1 ht, rho es k, ?_, ?_⟩⟩
   ·rw [maker_turn ho] at hk
    obtain ⟨j, hj, hjk⟩ := Option.map_eq_some_iff.1 hk
    rw [hj, ← hjk, rho_rho (maker_lt hj)]
   ·refine star_back ho (rho_lt hkl) (rho_lt hnl) ?_
    rw [rho_rho hkl, rho_rho hnl]; exact hs
  refine ⟨?_, hB, hA⟩
  have := run_makes (own := own) (once_turn ho) (l := l) (v := fun k => v (rho es k)) plan' [] (plan_topo hP') (fun n hn => by
   obtain ⟨h1, h2⟩ := hB n hn
   have := cooks_turn ho (hck _ h2)
   rw [rho_rho h1] at this
   exact this)
  rw [List.nil_append] at this
  exact this
 have fin : ∀ plan', PlanOf es.reverse (targetsL es.reverse defs) plan' → x.length = (madeOf es.reverse (fun k => v (rho es k)) plan').length ∧ ∀ f ∈ x, findL (madeOf es.reverse (fun k => v (rho es k)) plan') f.n = some f.b := by
  intro plan' hP'
  obtain ⟨_, hB, hA⟩ := main plan' hP'
  constructor
  ·have hperm : (plan'.map (rho es)).Perm plan := by
    refine (List.perm_ext_iff_of_nodup ?_ (plan_nd hP)).2 (fun a => ?_)
    ·refine List.pairwise_map.2 ?_
     exact List.Pairwise.imp_of_mem (fun {a b} ha hb hne h => hne (rho_inj (hB a ha).1 (hB b hb).1 h)) (plan_nd hP')
    ·rw [List.mem_map]
     constructor
     ·rintro ⟨n, hn, rfl⟩
      exact (hB n hn).2
     ·intro ha
      exact ⟨rho es a, hA a ha, rho_rho (hlt a ha)⟩
   have h1 : (madeOf es.reverse (fun k => v (rho es k)) plan').map FileL.n = (plan'.map (rho es)).flatMap (outsOf es) := by
    unfold madeOf
    rw [List.flatMap_map, List.map_flatMap]
    have : ∀ ks : List Nat, (∀ k ∈ ks, k < es.length) → (ks.flatMap fun k => ((outsOf es.reverse k).map fun o => (⟨o, v (rho es k)⟩ : FileL)).map FileL.n) = ks.flatMap fun k => outsOf es (rho es k) := by
     intro ks hks
     induction ks with
     | nil => rfl
     | cons k ks ih =>
      rw [List.flatMap_cons, List.flatMap_cons, ih (fun k hk => hks k (by simp [hk]))]
      congr 1
      rw [List.map_map]
      have e1 : outsOf es.reverse k = outsOf es (rho es k) := by
       unfold outsOf
       have := turn_at (rho_lt (hks k (by simp)))
       rw [rho_rho (hks k (by simp))] at this
       rw [this]
      rw [e1]
      simp [Function.comp_def]
    exact this plan' (fun k hk => (hB k hk).1)
   have h2 : x.map FileL.n = plan.flatMap (outsOf es) := by
    rw [hxv]
    unfold madeOf
    rw [List.map_flatMap]
    congr 1
    funext k
    simp [List.map_map, Function.comp_def]
   have h3 := (List.Perm.flatMap_right (outsOf es) hperm).length_eq
   rw [← h1, ← h2, List.length_map, List.length_map] at h3
   exact h3.symm
  ·intro f hf
   rw [hxv] at hf
   unfold madeOf at hf
   obtain ⟨k, hk, hfk⟩ := List.mem_flatMap.1 hf
   obtain ⟨o, hom, rfl⟩ := List.mem_map.1 hfk
   have hmk := (mem_outsOf ho).1 hom
   rw [findL_made (once_turn ho), maker_turn ho, hmk]
   simp only [Option.map_some]
   rw [if_pos (hA k hk), rho_rho (hlt k hk)]
 cases r with
 | none =>
  exfalso
  rcases h' with h' | ⟨plan', hP', hn⟩
  ·exact h' hR'
  ·rw [(main plan' hP').1] at hn; cases hn
 | some y =>
  obtain ⟨_, plan', hP', hy⟩ := h'
  rw [(main plan' hP').1] at hy
  injection hy with hy
  subst hy
  exact ⟨_, rfl, fin plan' hP'⟩
theorem orders {own : Txt → Bool} {es : List EdgeL} {defs : List Txt} {l : List FileL} {r r' : Option (List FileL)} (h : EvalIs own es defs l r) (h' : EvalIs own es.reverse defs l r') : r.isSome = r'.isSome ∧ (r.getD []).length = (r'.getD []).length ∧ ∀ f ∈ r.getD [], findL (r'.getD []) f.n = some f.b := by
 cases r with
 | some x =>
  obtain ⟨y, rfl, h1, h2⟩ := eval_turn h h'
  exact ⟨rfl, h1, h2⟩
 | none =>
  cases r' with
  | none => exact ⟨rfl, rfl, by simp⟩
  | some y =>
   have h2 : EvalIs own es.reverse.reverse defs l none := by rw [List.reverse_reverse]; exact h
   obtain ⟨_, h3, _⟩ := eval_turn h' h2
   cases h3
end Go.Proofs.YtnegfigaiomehaaGreatDoor.Tp
end
section
namespace Go.Proofs.YtnegfigaiomehaaGreatDoor.Tp
open Go.RowKit Go.Lib Go.Shelf Go.Maps Go.Proofs.YtnegfigaiomehaaGreatDoorW.PrintWords Go.Proofs.YtnegfigaiomehaaGreatDoorW.PrintLast Go.Proofs.YtnegfigaiomehaaGreatDoorW.PrintMore Go.Proofs.YtnegfigaiomehaaGreatDoor.U Go.Proofs.YtnegfigaiomehaaGreatDoor.P Go.Proofs.YtnegfigaiomehaaGreatDoor.MapV Go.Proofs.YtnegfigaiomehaaGreatDoor.Ck
theorem outsOf_at {es : List EdgeL} {k : Nat} (h : k < es.length) : outsOf es k = es[k].outs := by unfold outsOf; rw [List.getElem?_eq_getElem h]
theorem outs_len {es : List EdgeL} (h : ∀ e ∈ es, e.outs.length ≤ 1000) (r : List Nat) : (r.flatMap (outsOf es)).length ≤ 1000 * r.length := by
 induction r with
 | nil => simp
 | cons k r ih =>
  rw [List.flatMap_cons, List.length_append, List.length_cons]
  have : (outsOf es k).length ≤ 1000 := by
   unfold outsOf
   cases he : es[k]? with
   | none => simp
   | some e => exact h e (List.mem_of_getElem? he)
  omega
set_option maxRecDepth 100000 in
set_option maxHeartbeats 8000000 in
theorem Above_any (p : Nat) (es : List EdgeL) (defs : List Txt) (m : Nat) (w : World) (hG : GraphAt w p es defs) (hE : es.length ≤ 100) (hO : ∀ e ∈ es, e.outs.length ≤ 1000) (hah : ∀ n, (aheadL es n).length ≤ 1000) (hm : m < es.length) :
  Calls Tryz.prog 57 #[ptr p, .int .i64 (m : Int)] w fun e w' => ∃ (v : Value) (l : List Txt), e = .returned v ∧ l.Pairwise (· ≤ ·) ∧ l.length ≤ 1000000 ∧ (∀ f, f ∈ l ↔ ∃ k, Above es m k ∧ f ∈ outsOf es k) ∧ Own w' w.heap.size v l ∧ Below w.heap.size w w' := by
 have hGH := Lib.hid hG
 have hOH := Lib.hid hO
 obtain ⟨A0, c0, A1, c1, mb, A3, c3, hb, ⟨_, hC⟩, _, _, _, ha2⟩ := hG.blk
 have x0 := (cell_of_heap (j := 0) hb).trans rfl
 have x3 := (cell_of_heap (j := 3) hb).trans rfl
 have hCH := Lib.hid hC
 have hbH := Lib.hid hb
 obtain ⟨ad3, Ai, ci, rfl, ka, hci, hCi⟩ := ahead_at ha2 m hm
 have hRe := Lib.hid (reached_any p es defs (aheadL es m) (.slice Ai (aheadL es m).length ci) w hG (by omega) ⟨_, _, rfl, hci, hCi⟩ (hah m) (fun k hk => madeL_lt_ahead hk) hah)
 unfold ptr at hRe
 have n0 : (0 : Int) ≤ (m : Int) := by omega
 have n1 : (m : Int) < (es.length : Int) := by omega
 have n2 : decide ((m : Int) < 0) = false := by rw [decide_eq_false_iff_not]; omega
 have n3 : decide ((m : Int) ≥ (es.length : Int)) = false := by rw [decide_eq_false_iff_not]; omega
 have n4 : decide ((es.length : Int) ≤ (m : Int)) = false := by rw [decide_eq_false_iff_not]; omega
 clear hG hO hC hb ha2 hCi hah
 unfold ptr
 go_enter Tryz.func57, Tryz.ntmps57
 go_wp2_with fail
 refine hRe.out.mono ?_
 rintro e w1 ⟨v1, r, rfl, hmem, hrl, hR1, hb1⟩
 obtain ⟨Ar, cr, rfl, _, hCr⟩ := ints_of_R hR1
 have hmemH := Lib.hid hmem
 have hCrH := Lib.hid hCr
 have hb1H := Lib.hid hb1
 obtain ⟨n, hn⟩ : ∃ n, r.length = n := ⟨_, rfl⟩
 have hnH := Lib.hid hn
 rw [hn] at hrl ⊢
 clear hmem hR1 hb1 hCr hn x0 x3 ka n0 n1 n2 n3 n4
 go_wp2_with fail
 go_loopg [5, 34] n (fun gk s5 s34 wr => ∃ i : Nat, s34 = .int .i64 (i : Int) ∧ i + gk = n ∧ Hid (Kd.R Kd.string 9 wr w1.heap.size (fun _ => True) s5 (((r.take i).flatMap (outsOf es)).map B)) ∧ Hid (Below w1.heap.size w1 wr))
 case atStart => exact ⟨0, rfl, Nat.zero_add _, Lib.hid (Kd.R_nil _ _ _ _ _), Lib.hid (Below.refl _ _)⟩
 case round =>
  obtain ⟨i, rfl, hik, hR, hB1⟩ := hrel
  have hB : Hid (Below w.heap.size w wr) := Lib.hid (hb1H.out.trans (hB1.out.mono hb1H.out.size))
  cases gk with
  | zero =>
   obtain rfl : i = n := by omega
   have hlt : decide ((i : Int) < (i : Int)) = false := by simp
   have hO : Hid (Own wr w.heap.size u5 (r.flatMap (outsOf es))) := by
    have := R_own' (Kd.R_lower hR.out hb1H.out.size)
    rw [List.take_of_length_le (by rw [hnH.out]; exact Nat.le_refl _)] at this
    exact Lib.hid this
   have hal := outs_len hOH.out r
   rw [hnH.out] at hal
   have hS := Lib.hid (SortT_any u5 _ w.heap.size wr hO.out (by omega))
   have hown : Hid (∀ k, u5.ownBlock = some k → w.heap.size ≤ k) := Lib.hid (fun k hk => (World.ownsRow.lt hO.out k hk).1)
   go_wp2_with fail
   refine hS.out.mono ?_
   rintro e w2 ⟨rfl, ho, hg⟩
   have hl2 : ((r.flatMap (outsOf es)).mergeSort fun x y => decide (x ≤ y)).length = (r.flatMap (outsOf es)).length := (List.mergeSort_perm _ _).length_eq
   have hoH := Lib.hid ho
   have hB2 := Lib.hid (hB.out.grown hg hB.out.size hown.out)
   clear ho hg
   go_wp2_with fail
   go_ret
   refine ⟨_, _, rfl, leB_pairwise _, by rw [hl2]; omega, fun f => ?_, hoH.out, hB2.out⟩
   rw [(List.mergeSort_perm _ _).mem_iff, List.mem_flatMap]
   constructor
   ·rintro ⟨k, hk, hf⟩
    obtain ⟨s, hs, hst⟩ := (hmemH.out k).1 hk
    exact ⟨k, ⟨s, mem_aheadL.1 hs, hst⟩, hf⟩
   ·rintro ⟨k, ⟨j, hj, hst⟩, hf⟩
    exact ⟨k, (hmemH.out k).2 ⟨j, mem_aheadL.2 hj, hst⟩, hf⟩
  | succ gk =>
   have hi : i < r.length := by rw [hnH.out]; omega
   have hlt : decide ((i : Int) < (n : Int)) = true := by rw [decide_eq_true_iff]; omega
   have i1 : (0 : Int) ≤ (i : Int) := by omega
   have i2 : (i : Int) < (n : Int) := by omega
   obtain ⟨ad, hA, kr⟩ := int_at rfl hCrH.out i hi
   subst hA
   replace kr := below_cell hB1.out kr
   have hke : r[i] < es.length := by
    obtain ⟨s, hs, hst⟩ := (hmemH.out r[i]).1 (List.getElem_mem hi)
    exact hst.lt (madeL_lt_ahead hs)
   have htk : Hid ((r.take (i + 1)).flatMap (outsOf es) = (r.take i).flatMap (outsOf es) ++ outsOf es r[i]) := Lib.hid (by rw [List.take_succ_eq_append_getElem hi, List.flatMap_append]; simp)
   have hal := outs_len hOH.out (r.take i)
   rw [List.length_take] at hal
   generalize r[i] = k at *
   obtain ⟨ad0, a0, d0, a1, d1, a2, d2, a3, d3, hA, k0, _, _, _, _, _, hed⟩ := edge_at rfl hCH.out k hke
   subst hA
   obtain ⟨_, _, _, _, e0, ⟨A', c', e1, hl', hC'⟩, _⟩ := hed
   injection e0 with e0 _
   rw [← e0] at e1
   injection e1 with e1 _ e2
   subst e1 e2
   clear e0
   have hok := hOH.out es[k] (List.getElem_mem hke)
   have ho1 := Lib.hid (outsOf_at hke)
   replace k0 := below_cell hB.out k0
   have hC'H := Lib.hid (Kd.C_below hC' hB.out)
   have y0 := (cell_of_heap (j := 0) (below_blk hB.out hbH.out)).trans rfl
   have n0 : (0 : Int) ≤ (k : Int) := by omega
   have n1 : (k : Int) < (es.length : Int) := by omega
   generalize es[k] = e at *
   clear hC'
   have hbd : ((((r.take i).flatMap (outsOf es)).map B).length + e.outs.length) * 16 ≤ 140737488355328 := by rw [List.length_map]; omega
   go_wp2_with (at_builtin; go_loud (refine Kd.R_append_row (w0 := w1) Value.string ByteArray.empty (h1 := fun _ => rfl) w1.heap.size rfl _ _ 23 9 (.string ⟨#[]⟩) 16 rfl Tryz.underlying23 infoTxt rfl (by decide) u5 (((r.take i).flatMap (outsOf es)).map B) (e.outs.map B) a0 e.outs.length d0 (fun _ => True) rfl rfl (fun _ _ => trivial) hR.out hC'H.out hB1.out hB1.out.size hbd ?_))
   intro v2 w2 hR2 hb2 hg2 _
   have hO1 : Hid (Kd.R Kd.string 9 w2 w1.heap.size (fun _ => True) v2 (((r.take (i + 1)).flatMap (outsOf es)).map B)) := by
    show Kd.R _ _ _ _ _ _ _
    rw [htk.out, ho1.out, List.map_append]; exact hR2
   have hB2 := Lib.hid hb2
   clear hR2 hb2 hg2
   go_wp2_with fail
   go_roundg gk
   case measure => omega
   case rel => exact ⟨i + 1, by first | rfl | simp, by omega, hO1, hB2⟩
end Go.Proofs.YtnegfigaiomehaaGreatDoor.Tp
end
section
namespace Go.Proofs.YtnegfigaiomehaaGreatDoor.Tp
open Go.RowKit Go.Lib Go.Shelf Go.Maps Go.Proofs.YtnegfigaiomehaaGreatDoorW.PrintWords Go.Proofs.YtnegfigaiomehaaGreatDoorW.PrintLast Go.Proofs.YtnegfigaiomehaaGreatDoorW.PrintMore Go.Proofs.YtnegfigaiomehaaGreatDoor.U Go.Proofs.YtnegfigaiomehaaGreatDoor.P Go.Proofs.YtnegfigaiomehaaGreatDoor.MapV Go.Proofs.YtnegfigaiomehaaGreatDoor.Ck
def Tells (g : Nat) (lb : Array Value) (I : World → Prop) (Z : Txt → Prop) (p : Txt → Bool) : Prop := ∀ W x, I W → Z x → Calls Tryz.prog g (#[.string (B x)] ++ lb) W fun e w' => e = .returned (.bool (p x)) ∧ Below W.heap.size W w'
def Stays (I : World → Prop) : Prop := ∀ W W', I W → Below W.heap.size W W' → I W'
def At (l : List Txt) (p : Txt → Bool) (k : Int) : Prop := (k = -1 ∧ ∀ f ∈ l, p f = false) ∨ ∃ (i : Nat) (h : i < l.length), k = (i : Int) ∧ p l[i] = true ∧ ∀ (j : Nat) (hj : j < i), p (l[j]'(by omega)) = false
set_option maxRecDepth 100000 in
set_option maxHeartbeats 8000000 in
theorem IndexT_any (g : Nat) (lb : Array Value) (eg : ∀ args w, (callFunc g args).run Tryz.prog w = .ok (.enter g args) w) (I : World → Prop) (Z : Txt → Prop) (p : Txt → Bool) (hI : Stays I) (hT : Tells g lb I Z p) (v : Value) (l : List Txt) (w : World) (hv : Str w v l) (hZ : ∀ x ∈ l, Z x) (hw : I w) (hn : l.length ≤ 1000000) :
  Calls Tryz.prog 55 #[v, .func (.func g) #[] lb] w fun e w' => ∃ k : Int, e = .returned (.int .i64 k) ∧ At l p k ∧ Below w.heap.size w w' := by
 obtain ⟨A, c, rfl, _, hC⟩ := hv
 obtain ⟨N, hN⟩ : ∃ N, l.length = N := ⟨_, rfl⟩
 have hNH := Lib.hid hN
 have hCH := Lib.hid hC
 have hZH := Lib.hid hZ
 have hIH := Lib.hid hI
 have hTH := Lib.hid hT
 have hwH := Lib.hid hw
 rw [hN] at hn ⊢
 clear hC hZ hI hT hw hN
 go_enter Tryz.func55, Tryz.ntmps55
 go_wp2_with fail
 go_loopg [8] N (fun gk s8 wr => ∃ i : Nat, s8 = .int .i64 (i : Int) ∧ i + gk = N ∧ Hid (∀ (j : Nat) (hj : j < i) (h : j < l.length), p l[j] = false) ∧ Hid (Below w.heap.size w wr))
 case atStart => exact ⟨0, rfl, Nat.zero_add _, fun j hj => absurd hj (by omega), Below.refl _ _⟩
 case round =>
  obtain ⟨i, rfl, hik, hA, hB⟩ := hrel
  cases gk with
  | zero =>
   obtain rfl : i = N := by omega
   have hlt : decide ((i : Int) < (i : Int)) = false := by simp
   go_wp2_with fail
   go_ret
   refine ⟨_, rfl, .inl ⟨rfl, fun f hf => ?_⟩, hB.out⟩
   obtain ⟨j, hj, rfl⟩ := List.getElem_of_mem hf
   exact hA.out j (by rw [← hNH.out]; exact hj) hj
  | succ gk =>
   have hi : i < l.length := by rw [hNH.out]; omega
   have hlt : decide ((i : Int) < (N : Int)) = true := by rw [decide_eq_true_iff]; omega
   have i1 : (0 : Int) ≤ (i : Int) := by omega
   have i2 : (i : Int) < (N : Int) := by omega
   obtain ⟨ad, hAd, k0⟩ := text_at hCH.out i hi
   subst hAd
   replace k0 := below_cell hB.out k0
   have hcall := hTH.out wr l[i] (hIH.out _ _ hwH.out hB.out) (hZH.out _ (List.getElem_mem hi))
   have hX : Hid (l[i] = l[i]) := Lib.hid rfl
   obtain ⟨x, hx⟩ : ∃ x, l[i] = x := ⟨_, rfl⟩
   have hxH := Lib.hid hx
   rw [hx] at k0 hcall
   clear hx hX
   cases hq : p x with
   | true =>
    rw [hq] at hcall
    have hcH := Lib.hid hcall
    clear hcall
    go_wp2_with (go_at_fn g; refine hcH.out.mono ?_; rintro e w2 ⟨rfl, hb⟩)
    have hB2 := Lib.hid (hB.out.trans (hb.mono hB.out.size))
    go_ret
    exact ⟨_, rfl, .inr ⟨i, hi, rfl, by rw [hxH.out]; exact hq, fun j hj => hA.out j hj (by omega)⟩, hB2.out⟩
   | false =>
    rw [hq] at hcall
    have hcH := Lib.hid hcall
    clear hcall
    go_wp2_with (go_at_fn g; refine hcH.out.mono ?_; rintro e w2 ⟨rfl, hb⟩)
    have hB2 := Lib.hid (hB.out.trans (hb.mono hB.out.size))
    go_roundg gk
    case measure => omega
    case rel => exact ⟨i + 1, by first | rfl | simp, by omega, Lib.hid (fun j hj h => by
     rcases Nat.lt_or_ge j i with h1 | h1
     ·exact hA.out j h1 h
     ·have : j = i := by omega
      subst this; rw [hxH.out]; exact hq), hB2⟩
theorem at_contains {l : List Txt} {p : Txt → Bool} {k : Int} (h : At l p k) : decide (k ≥ 0) = l.any p := by
 rcases h with ⟨rfl, h⟩ | ⟨i, hi, rfl, h1, _⟩
 ·symm
  rw [decide_eq_false (by decide), List.any_eq_false]
  exact fun x hx => by rw [h x hx]; decide
 ·symm
  rw [decide_eq_true (by omega), List.any_eq_true]
  exact ⟨l[i], List.getElem_mem hi, h1⟩
set_option maxRecDepth 100000 in
set_option maxHeartbeats 4000000 in
theorem ContainsT_any (g : Nat) (lb : Array Value) (eg : ∀ args w, (callFunc g args).run Tryz.prog w = .ok (.enter g args) w) (I : World → Prop) (Z : Txt → Prop) (p : Txt → Bool) (hI : Stays I) (hT : Tells g lb I Z p) (v : Value) (l : List Txt) (w : World) (hv : Str w v l) (hZ : ∀ x ∈ l, Z x) (hw : I w) (hn : l.length ≤ 1000000) :
  Calls Tryz.prog 21 #[v, .func (.func g) #[] lb] w fun e w' => e = .returned (.bool (l.any p)) ∧ Below w.heap.size w w' := by
 have hX := Lib.hid (IndexT_any g lb eg I Z p hI hT v l w hv hZ hw hn)
 clear hI hT hv hZ hw
 go_enter Tryz.func21, Tryz.ntmps21
 go_wp2_with fail
 refine hX.out.mono ?_
 rintro e w2 ⟨k, rfl, hk, hb⟩
 have hkH := Lib.hid hk
 have hbH := Lib.hid hb
 clear hk hb
 go_wp2_with fail
 go_ret
 exact ⟨by rw [← at_contains hkH.out]; try rfl, hbH.out⟩
end Go.Proofs.YtnegfigaiomehaaGreatDoor.Tp
end
section
namespace Go.Proofs.YtnegfigaiomehaaGreatDoor.Tp
open Go.RowKit Go.Lib Go.Shelf Go.Maps Go.Proofs.YtnegfigaiomehaaGreatDoorW.PrintWords Go.Proofs.YtnegfigaiomehaaGreatDoorW.PrintLast Go.Proofs.YtnegfigaiomehaaGreatDoorW.PrintMore Go.Proofs.YtnegfigaiomehaaGreatDoor.U Go.Proofs.YtnegfigaiomehaaGreatDoor.P Go.Proofs.YtnegfigaiomehaaGreatDoor.MapV Go.Proofs.YtnegfigaiomehaaGreatDoor.Ck
set_option maxRecDepth 100000 in
set_option maxHeartbeats 8000000 in
theorem Edge_any (p : Nat) (es : List EdgeL) (defs : List Txt) (m : Nat) (w : World) (hG : GraphAt w p es defs) (hE : es.length ≤ 1000) (hm : m < es.length) (hF : Few4 es[m]) :
  Calls Tryz.prog 22 #[ptr p, .int .i64 (m : Int)] w fun e w' => ∃ cs, e = .returned (.agg cs.toArray) ∧ EdgeAt w' cs es[m] ∧ Below w.heap.size w w' := by
 obtain ⟨A0, c0, A1, c1, mb, A3, c3, hb, ⟨_, hC⟩, _⟩ := hG.blk
 obtain ⟨ad, a0, d0, a1, d1, a2, d2, a3, d3, rfl, k0, k1, k2, k3, k4, k5, hed⟩ := edge_at rfl hC m hm
 have n0 : (0 : Int) ≤ (m : Int) := by omega
 have n1 : (m : Int) < (es.length : Int) := by omega
 have n2 : decide ((m : Int) < 0) = false := by rw [decide_eq_false_iff_not]; omega
 have n3 : decide ((m : Int) ≥ (es.length : Int)) = false := by rw [decide_eq_false_iff_not]; omega
 have n4 : decide ((es.length : Int) ≤ (m : Int)) = false := by rw [decide_eq_false_iff_not]; omega
 generalize es[m] = e at *
 obtain ⟨Z6, hZ6⟩ : ∃ Z : Array Value, Z = #[.slice none 0 0, .slice none 0 0, .slice none 0 0, .slice none 0 0, .string ⟨#[]⟩, .string ⟨#[]⟩] := ⟨_, rfl⟩
 have hb1 : Below w.heap.size w (w.alloc (.cells #[.slice none 0 0, .slice none 0 0, .slice none 0 0, .slice none 0 0, .string ⟨#[]⟩, .string ⟨#[]⟩] 35)) := (Below.refl _ _).alloc (Nat.le_refl _) _
 have hx := heap_alloc_new w (.cells #[.slice none 0 0, .slice none 0 0, .slice none 0 0, .slice none 0 0, .string ⟨#[]⟩, .string ⟨#[]⟩] 35)
 have x0 := (cell_of_heap (j := 0) (below_blk hb1 hb)).trans rfl
 replace k0 := below_cell hb1 k0
 replace k1 := below_cell hb1 k1
 replace k2 := below_cell hb1 k2
 replace k3 := below_cell hb1 k3
 replace k4 := below_cell hb1 k4
 replace k5 := below_cell hb1 k5
 have hcp := Lib.hid (copied_any _ e _ (hed.below hb1) hF)
 have hb1H := Lib.hid hb1
 have hxH := Lib.hid hx
 clear hG hb hC hb1 hx hed
 unfold ptr
 go_enter Tryz.func22, Tryz.ntmps22
 go_wp2_with fail
 refine hcp.out.mono ?_
 rintro x w1 ⟨cs, rfl, hM, hb⟩
 obtain ⟨v0, v1, v2, v3, rfl, g0, g1, g2, g3⟩ := k35_openM hM
 obtain ⟨E0, f0, rfl⟩ := Kd.R_slice g0
 obtain ⟨E1, f1, rfl⟩ := Kd.R_slice g1
 obtain ⟨E2, f2, rfl⟩ := Kd.R_slice g2
 obtain ⟨E3, f3, rfl⟩ := Kd.R_slice g3
 have hy := below_blk hb hxH.out
 have hyH := Lib.hid hy
 have hB1 := Lib.hid (hb1H.out.trans (hb.mono hb1H.out.size))
 have hs : (w.alloc (.cells #[.slice none 0 0, .slice none 0 0, .slice none 0 0, .slice none 0 0, .string ⟨#[]⟩, .string ⟨#[]⟩] 35)).heap.size = w.heap.size + 1 := by simp
 rw [hs] at g0 g1 g2 g3
 have h0 := Lib.hid g0
 have h1 := Lib.hid g1
 have h2 := Lib.hid g2
 have h3 := Lib.hid g3
 clear g0 g1 g2 g3 hM hb hy k0 k1 k2 k3 k4 k5 x0 n0 n1 n2 n3 n4 hcp
 replace h0 : Hid (Kd.R Kd.string 9 w1 (w.heap.size + 1) (fun _ => True) (.slice E0 e.outs.length f0) (e.outs.map B)) := by
  have := h0.out
  rw [show (toE e).f0.length = e.outs.length from List.length_map ..] at this
  exact this
 replace h1 : Hid (Kd.R Kd.string 9 w1 (w.heap.size + 1) (fun _ => True) (.slice E1 e.ins.length f1) (e.ins.map B)) := by
  have := h1.out
  rw [show (toE e).f1.length = e.ins.length from List.length_map ..] at this
  exact this
 replace h2 : Hid (Kd.R Kd.string 9 w1 (w.heap.size + 1) (fun _ => True) (.slice E2 e.imp.length f2) (e.imp.map B)) := by
  have := h2.out
  rw [show (toE e).f2.length = e.imp.length from List.length_map ..] at this
  exact this
 replace h3 : Hid (Kd.R Kd.string 9 w1 (w.heap.size + 1) (fun _ => True) (.slice E3 e.ord.length f3) (e.ord.map B)) := by
  have := h3.out
  rw [show (toE e).f3.length = e.ord.length from List.length_map ..] at this
  exact this
 simp only [toE, List.length_map]
 have q0 := (cell_of_heap (j := 0) hyH.out).trans rfl
 have q1 := (cell_of_heap (j := 1) hyH.out).trans rfl
 have q2 := (cell_of_heap (j := 2) hyH.out).trans rfl
 have q3 := (cell_of_heap (j := 3) hyH.out).trans rfl
 have q4 := (cell_of_heap (j := 4) hyH.out).trans rfl
 have q5 := (cell_of_heap (j := 5) hyH.out).trans rfl
 have qf0 := frozen_of_heap hyH.out 0
 have qf1 := frozen_of_heap hyH.out 1
 have qf2 := frozen_of_heap hyH.out 2
 have qf3 := frozen_of_heap hyH.out 3
 have qf4 := frozen_of_heap hyH.out 4
 have qf5 := frozen_of_heap hyH.out 5
 have m0_0 := h0
 have m1_0 := h1
 have m2_0 := h2
 have m3_0 := h3
 have m0_1 := Lib.hid (R_set_old (j := 0) m0_0.out (.slice E0 e.outs.length f0) (by omega : w.heap.size < w.heap.size + 1))
 have m1_1 := Lib.hid (R_set_old (j := 0) m1_0.out (.slice E0 e.outs.length f0) (by omega : w.heap.size < w.heap.size + 1))
 have m2_1 := Lib.hid (R_set_old (j := 0) m2_0.out (.slice E0 e.outs.length f0) (by omega : w.heap.size < w.heap.size + 1))
 have m3_1 := Lib.hid (R_set_old (j := 0) m3_0.out (.slice E0 e.outs.length f0) (by omega : w.heap.size < w.heap.size + 1))
 have m0_2 := Lib.hid (R_set_old (j := 1) m0_1.out (.slice E1 e.ins.length f1) (by omega : w.heap.size < w.heap.size + 1))
 have m1_2 := Lib.hid (R_set_old (j := 1) m1_1.out (.slice E1 e.ins.length f1) (by omega : w.heap.size < w.heap.size + 1))
 have m2_2 := Lib.hid (R_set_old (j := 1) m2_1.out (.slice E1 e.ins.length f1) (by omega : w.heap.size < w.heap.size + 1))
 have m3_2 := Lib.hid (R_set_old (j := 1) m3_1.out (.slice E1 e.ins.length f1) (by omega : w.heap.size < w.heap.size + 1))
 have m0_3 := Lib.hid (R_set_old (j := 2) m0_2.out (.slice E2 e.imp.length f2) (by omega : w.heap.size < w.heap.size + 1))
 have m1_3 := Lib.hid (R_set_old (j := 2) m1_2.out (.slice E2 e.imp.length f2) (by omega : w.heap.size < w.heap.size + 1))
 have m2_3 := Lib.hid (R_set_old (j := 2) m2_2.out (.slice E2 e.imp.length f2) (by omega : w.heap.size < w.heap.size + 1))
 have m3_3 := Lib.hid (R_set_old (j := 2) m3_2.out (.slice E2 e.imp.length f2) (by omega : w.heap.size < w.heap.size + 1))
 have m0_4 := Lib.hid (R_set_old (j := 3) m0_3.out (.slice E3 e.ord.length f3) (by omega : w.heap.size < w.heap.size + 1))
 have m1_4 := Lib.hid (R_set_old (j := 3) m1_3.out (.slice E3 e.ord.length f3) (by omega : w.heap.size < w.heap.size + 1))
 have m2_4 := Lib.hid (R_set_old (j := 3) m2_3.out (.slice E3 e.ord.length f3) (by omega : w.heap.size < w.heap.size + 1))
 have m3_4 := Lib.hid (R_set_old (j := 3) m3_3.out (.slice E3 e.ord.length f3) (by omega : w.heap.size < w.heap.size + 1))
 have m0_5 := Lib.hid (R_set_old (j := 4) m0_4.out (.string (B e.cmd)) (by omega : w.heap.size < w.heap.size + 1))
 have m1_5 := Lib.hid (R_set_old (j := 4) m1_4.out (.string (B e.cmd)) (by omega : w.heap.size < w.heap.size + 1))
 have m2_5 := Lib.hid (R_set_old (j := 4) m2_4.out (.string (B e.cmd)) (by omega : w.heap.size < w.heap.size + 1))
 have m3_5 := Lib.hid (R_set_old (j := 4) m3_4.out (.string (B e.cmd)) (by omega : w.heap.size < w.heap.size + 1))
 have m0_6 := Lib.hid (R_set_old (j := 5) m0_5.out (.string (B e.dep)) (by omega : w.heap.size < w.heap.size + 1))
 have m1_6 := Lib.hid (R_set_old (j := 5) m1_5.out (.string (B e.dep)) (by omega : w.heap.size < w.heap.size + 1))
 have m2_6 := Lib.hid (R_set_old (j := 5) m2_5.out (.string (B e.dep)) (by omega : w.heap.size < w.heap.size + 1))
 have m3_6 := Lib.hid (R_set_old (j := 5) m3_5.out (.string (B e.dep)) (by omega : w.heap.size < w.heap.size + 1))
 go_wp2_with fail
 refine bodyPost_ret (results_cell_row rfl _ _ w.heap.size 35 #[.slice E0 e.outs.length f0, .slice E1 e.ins.length f1, .slice E2 e.imp.length f2, .slice E3 e.ord.length f3, .string (B e.cmd), .string (B e.dep)] (0, 0) _ rfl (blk_put (blk_put (blk_put (blk_put (blk_put (blk_put hyH.out 0 _ rfl) 1 _ rfl) 2 _ rfl) 3 _ rfl) 4 _ rfl) 5 _ rfl) Tryz.underlying35 rfl (by kernel_rfl)) rfl ?_
 refine ⟨[.slice E0 e.outs.length f0, .slice E1 e.ins.length f1, .slice E2 e.imp.length f2, .slice E3 e.ord.length f3, .string (B e.cmd), .string (B e.dep)], rfl, ?_, ((((((hB1.out.setCell (by show _ ≤ w.heap.size; omega) _).setCell (by show _ ≤ w.heap.size; omega) _).setCell (by show _ ≤ w.heap.size; omega) _).setCell (by show _ ≤ w.heap.size; omega) _).setCell (by show _ ≤ w.heap.size; omega) _).setCell (by show _ ≤ w.heap.size; omega) _)⟩
 exact ⟨_, _, _, _, rfl, str_of_R m0_6.out, str_of_R m1_6.out, str_of_R m2_6.out, str_of_R m3_6.out⟩
end Go.Proofs.YtnegfigaiomehaaGreatDoor.Tp
end
section
namespace Go.Proofs.YtnegfigaiomehaaGreatDoor.Tp
open Go.RowKit Go.Lib Go.Shelf Go.Maps Go.Proofs.YtnegfigaiomehaaGreatDoorW.PrintWords Go.Proofs.YtnegfigaiomehaaGreatDoorW.PrintLast Go.Proofs.YtnegfigaiomehaaGreatDoorW.PrintMore Go.Proofs.YtnegfigaiomehaaGreatDoor.U Go.Proofs.YtnegfigaiomehaaGreatDoor.P Go.Proofs.YtnegfigaiomehaaGreatDoor.MapV Go.Proofs.YtnegfigaiomehaaGreatDoor.Ck
theorem grown_set (w : World) (g j : Nat) (u : Value) : w.grownBy (w.setCell ⟨g, j, none⟩ u) (some g) := by
 have hb := (Below.refl 0 w).setCell (p := ⟨g, j, none⟩) (Nat.zero_le _) u
 exact ⟨hb.os, hb.tape, hb.output, hb.size, fun k _ hk => Below.heap_setCell w _ u k (fun e => hk (by rw [e]))⟩
theorem grown_below {w w' : World} (h : Below w.heap.size w w') (r : Option Nat) : w.grownBy w' r := ⟨h.os, h.tape, h.output, h.size, fun k hk _ => h.block k hk⟩
theorem grown_trans {a b c : World} {r : Option Nat} (h : a.grownBy b r) (k : b.grownBy c r) : a.grownBy c r := ⟨k.os.trans h.os, k.tape.trans h.tape, k.output.trans h.output, Nat.le_trans h.size k.size, fun i hi hr => (k.block i (Nat.lt_of_lt_of_le hi h.size) hr).trans (h.block i hi hr)⟩
theorem setCells_blk {g : Nat} {t : TypeId} : ∀ (vs : List Value) (o : Nat) (w : World) (cs : Array Value), w.heap[g]? = some (.cells cs t (0, 0)) → ∃ cs', (w.setCells g o vs).heap[g]? = some (.cells cs' t (0, 0)) ∧ cs'.size = cs.size ∧ (∀ q, q < o → cs'[q]? = cs[q]?) ∧ w.grownBy (w.setCells g o vs) (some g)
 | [], o, w, cs, h => ⟨cs, h, rfl, fun _ _ => rfl, grown_below (Below.refl _ _) _⟩
 | v :: vs, o, w, cs, h => by
  have h1 := blk_put h o v rfl
  obtain ⟨cs', h2, h3, h4, h5⟩ := setCells_blk vs (o + 1) (w.setCell ⟨g, o, none⟩ v) _ h1
  refine ⟨cs', h2, by rw [h3]; simp, fun q hq => ?_, grown_trans (grown_set w g o v) h5⟩
  rw [h4 q (by omega), Array.getElem?_setIfInBounds_ne (by omega)]
def keepL (p : Txt → Bool) (l : List Txt) : List Txt := l.filter fun x => !p x
theorem keep_take (p : Txt → Bool) (l : List Txt) (j : Nat) (h : j < l.length) : keepL p (l.take (j + 1)) = keepL p (l.take j) ++ (if p l[j] = true then [] else [l[j]]) := by
 unfold keepL
 rw [List.take_succ_eq_append_getElem h, List.filter_append]
 cases hq : p l[j] <;> simp [hq]
structure Del (w0 : World) (g : Nat) (p : Txt → Bool) (l : List Txt) (cap i j : Nat) (w : World) : Prop where
 blk : ∃ arr, w.heap[g]? = some (.cells arr 9 (0, 0)) ∧ arr.size = cap ∧ (∀ q, q < i → arr[q]? = ((keepL p (l.take j)).map encStr)[q]?) ∧ (∀ q (h : q < l.length), j ≤ q → arr[q]? = some (encStr l[q])) ∧ ∀ q, q < l.length → ∃ t : Txt, arr[q]? = some (encStr t)
 len : i = (keepL p (l.take j)).length
 grown : w0.grownBy w (some g)
theorem Del.below {w0 w w' : World} {g cap i j : Nat} {p : Txt → Bool} {l : List Txt} (h : Del w0 g p l cap i j w) (hb : Below w.heap.size w w') : Del w0 g p l cap i j w' := by
 obtain ⟨arr, h1, h2⟩ := h.blk
 exact ⟨⟨arr, below_blk hb h1, h2⟩, h.len, grown_trans h.grown (grown_below hb _)⟩
theorem Del.cellAt {w0 w : World} {g cap i j q : Nat} {p : Txt → Bool} {l : List Txt} (h : Del w0 g p l cap i j w) (hq : q < l.length) : ∃ t : Txt, w.cell? ⟨g, q, none⟩ = some (.string (B t)) ∧ w.frozen? ⟨g, q, none⟩ = false := by
 obtain ⟨arr, h1, _, _, _, h5⟩ := h.blk
 obtain ⟨t, ht⟩ := h5 q hq
 exact ⟨t, by rw [cell_of_heap h1, ht], frozen_of_heap h1 _⟩
theorem Del.drop {w0 w : World} {g cap i j : Nat} {p : Txt → Bool} {l : List Txt} (h : Del w0 g p l cap i j w) (hj : j < l.length) (hp : p l[j] = true) : Del w0 g p l cap i (j + 1) w := by
 obtain ⟨arr, h1, h2, h3, h4, h5⟩ := h.blk
 have e : keepL p (l.take (j + 1)) = keepL p (l.take j) := by rw [keep_take p l j hj, if_pos hp, List.append_nil]
 exact ⟨⟨arr, h1, h2, by rw [e]; exact h3, fun q hq hjq => h4 q hq (by omega), h5⟩, by rw [e]; exact h.len, h.grown⟩
theorem Del.keep {w0 w : World} {g cap i j : Nat} {p : Txt → Bool} {l : List Txt} (h : Del w0 g p l cap i j w) (hj : j < l.length) (hij : i < j) (hp : p l[j] = false) : Del w0 g p l cap (i + 1) (j + 1) (w.setCell ⟨g, i, none⟩ (encStr l[j])) := by
 obtain ⟨arr, h1, h2, h3, h4, h5⟩ := h.blk
 have e : keepL p (l.take (j + 1)) = keepL p (l.take j) ++ [l[j]] := by rw [keep_take p l j hj, hp]; rfl
 have hia : i < arr.size := by
  obtain ⟨t, ht⟩ := h5 i (by omega)
  exact (Array.getElem?_eq_some_iff.1 ht).1
 refine ⟨⟨_, blk_put h1 i _ rfl, by simp [h2], fun q hq => ?_, fun q hq hjq => ?_, fun q hq => ?_⟩, by rw [e, List.length_append, ← h.len]; rfl, grown_trans h.grown (grown_set _ _ _ _)⟩
 ·rw [e, List.map_append]
  have hl := h.len
  rcases Nat.lt_or_eq_of_le (Nat.le_of_lt_succ hq) with hq | rfl
  ·rw [Array.getElem?_setIfInBounds_ne (by omega), h3 q hq, List.getElem?_append_left (by rw [List.length_map]; omega)]
  ·rw [Array.getElem?_setIfInBounds_self_of_lt hia, List.getElem?_append_right (by rw [List.length_map]; omega)]
   simp [← hl]
 ·rw [Array.getElem?_setIfInBounds_ne (by omega)]; exact h4 q hq (by omega)
 ·by_cases hq2 : q = i
  ·subst hq2; exact ⟨l[j], Array.getElem?_setIfInBounds_self_of_lt hia⟩
  ·rw [Array.getElem?_setIfInBounds_ne (by omega)]; exact h5 q hq
set_option maxRecDepth 100000 in
set_option maxHeartbeats 16000000 in
theorem DeleteT_any (g : Nat) (lb : Array Value) (eg : ∀ args w, (callFunc g args).run Tryz.prog w = .ok (.enter g args) w) (I : World → Prop) (Z : Txt → Prop) (p : Txt → Bool) (hI : Stays I) (hT : Tells g lb I Z p) (v : Value) (l : List Txt) (base : Nat) (w : World) (ho : Own w base v l) (hJ : ∀ W', w.grownBy W' v.ownBlock → I W') (hZ : ∀ x ∈ l, Z x) (hn : l.length ≤ 1000000) :
  Calls Tryz.prog 48 #[v, .func (.func g) #[] lb] w fun e w' => ∃ v', e = .returned v' ∧ Own w' base v' (keepL p l) ∧ w.grownBy w' v.ownBlock := by
 have hX := Lib.hid (IndexT_any g lb eg I Z p hI hT v l w (str_of_R (own_R ho)) hZ (hJ w (grown_below (Below.refl _ _) _)) hn)
 have hTH := Lib.hid hT
 have hJH := Lib.hid hJ
 have hZH := Lib.hid hZ
 have hoH := Lib.hid ho
 obtain ⟨A, c, rfl, _, _⟩ := str_of_R (own_R ho)
 clear hI hT hJ hZ ho
 go_enter Tryz.func48, Tryz.ntmps48
 go_wp2_with fail
 refine hX.out.mono ?_
 rintro e w1 ⟨k, rfl, hk, hb⟩
 have hbH := Lib.hid hb
 clear hb
 rcases hk with ⟨rfl, hall⟩ | ⟨i0, hi0, rfl, hp0, hpre⟩
 ·have hk0 : Hid (keepL p l = l) := Lib.hid (List.filter_eq_self.2 (fun x hx => by rw [hall x hx]; rfl))
  clear hall
  go_wp2_with fail
  go_ret
  refine ⟨_, rfl, ?_, grown_below hbH.out _⟩
  rw [hk0.out]
  exact R_own' (Kd.R_below (own_R hoH.out) hbH.out)
 ·have hge : decide (((i0 : Nat) : Int) = -1) = false := by rw [decide_eq_false_iff_not]; omega
  have hge2 : (((i0 : Nat) : Int) == -1) = false := by rw [beq_eq_false_iff_ne]; omega
  rcases hoH.out.2 with ⟨he, hn0⟩ | ⟨bk, cap, cur, he, hbase, hb, h1, h2, h3, h4⟩
  ·exfalso
   have : l.length = 0 := by simpa using hn0
   omega
  injection he with e1 _ e3
  subst e1 e3
  rw [Nat.mul_one] at h4
  have htake : keepL p (l.take (i0 + 1)) = l.take i0 := by
   rw [keep_take p l i0 hi0, if_pos hp0, List.append_nil]
   refine List.filter_eq_self.2 fun x hx => ?_
   obtain ⟨q, hq, rfl⟩ := List.mem_iff_getElem.1 hx
   rw [List.length_take] at hq
   rw [List.getElem_take, hpre q (by omega)]; rfl
  have hcur : ∀ q (h : q < l.length), cur[q]? = some (encStr l[q]) := fun q hq => by
   have := congrArg (fun a => a[q]?) h4
   simp only [List.getElem?_take_of_lt hq, Array.getElem?_toList, List.getElem?_map, List.getElem?_eq_getElem hq, Option.map_some] at this
   exact this
  have hD : Hid (Del w bk p l c i0 (i0 + 1) w1) := by
   refine Lib.hid ⟨⟨cur, below_blk hbH.out hb, by rw [h3, Nat.mul_one], fun q hq => ?_, fun q hq _ => hcur q hq, fun q hq => ⟨_, hcur q hq⟩⟩, ?_, grown_below hbH.out _⟩
   ·rw [htake, hcur q (by omega), List.getElem?_map, List.getElem?_take_of_lt hq, List.getElem?_eq_getElem (by omega)]; rfl
   ·rw [htake, List.length_take, Nat.min_eq_left (by omega)]
  clear hcur h4 htake hb hpre hp0
  obtain ⟨n, hN⟩ : ∃ n, l.length = n := ⟨_, rfl⟩
  have hNH := Lib.hid hN
  rw [hN] at hn hi0 h1 ⊢
  clear hN
  go_wp2_with fail
  go_loopg [5, 6] (n - (i0 + 1)) (fun gk s5 s6 wr => ∃ i j : Nat, s5 = .int .i64 (i : Int) ∧ s6 = .int .i64 (j : Int) ∧ j + gk = n ∧ i < j ∧ Hid (Del w bk p l c i j wr))
  case atStart => exact ⟨i0, i0 + 1, rfl, by first | rfl | simp, by omega, by omega, hD⟩
  case round =>
   obtain ⟨i, j, rfl, rfl, hjk, hij, hDl⟩ := hrel
   clear hD
   cases gk with
   | zero =>
    obtain rfl : j = n := by omega
    have hlt : decide ((j : Int) < (j : Int)) = false := by simp
    obtain ⟨arr, a1, a2, a3, a4, a5⟩ := hDl.out.blk
    have hcl : ∀ ty, (Builtin.clear_ #[23] ty #[.slice (some ⟨bk, i, none⟩) (j - i) (c - i)]).run Tryz.prog wr = .ok (.tuple #[]) (wr.setCells bk i (List.replicate (j - i) (.string ⟨#[]⟩))) :=
     fun ty => Lib.run_clear_slice wr _ _ ty _ Tryz.underlying23 (fun w => by first | exact Tryz.zeroValue9 w | exact Tryz.zeroValue9) rfl rfl bk i _ _ (by omega) (fun t ht => by
      obtain ⟨x, hx⟩ := a5 (i + t) (by rw [hNH.out]; omega)
      rw [cell_of_heap a1, hx]; rfl) (fun t ht => frozen_of_heap a1 _)
    obtain ⟨arr2, b1, b2, b3, b4⟩ := setCells_blk (List.replicate (j - i) (.string ⟨#[]⟩)) i wr arr a1
    have i1 : (0 : Int) ≤ (i : Int) := by omega
    have i2 : (i : Int) ≤ (j : Int) := by omega
    have i3 : (j : Int) ≤ (c : Int) := by omega
    have i4 : (i : Int) ≤ (c : Int) := by omega
    have hlen := hDl.out.len
    have hgr := hDl.out.grown
    rw [List.take_of_length_le (by rw [hNH.out]; exact Nat.le_refl _)] at hlen a3
    have hfin : Hid (Own (wr.setCells bk i (List.replicate (j - i) (.string ⟨#[]⟩))) base (.slice (some ⟨bk, 0, none⟩) i c) (keepL p l)) := by
     refine Lib.hid ?_
     unfold Own
     rw [← hlen]
     refine ⟨by rw [List.length_map, ← hlen, Nat.mul_one], .inr ⟨bk, c, arr2, rfl, hbase, b1, by omega, h2, by rw [b2, a2, Nat.mul_one], ?_⟩⟩
     rw [Nat.mul_one]
     refine List.ext_getElem? fun q => ?_
     by_cases hq : q < i
     ·rw [List.getElem?_take_of_lt hq, Array.getElem?_toList, b3 q hq, a3 q hq]
     ·rw [List.getElem?_take_eq_none (by omega), List.getElem?_eq_none (by rw [List.length_map]; omega)]
    have hgf := Lib.hid (grown_trans hgr b4)
    clear a1 a2 a3 a4 a5 b1 b2 b3 b4 hlen hgr
    go_wp2_with fail
    go_ret
    exact ⟨_, rfl, hfin.out, by simpa [Value.ownBlock] using hgf.out⟩
   | succ gk =>
    have hj : j < l.length := by rw [hNH.out]; omega
    have hlt : decide ((j : Int) < (n : Int)) = true := by rw [decide_eq_true_iff]; omega
    have i1 : (0 : Int) ≤ (j : Int) := by omega
    have i2 : (j : Int) < (n : Int) := by omega
    have i3 : (0 : Int) ≤ (i : Int) := by omega
    have i4 : (i : Int) < (n : Int) := by omega
    obtain ⟨arr, a1, a2, a3, a4, a5⟩ := hDl.out.blk
    have k0 : wr.cell? ⟨bk, j, none⟩ = some (.string (B l[j])) := by rw [cell_of_heap a1, a4 j hj (Nat.le_refl _)]
    have hIw := hJH.out wr (by simpa [Value.ownBlock] using hDl.out.grown)
    have hcall := hTH.out wr l[j] hIw (hZH.out _ (List.getElem_mem hj))
    have hkp := Lib.hid (fun (W : World) (h : Del w bk p l c i j W) (hq : p l[j] = false) => h.keep hj hij hq)
    have hdp := Lib.hid (fun (W : World) (h : Del w bk p l c i j W) (hq : p l[j] = true) => h.drop hj hq)
    generalize l[j] = x at *
    clear a1 a2 a3 a4 a5 hIw
    cases hq : p x with
    | true =>
     rw [hq] at hcall
     have hcH := Lib.hid hcall
     clear hcall
     go_wp2_with (go_at_fn g; refine hcH.out.mono ?_; rintro e w2 ⟨rfl, hb⟩)
     have hD2 := Lib.hid (hdp.out _ (hDl.out.below hb) hq)
     go_roundg gk
     case measure => omega
     case rel => exact ⟨i, j + 1, rfl, by first | rfl | simp, by omega, by omega, hD2⟩
    | false =>
     rw [hq] at hcall
     have hcH := Lib.hid hcall
     clear hcall
     have hci : Hid (∀ W, Del w bk p l c i j W → ∃ t : Txt, W.cell? ⟨bk, i, none⟩ = some (.string (B t)) ∧ W.frozen? ⟨bk, i, none⟩ = false) := Lib.hid (fun W hW => hW.cellAt (by omega))
     go_wp2_with (go_at_fn g; refine hcH.out.mono ?_; rintro e w2 ⟨rfl, hb⟩; have hD2 := Lib.hid (hDl.out.below hb); clear hb; obtain ⟨t2, ct, ft⟩ := hci.out w2 hD2.out)
     have hD3 : Hid (Del w bk p l c (i + 1) (j + 1) (w2.setCell ⟨bk, i, none⟩ (.string (B x)))) := Lib.hid (hkp.out _ hD2.out hq)
     go_roundg gk
     case measure => omega
     case rel => exact ⟨i + 1, j + 1, by first | rfl | simp, by first | rfl | simp, by omega, by omega, hD3⟩
end Go.Proofs.YtnegfigaiomehaaGreatDoor.Tp
end
section
namespace Go.Proofs.YtnegfigaiomehaaGreatDoor.Tp
open Go.RowKit Go.Lib Go.Shelf Go.Maps Go.Proofs.YtnegfigaiomehaaGreatDoorW.PrintWords Go.Proofs.YtnegfigaiomehaaGreatDoorW.PrintLast Go.Proofs.YtnegfigaiomehaaGreatDoorW.PrintMore Go.Proofs.YtnegfigaiomehaaGreatDoor.U Go.Proofs.YtnegfigaiomehaaGreatDoor.P Go.Proofs.YtnegfigaiomehaaGreatDoor.MapV Go.Proofs.YtnegfigaiomehaaGreatDoor.Ck
structure PairF where
 n : Txt
 A : Option Addr
 k : Nat
 c : Nat
def encS (x : Option Addr × Nat × Nat) : Value := .slice x.1 x.2.1 x.2.2
def KP : Kd PairF := Kd.iso (Kd.pair Kd.string (Kd.scalar encS (fun _ => rfl))) (fun p => (B p.n, p.A, p.k, p.c))
def pcells (p : PairF) : List Value := [.string (B p.n), .slice p.A p.k p.c]
theorem KP_K {w : World} {p : PairF} {cs : List Value} : KP.K w p cs ↔ cs = pcells p :=
 ⟨by rintro ⟨_, _, rfl, rfl, rfl⟩; rfl, by rintro rfl; exact ⟨[_], [_], rfl, rfl, rfl⟩⟩
theorem KP_M (w : World) (base : Nat) (ok : Nat → Prop) (p : PairF) : KP.M w base ok p (pcells p) := ⟨[_], [_], rfl, rfl, rfl⟩
theorem KP_MK {w : World} {base : Nat} {ok : Nat → Prop} {p : PairF} {cs : List Value} (h : cs = pcells p) : KP.M w base ok p cs := by subst h; exact KP_M _ _ _ _
structure Is (w : World) (p : PairF) (f : FileL) : Prop where
 n : p.n = f.n
 k : p.k = f.b.length
 c : p.k ≤ p.c
 b : (Kd.int .u8).C w p.A f.b.length (ints f.b)
theorem Is.below {w w' : World} {p : PairF} {f : FileL} (h : Is w p f) (hb : Below w.heap.size w w') : Is w' p f := ⟨h.n, h.k, h.c, Kd.C_below h.b hb⟩
inductive Row (w : World) : List PairF → List FileL → Prop
 | nil : Row w [] []
 | cons {p : PairF} {f : FileL} {ps : List PairF} {fs : List FileL} : Is w p f → Row w ps fs → Row w (p :: ps) (f :: fs)
theorem Row.later {w w' : World} {ps : List PairF} {fs : List FileL} (h : Row w ps fs) (hb : Below w.heap.size w w') : Row w' ps fs := by
 induction h with
 | nil => exact .nil
 | cons h1 _ ih => exact .cons (h1.below hb) ih
theorem Row.len {w : World} {ps : List PairF} {fs : List FileL} (h : Row w ps fs) : ps.length = fs.length := by
 induction h with
 | nil => rfl
 | cons _ _ ih => rw [List.length_cons, List.length_cons, ih]
theorem Row.app {w : World} {ps qs : List PairF} {fs gs : List FileL} (h : Row w ps fs) (h' : Row w qs gs) : Row w (ps ++ qs) (fs ++ gs) := by
 induction h with
 | nil => exact h'
 | cons h1 _ ih => exact .cons h1 ih
theorem Row.filter {w : World} {ps : List PairF} {fs : List FileL} (h : Row w ps fs) (q : Txt → Bool) : Row w (ps.filter fun p => q p.n) (fs.filter fun f => q f.n) := by
 induction h with
 | nil => exact .nil
 | cons h1 _ ih =>
  rw [List.filter_cons, List.filter_cons, h1.n]
  split
  ·exact .cons h1 ih
  ·exact ih
theorem Row.get {w : World} {ps : List PairF} {fs : List FileL} (h : Row w ps fs) : ∀ (i : Nat) (hi : i < ps.length) (hj : i < fs.length), Is w ps[i] fs[i] := by
 induction h with
 | nil => exact fun i hi => absurd hi (by simp)
 | cons h1 _ ih =>
  intro i hi hj
  cases i with
  | zero => exact h1
  | succ i => exact ih i (by simpa using hi) (by simpa using hj)
theorem row_get {w : World} : ∀ (ps : List PairF) (fs : List FileL), ps.length = fs.length → (∀ (i : Nat) (hi : i < ps.length) (hj : i < fs.length), Is w ps[i] fs[i]) → Row w ps fs
 | [], [], _, _ => .nil
 | [], _ :: _, h, _ => by cases h
 | _ :: _, [], h, _ => by cases h
 | p :: ps, f :: fs, h, hr => .cons (hr 0 (by simp) (by simp)) (row_get ps fs (by simpa using h) (fun i hi hj => hr (i + 1) (by simpa using hi) (by simpa using hj)))
theorem row_of {w : World} {A : Option Addr} {fs : List FileL} (h : Kd.C KF w A fs.length (fs.map toF)) : ∃ ps, Row w ps fs ∧ Kd.C KP w A ps.length ps := by
 have h' : Kd.C KF w A (fs.map toF).length (fs.map toF) := by rw [List.length_map]; exact h
 have hp : ∀ j, ∃ p : PairF, ∀ hj : j < fs.length, Is w p fs[j] ∧ ∃ ad, A = some ad ∧ ∀ i u, (pcells p)[i]? = some u → w.cell? (ad.add (j * 2 + i)) = some u := by
  intro j
  by_cases hj : j < fs.length
  ·obtain ⟨ad, A1, c1, hA, k0, k1, l1, g1⟩ := file_at h' j hj
   refine ⟨⟨fs[j].n, A1, fs[j].b.length, c1⟩, fun _ => ⟨⟨rfl, rfl, l1, g1⟩, ad, hA, fun i u hu => ?_⟩⟩
   match i, hu with
   | 0, hu =>
    have : Value.string (B fs[j].n) = u := by simpa [pcells] using hu
    rw [← this]; exact k0
   | 1, hu =>
    have : Value.slice A1 fs[j].b.length c1 = u := by simpa [pcells] using hu
    rw [← this, add_field _ _ 1 (by omega)]; exact k1
   | i + 2, hu => exact absurd hu (by simp [pcells])
  ·exact ⟨⟨[], none, 0, 0⟩, fun h => absurd h hj⟩
 refine ⟨(List.range fs.length).map fun j => Classical.choose (hp j), row_get _ _ (by simp) (fun i hi hj => ?_), by simp, by have := h.2.1; simpa using this, fun h0 => ?_⟩
 ·have := (Classical.choose_spec (hp i) hj).1
  simpa using this
 ·have h0' : 0 < fs.length := by simpa using h0
  obtain ⟨_, ad, hA, _⟩ := Classical.choose_spec (hp 0) h0'
  refine ⟨ad, hA, fun j p hj => ?_⟩
  obtain ⟨hl, rfl⟩ := List.getElem?_eq_some_iff.1 hj
  have hl' : j < fs.length := by simpa using hl
  obtain ⟨_, ad', hA', hc⟩ := Classical.choose_spec (hp j) hl'
  have : ad' = ad := by rw [hA] at hA'; injection hA' with h; exact h.symm
  subst this
  refine ⟨pcells (Classical.choose (hp j)), rfl, by rw [KP_K]; simp, hc⟩
theorem files_of {w : World} {A : Option Addr} {ps : List PairF} {fs : List FileL} (h : Kd.C KP w A ps.length ps) (hr : Row w ps fs) : Kd.C KF w A fs.length (fs.map toF) := by
 have hl := hr.len
 refine ⟨by simp, by rw [← hl]; exact h.2.1, fun h0 => ?_⟩
 obtain ⟨ad, hA, hc⟩ := h.2.2 (by omega)
 refine ⟨ad, hA, fun j x hj => ?_⟩
 rw [List.getElem?_map] at hj
 obtain ⟨f, hf, rfl⟩ := Option.map_eq_some_iff.1 hj
 obtain ⟨hjl, rfl⟩ := List.getElem?_eq_some_iff.1 hf
 obtain ⟨c, hcl, hK, hcell⟩ := hc j _ (List.getElem?_eq_getElem (show j < ps.length by omega))
 rw [KP_K] at hK
 subst hK
 have hi := hr.get j (by omega) hjl
 refine ⟨_, hcl, ?_, hcell⟩
 have := k40_mk w (toF fs[j]) (A1 := ps[j].A) (c1 := ps[j].c) (by show (ints fs[j].b).length ≤ _; rw [ints_len, ← hi.k]; exact hi.c) (by show Kd.C _ _ _ (ints fs[j].b).length _; rw [ints_len]; exact hi.b)
 have e1 : (toF fs[j]).f1.length = ps[j].k := by rw [hi.k]; exact ints_len _
 rw [e1] at this
 show KF.K w (toF fs[j]) _
 unfold pcells
 rw [hi.n]
 exact this
end Go.Proofs.YtnegfigaiomehaaGreatDoor.Tp
end
section
namespace Go.Proofs.YtnegfigaiomehaaGreatDoor.Tp
open Go.RowKit Go.Lib Go.Shelf Go.Maps Go.Proofs.YtnegfigaiomehaaGreatDoorW.PrintWords Go.Proofs.YtnegfigaiomehaaGreatDoorW.PrintLast Go.Proofs.YtnegfigaiomehaaGreatDoorW.PrintMore Go.Proofs.YtnegfigaiomehaaGreatDoor.U Go.Proofs.YtnegfigaiomehaaGreatDoor.P Go.Proofs.YtnegfigaiomehaaGreatDoor.MapV Go.Proofs.YtnegfigaiomehaaGreatDoor.Ck
def Pairs (w : World) (v : Value) (ps : List PairF) : Prop := ∃ A c, v = .slice A ps.length c ∧ ps.length ≤ c ∧ Kd.C KP w A ps.length ps
theorem Pairs.below {w w' : World} {v : Value} {ps : List PairF} (h : Pairs w v ps) (hb : Below w.heap.size w w') : Pairs w' v ps := by
 obtain ⟨A, c, e, hl, h⟩ := h
 exact ⟨A, c, e, hl, Kd.C_below h hb⟩
theorem pairs_of_R {w : World} {base : Nat} {ok : Nat → Prop} {v : Value} {ps : List PairF} (h : Kd.R KP 40 w base ok v ps) : Pairs w v ps := by
 obtain ⟨A, c, e, hl, h⟩ := Kd.R_reads h
 exact ⟨A, c, e, hl, h⟩
theorem pair_at {w : World} {A : Option Addr} {ps : List PairF} {n : Nat} (hn : ps.length = n) (h : Kd.C KP w A n ps) (i : Nat) (hi : i < ps.length) : ∃ ad, A = some ad ∧ w.cell? (ad.add (i * 2)) = some (.string (B ps[i].n)) ∧ w.cell? ⟨(ad.add (i * 2)).block, (ad.add (i * 2)).off + 1, none⟩ = some (.slice ps[i].A ps[i].k ps[i].c) := by
 subst hn
 obtain ⟨ad, hA, hc⟩ := h.2.2 (by omega)
 obtain ⟨c, _, hK, hcell⟩ := hc i _ (List.getElem?_eq_getElem hi)
 rw [KP_K] at hK
 subst hK
 refine ⟨ad, hA, hcell 0 _ rfl, ?_⟩
 rw [← add_field _ _ 1 (by omega)]
 exact hcell 1 _ rfl
def TellsF (g : Nat) (lb : Array Value) (I : World → Prop) (Z : Txt → Prop) (p : Txt → Bool) : Prop := ∀ W (x : PairF), I W → Z x.n → Calls Tryz.prog g (#[.agg #[.string (B x.n), .slice x.A x.k x.c]] ++ lb) W fun e w' => e = .returned (.bool (p x.n)) ∧ Below W.heap.size W w'
set_option maxRecDepth 100000 in
set_option maxHeartbeats 8000000 in
theorem IndexF_any (g : Nat) (lb : Array Value) (eg : ∀ args w, (callFunc g args).run Tryz.prog w = .ok (.enter g args) w) (I : World → Prop) (Z : Txt → Prop) (p : Txt → Bool) (hI : Stays I) (hT : TellsF g lb I Z p) (v : Value) (l : List PairF) (w : World) (hv : Pairs w v l) (hZ : ∀ x ∈ l, Z x.n) (hw : I w) (hn : l.length ≤ 1000000) :
  Calls Tryz.prog 52 #[v, .func (.func g) #[] lb] w fun e w' => ∃ k : Int, e = .returned (.int .i64 k) ∧ At (l.map PairF.n) p k ∧ Below w.heap.size w w' := by
 obtain ⟨A, c, rfl, _, hC⟩ := hv
 obtain ⟨N, hN⟩ : ∃ N, l.length = N := ⟨_, rfl⟩
 have hNH := Lib.hid hN
 have hCH := Lib.hid hC
 have hZH := Lib.hid hZ
 have hIH := Lib.hid hI
 have hTH := Lib.hid hT
 have hwH := Lib.hid hw
 rw [hN] at hn ⊢
 clear hC hZ hI hT hw hN
 go_enter Tryz.func52, Tryz.ntmps52
 go_wp2_with fail
 go_loopg [8] N (fun gk s8 wr => ∃ i : Nat, s8 = .int .i64 (i : Int) ∧ i + gk = N ∧ Hid (∀ (j : Nat) (hj : j < i) (h : j < l.length), p l[j].n = false) ∧ Hid (Below w.heap.size w wr))
 case atStart => exact ⟨0, rfl, Nat.zero_add _, fun j hj => absurd hj (by omega), Below.refl _ _⟩
 case round =>
  obtain ⟨i, rfl, hik, hA, hB⟩ := hrel
  cases gk with
  | zero =>
   obtain rfl : i = N := by omega
   have hlt : decide ((i : Int) < (i : Int)) = false := by simp
   go_wp2_with fail
   go_ret
   refine ⟨_, rfl, .inl ⟨rfl, fun f hf => ?_⟩, hB.out⟩
   obtain ⟨x, hx, rfl⟩ := List.mem_map.1 hf
   obtain ⟨j, hj, rfl⟩ := List.getElem_of_mem hx
   exact hA.out j (by rw [← hNH.out]; exact hj) hj
  | succ gk =>
   have hi : i < l.length := by rw [hNH.out]; omega
   have hlt : decide ((i : Int) < (N : Int)) = true := by rw [decide_eq_true_iff]; omega
   have i1 : (0 : Int) ≤ (i : Int) := by omega
   have i2 : (i : Int) < (N : Int) := by omega
   obtain ⟨ad, hAd, k0, k1⟩ := pair_at rfl hCH.out i hi
   subst hAd
   replace k0 := below_cell hB.out k0
   replace k1 := below_cell hB.out k1
   have hcall := hTH.out wr l[i] (hIH.out _ _ hwH.out hB.out) (hZH.out _ (List.getElem_mem hi))
   obtain ⟨x, hx⟩ : ∃ x, l[i] = x := ⟨_, rfl⟩
   have hxH := Lib.hid hx
   rw [hx] at k0 k1 hcall
   clear hx
   cases hq : p x.n with
   | true =>
    rw [hq] at hcall
    have hcH := Lib.hid hcall
    clear hcall
    go_wp2_with (go_at_fn g; refine hcH.out.mono ?_; rintro e w2 ⟨rfl, hb⟩)
    have hB2 := Lib.hid (hB.out.trans (hb.mono hB.out.size))
    go_ret
    exact ⟨_, rfl, .inr ⟨i, by rw [List.length_map]; exact hi, rfl, by rw [List.getElem_map, hxH.out]; exact hq, fun j hj => by rw [List.getElem_map]; exact hA.out j hj (by omega)⟩, hB2.out⟩
   | false =>
    rw [hq] at hcall
    have hcH := Lib.hid hcall
    clear hcall
    go_wp2_with (go_at_fn g; refine hcH.out.mono ?_; rintro e w2 ⟨rfl, hb⟩)
    have hB2 := Lib.hid (hB.out.trans (hb.mono hB.out.size))
    go_roundg gk
    case measure => omega
    case rel => exact ⟨i + 1, by first | rfl | simp, by omega, Lib.hid (fun j hj h => by
     rcases Nat.lt_or_ge j i with h1 | h1
     ·exact hA.out j h1 h
     ·have : j = i := by omega
      subst this; rw [hxH.out]; exact hq), hB2⟩
end Go.Proofs.YtnegfigaiomehaaGreatDoor.Tp
end
section
namespace Go.Proofs.YtnegfigaiomehaaGreatDoor.Tp
open Go.RowKit Go.Lib Go.Shelf Go.Maps Go.Proofs.YtnegfigaiomehaaGreatDoorW.PrintWords Go.Proofs.YtnegfigaiomehaaGreatDoorW.PrintLast Go.Proofs.YtnegfigaiomehaaGreatDoorW.PrintMore Go.Proofs.YtnegfigaiomehaaGreatDoor.U Go.Proofs.YtnegfigaiomehaaGreatDoor.P Go.Proofs.YtnegfigaiomehaaGreatDoor.MapV Go.Proofs.YtnegfigaiomehaaGreatDoor.Ck
def zeroF : Value := .agg #[.string ⟨#[]⟩, .slice none 0 0]
theorem infoFile : (Tryz.prog.info? 40).map (fun i => (i.zero, i.size, i.bytes)) = some (some zeroF, 2, 40) := by kernel_rfl
theorem kp_reads {w : World} {A : Option Addr} {n : Nat} {ps : List PairF} (h : Kd.C KP w A n ps) : ReadsRow (fun p cs => cs = pcells p) KP.sz w A n ps := ReadsRow.imp_ h (Below.refl _ _) (fun _ _ h => KP_K.1 h)
set_option maxRecDepth 100000 in
set_option maxHeartbeats 4000000 in
theorem GrowF_nil (n : Nat) (hn : n ≤ 1000000) (w : World) :
  Calls Tryz.prog 60 #[.slice none 0 0, .int .i64 (n : Int)] w fun e w' => ∃ g cap, e = .returned (.slice g 0 cap) ∧ Kd.R KP 40 w' w.heap.size (fun _ => True) (.slice g 0 cap) [] ∧ Below w.heap.size w w' := by
 have h1 : decide ((n : Int) < 0) = false := by rw [decide_eq_false_iff_not]; omega
 by_cases h0 : n = 0
 ·subst h0
  go_enter Tryz.func60, Tryz.ntmps60
  go_wp2_with fail
  go_ret
  exact ⟨none, 0, rfl, Kd.R_nil _ _ _ _ _, Below.refl _ _⟩
 ·have h2 : decide ((0 : Int) < (n : Int)) = true := by rw [decide_eq_true_iff]; omega
  obtain ⟨i0, hi, hzz⟩ := Option.map_eq_some_iff.1 infoFile
  simp only [Prod.mk.injEq] at hzz
  obtain ⟨hz, hs, hb⟩ := hzz
  have hr : (Builtin.append_ #[36, 3] 36 #[.slice none 0 0, .int .i64 (n : Int)]).run Tryz.prog w = .ok (.slice (some ⟨w.heap.size, 0, none⟩) n (grownCap w n 0 40)) (w.drew.alloc (.cells ((#[] : Array Value) ++ Builtin.zeroCells zeroF.cells n ++ Builtin.zeroCells zeroF.cells (grownCap w n 0 40 - n)) 40)) := by
   have h := Lib.run_append_grow_zeros (P := Tryz.prog) w 36 3 36 40 i0 zeroF .i64 .i64 Tryz.underlying36 Tryz.underlying3 hi hz none 0 0 [] (run_firstCells_none w.drew i0.size 0 0 0) n (by omega) (by rw [hs]; decide) (by omega) (by omega) (by rw [hb]; omega) (by rw [hb]; exact growslice_fits (by omega) (by omega))
   simpa using h
  have hG := grownCap_ge w n 0 40
  have hGm := grownCap_le_maxLen w n 0 40 (by unfold maxLen; omega)
  have hzc : ∀ m, (Builtin.zeroCells zeroF.cells m).size = m * 2 := fun m => by
   have : zeroF.cells = #[.string ⟨#[]⟩, .slice none 0 0] := rfl
   rw [this]; simp [Builtin.zeroCells]
  have hsz : ((#[] : Array Value) ++ Builtin.zeroCells zeroF.cells n ++ Builtin.zeroCells zeroF.cells (grownCap w n 0 40 - n)).size = grownCap w n 0 40 * 2 := by
   rw [Array.size_append, Array.size_append, hzc, hzc]; simp; omega
  generalize (#[] : Array Value) ++ Builtin.zeroCells zeroF.cells n ++ Builtin.zeroCells zeroF.cells (grownCap w n 0 40 - n) = cells at *
  generalize grownCap w n 0 40 = G at *
  clear hi hz hs hb
  go_enter Tryz.func60, Tryz.ntmps60
  go_wp2_with (at_builtin; go_loud (refine Lib.wpList_append_run _ rfl _ _ _ _ rfl _ _ rfl rfl _ _ hr ?_))
  go_ret
  refine ⟨some ⟨w.heap.size, 0, none⟩, G, rfl, ⟨fun _ _ => trivial, [], ⟨by simp, .inr ⟨w.heap.size, G, cells, rfl, Nat.le_refl _, ?_, Nat.zero_le _, hGm, hsz, by simp⟩⟩, Reps.none _ _⟩, ?_⟩
  ·exact heap_alloc_new w _
  ·exact ((Below.refl _ w).alloc (Nat.le_refl _) _).drew
theorem run_clone_file (w : World) (a : Option Addr) (n c n' c' : Nat) : (binOp .eql 36 (.slice a n c) (.slice none n' c')).run Tryz.prog w = .ok (.bool a.isNone) w := Lib.run_eql_slice_nil w _ _ a n c n' c' Tryz.underlying36
set_option maxRecDepth 100000 in
set_option maxHeartbeats 4000000 in
theorem CloneF_any (v : Value) (ps : List PairF) (w : World) (h : Pairs w v ps) (hl : ps.length ≤ 100000) :
  Calls Tryz.prog 27 #[v] w fun e w' => ∃ v', e = .returned v' ∧ Kd.R KP 40 w' w.heap.size (fun _ => True) v' ps ∧ Below w.heap.size w w' := by
 obtain ⟨A, c, rfl, _, hc⟩ := h
 have hq := run_clone_file
 have hcH := Lib.hid hc
 clear hc
 obtain ⟨N, hN⟩ : ∃ N, ps.length = N := ⟨_, rfl⟩
 have hNH := Lib.hid hN
 rw [hN] at hl hcH ⊢
 cases A with
 | none =>
  have hz : Hid (ps = []) := by
   rcases Nat.eq_zero_or_pos N with h | h
   ·exact List.length_eq_zero_iff.1 (by rw [hNH.out]; exact h)
   ·obtain ⟨ad, he, _⟩ := hcH.out.2.2 h
    cases he
  clear hN
  go_enter Tryz.func27, Tryz.ntmps27
  go_wp2_with fail
  go_ret
  rw [hz.out]
  exact ⟨_, rfl, Kd.R_nil _ _ _ _ _, Below.refl _ _⟩
 | some ad =>
  clear hN
  go_enter Tryz.func27, Tryz.ntmps27
  have hB1 : Hid (Below w.heap.size w (w.alloc (.cells #[] 40))) := Lib.hid ((Below.refl _ w).alloc (Nat.le_refl _) _)
  have hC1 := Lib.hid (kp_reads (Kd.C_below hcH.out hB1.out))
  have hO1 : Hid (Kd.R KP 40 (w.alloc (.cells #[] 40)) w.heap.size (fun _ => True) (.slice (some ⟨w.heap.size, 0, none⟩) 0 0) []) := Lib.hid ⟨fun _ _ => trivial, [], World.ownsRow_made w #[] 0 (Nat.le_refl _) (Nat.zero_le _) rfl, Reps.none _ _⟩
  go_wp2_with (at_builtin; go_loud (refine Kd.R_append_rows KP (Rr := fun p cs => cs = pcells p) (w0 := w) w.heap.size rfl _ _ 36 40 zeroF 40 rfl Tryz.underlying36 infoFile rfl (by decide) (by decide) _ [] ps (some ad) N c (fun _ => True) (fun _ => False) rfl rfl hO1.out hC1.out (fun _ _ h => KP_MK h) (fun _ h => h.elim) (fun _ _ => trivial) hB1.out (by simp) (by simp; omega) ?_))
  intro v1 w1 hR1 hb1 _ _
  have hR2 := Lib.hid hR1
  have hb2 := Lib.hid hb1
  clear hR1 hb1
  go_wp2_with fail
  go_ret
  exact ⟨v1, rfl, by simpa using hR2.out, hb2.out⟩
structure NRowF where
 A : Option Addr
 c : Nat
 l : List PairF
def RowsAtF (w : World) (R : Nat) (rows : List NRowF) : Prop := ∀ i (h : i < rows.length), w.cell? ⟨R, i, none⟩ = some (.slice rows[i].A rows[i].l.length rows[i].c) ∧ rows[i].l.length ≤ rows[i].c ∧ Kd.C KP w rows[i].A rows[i].l.length rows[i].l
def catF (rows : List NRowF) : List PairF := (rows.map (·.l)).flatten
theorem catF_take (rows : List NRowF) (i : Nat) (h : i < rows.length) : catF (rows.take (i + 1)) = catF (rows.take i) ++ rows[i].l := by
 unfold catF; rw [List.take_succ_eq_append_getElem h, List.map_append, List.flatten_append, List.map_cons, List.map_nil, List.flatten_cons, List.flatten_nil, List.append_nil]
theorem catF_le (rows : List NRowF) (i : Nat) : (catF (rows.take i)).length ≤ (catF rows).length := by
 have h : rows = rows.take i ++ rows.drop i := (List.take_append_drop i rows).symm
 have : catF rows = catF (rows.take i) ++ catF (rows.drop i) := by
  conv => lhs; rw [h]
  unfold catF; rw [List.map_append, List.flatten_append]
 rw [this]; simp
set_option maxRecDepth 100000 in
set_option maxHeartbeats 8000000 in
theorem ConcatF_any (R cp : Nat) (rows : List NRowF) (w : World) (hA : RowsAtF w R rows) (hR : R < w.heap.size) (hn : rows.length ≤ 100) (ht : (catF rows).length ≤ 100000) :
  Calls Tryz.prog 30 #[.slice (some ⟨R, 0, none⟩) rows.length cp] w fun e w' => ∃ v, e = .returned v ∧ Kd.R KP 40 w' w.heap.size (fun _ => True) v (catF rows) ∧ Below w.heap.size w w' := by
 obtain ⟨n, hN⟩ : ∃ n, rows.length = n := ⟨_, rfl⟩
 have hAH := Lib.hid hA
 have hNH := Lib.hid hN
 rw [hN] at hn ⊢
 clear hA hN
 go_enter Tryz.func30, Tryz.ntmps30
 go_wp2_with fail
 go_loopg [3, 11] n (fun gk s3 s11 wr => ∃ i m : Nat, s11 = .int .i64 (i : Int) ∧ i + gk = n ∧ s3 = .int .i64 (m : Int) ∧ Hid (m = (catF (rows.take i)).length) ∧ w = wr)
 case atStart => exact ⟨0, 0, rfl, Nat.zero_add _, rfl, rfl, rfl⟩
 case round =>
  obtain ⟨i, m, rfl, hik, rfl, hm, rfl⟩ := hrel
  cases gk with
  | zero =>
   obtain rfl : i = n := by omega
   have hlt : decide ((i : Int) < (i : Int)) = false := by simp
   have hmm : m ≤ 100000 := by have := catF_le rows i; rw [hm.out]; omega
   have hG := Lib.hid (GrowF_nil m (by omega) w)
   go_wp2_with fail
   refine hG.out.mono ?_
   rintro e w1 ⟨g, cap, rfl, hown, hb1⟩
   have hO0 := Lib.hid hown
   have hB0 := Lib.hid hb1
   clear hown hb1 hm hG
   go_wp2_with fail
   go_loopg [6, 27] i (fun gk s6 s27 wr => ∃ j : Nat, s27 = .int .i64 (j : Int) ∧ j + gk = i ∧ Hid (Kd.R KP 40 wr w.heap.size (fun _ => True) s6 (catF (rows.take j))) ∧ Hid (Below w.heap.size w wr))
   case atStart => exact ⟨0, rfl, Nat.zero_add _, hO0, hB0⟩
   case round =>
    obtain ⟨j, rfl, hjk, hO, hB⟩ := hrel
    cases gk with
    | zero =>
     obtain rfl : i = j := by omega
     have hlt2 : decide ((i : Int) < (i : Int)) = false := by simp
     go_wp2_with fail
     go_ret
     have hfin := hO.out
     rw [List.take_of_length_le (by rw [hNH.out]; omega)] at hfin
     exact ⟨u6, rfl, hfin, hB.out⟩
    | succ gk =>
     have hj : j < rows.length := by rw [hNH.out]; omega
     have hlt2 : decide ((j : Int) < (i : Int)) = true := by rw [decide_eq_true_iff]; omega
     have i1 : (0 : Int) ≤ (j : Int) := by omega
     have i2 : (j : Int) < (i : Int) := by omega
     obtain ⟨c1, c2, c3⟩ := hAH.out j hj
     have c4 := (hB.out.cell (p := ⟨R, j, none⟩) hR).trans c1
     have c5 := Lib.hid (kp_reads (Kd.C_below c3 hB.out))
     have hck := catF_take rows j hj
     have hle := catF_le rows (j + 1)
     rw [hck, List.length_append] at hle
     have hCK := Lib.hid hck
     generalize rows[j] = rw1 at *
     obtain ⟨A1, cp1, l1⟩ := rw1
     simp only at c1 c2 c3 c4 c5 hle hCK
     have hbd : ((catF (rows.take j)).length + l1.length) * 40 ≤ 140737488355328 := by omega
     clear hck c1 c3
     go_wp2_with (at_builtin; go_loud (refine Kd.R_append_rows KP (Rr := fun p cs => cs = pcells p) (w0 := w) w.heap.size rfl _ _ 36 40 zeroF 40 rfl Tryz.underlying36 infoFile rfl (by decide) (by decide) u6 (catF (rows.take j)) l1 A1 l1.length cp1 (fun _ => True) (fun _ => False) rfl rfl hO.out c5.out (fun _ _ h => KP_MK h) (fun _ h => h.elim) (fun _ _ => trivial) hB.out hB.out.size hbd ?_))
     intro v1 w1 hR1 hb1 _ _
     have hO1 : Hid (Kd.R KP 40 w1 w.heap.size (fun _ => True) v1 (catF (rows.take (j + 1)))) := by
      show Kd.R _ _ _ _ _ _ _
      rw [hCK.out]; exact hR1
     have hB1 := Lib.hid hb1
     clear hR1 hb1
     go_wp2_with fail
     go_roundg gk
     case measure => omega
     case rel => exact ⟨j + 1, by first | rfl | simp, by omega, hO1, hB1⟩
  | succ gk =>
   have hin : i < rows.length := by rw [hNH.out]; omega
   have hlt : decide ((i : Int) < (n : Int)) = true := by rw [decide_eq_true_iff]; omega
   obtain ⟨c1, c2, c3⟩ := hAH.out i hin
   have i1 : (0 : Int) ≤ (i : Int) := by omega
   have i2 : (i : Int) < (n : Int) := by omega
   have hck := catF_take rows i hin
   have hle := catF_le rows (i + 1)
   rw [hck, List.length_append, ← hm.out] at hle
   have hm2 : Hid (m + rows[i].l.length = (catF (rows.take (i + 1))).length) := by show _ = _; rw [hck, List.length_append, ← hm.out]
   generalize rows[i] = rw1 at *
   obtain ⟨A1, cp1, l1⟩ := rw1
   simp only at c1 c2 c3 hle hm2
   have hneg : decide ((m : Int) + (l1.length : Int) < 0) = false := by rw [decide_eq_false_iff_not]; omega
   clear hck c3
   go_wp2_with fail
   go_roundg gk
   case measure => omega
   case rel => exact ⟨i + 1, m + l1.length, by first | rfl | simp, by omega, by first | rfl | simp, hm2, rfl⟩
end Go.Proofs.YtnegfigaiomehaaGreatDoor.Tp
end
section
namespace Go.Lib
variable {P : Program}
theorem run_clear_any (w : World) (t e ty : TypeId) (z : Value) (L : List Value) (ht : P.underlying t = some (.slice e)) (hv : ∀ w, (zeroValue e).run P w = .ok z w) (b o n c : Nat) (hn : 0 < n) (hL : (Builtin.zeroCells z.cells n).toList = L) (h1 : ∀ v ∈ L, v.oneCell' = true)
  (hc : ∀ j, j < L.length → (w.cell? ⟨b, o + j, none⟩).isSome = true) (hf : ∀ j, j < L.length → w.frozen? ⟨b, o + j, none⟩ = false) :
  (Builtin.clear_ #[t] ty #[.slice (some ⟨b, o, none⟩) n c]).run P w = .ok (.tuple #[]) (w.setCells b o L) := by
 have hst := run_storeCells_cells (P := P) b o L 0 w (by simpa using hc) (by simpa using hf) h1
 simp only [Nat.add_zero] at hst
 obtain ⟨m, rfl⟩ : ∃ m, n = m + 1 := ⟨n - 1, by omega⟩
 simp [Builtin.clear_, run_underlying ht, hv, hL, hst]
end Go.Lib
namespace Go.Proofs.YtnegfigaiomehaaGreatDoor.Tp
open Go.RowKit Go.Lib Go.Shelf Go.Maps Go.Proofs.YtnegfigaiomehaaGreatDoorW.PrintWords Go.Proofs.YtnegfigaiomehaaGreatDoorW.PrintLast Go.Proofs.YtnegfigaiomehaaGreatDoorW.PrintMore Go.Proofs.YtnegfigaiomehaaGreatDoor.U Go.Proofs.YtnegfigaiomehaaGreatDoor.P Go.Proofs.YtnegfigaiomehaaGreatDoor.MapV Go.Proofs.YtnegfigaiomehaaGreatDoor.Ck
def keepF (p : Txt → Bool) (l : List PairF) : List PairF := l.filter fun x => !p x.n
theorem keepF_take (p : Txt → Bool) (l : List PairF) (j : Nat) (h : j < l.length) : keepF p (l.take (j + 1)) = keepF p (l.take j) ++ (if p l[j].n = true then [] else [l[j]]) := by
 unfold keepF
 rw [List.take_succ_eq_append_getElem h, List.filter_append]
 cases hq : p l[j].n <;> simp [hq]
def atF (arr : Array Value) (q : Nat) (x : PairF) : Prop := arr[q * 2]? = some (.string (B x.n)) ∧ arr[q * 2 + 1]? = some (.slice x.A x.k x.c)
theorem atF_of_take {arr : Array Value} {q m : Nat} {x : PairF} (hq : q < m) (h : ((arr.toList.take (m * 2)).drop (q * 2)).take 2 = pcells x) : atF arr q x := by
 have h0 := congrArg (fun l => l[0]?) h
 have h1 := congrArg (fun l => l[1]?) h
 simp only [List.getElem?_take_of_lt (show 0 < 2 by decide), List.getElem?_take_of_lt (show 1 < 2 by decide), List.getElem?_drop] at h0 h1
 rw [List.getElem?_take_of_lt (by omega), Array.getElem?_toList] at h0 h1
 exact ⟨by simpa [pcells] using h0, by simpa [pcells] using h1⟩
theorem take_of_atF {arr : Array Value} {q m : Nat} {x : PairF} (hq : q < m) (h : atF arr q x) : ((arr.toList.take (m * 2)).drop (q * 2)).take 2 = pcells x := by
 refine List.ext_getElem? fun j => ?_
 rcases Nat.lt_or_ge j 2 with hj | hj
 ·rw [List.getElem?_take_of_lt hj, List.getElem?_drop, List.getElem?_take_of_lt (by omega), Array.getElem?_toList]
  match j, hj with
  | 0, _ => simpa [pcells] using h.1
  | 1, _ => simpa [pcells] using h.2
 ·rw [List.getElem?_take_eq_none hj, List.getElem?_eq_none (by simpa [pcells] using hj)]
structure DelF (w0 : World) (g : Nat) (p : Txt → Bool) (l : List PairF) (cap i j : Nat) (w : World) : Prop where
 blk : ∃ arr, w.heap[g]? = some (.cells arr 40 (0, 0)) ∧ arr.size = cap * 2 ∧ (∀ q x, (keepF p (l.take j))[q]? = some x → atF arr q x) ∧ (∀ q (h : q < l.length), j ≤ q → atF arr q l[q]) ∧ ∀ q, q < l.length → ∃ x, atF arr q x
 len : i = (keepF p (l.take j)).length
 grown : w0.grownBy w (some g)
theorem DelF.below {w0 w w' : World} {g cap i j : Nat} {p : Txt → Bool} {l : List PairF} (h : DelF w0 g p l cap i j w) (hb : Below w.heap.size w w') : DelF w0 g p l cap i j w' := by
 obtain ⟨arr, h1, h2⟩ := h.blk
 exact ⟨⟨arr, below_blk hb h1, h2⟩, h.len, grown_trans h.grown (grown_below hb _)⟩
theorem DelF.cellAt {w0 w : World} {g cap i j q : Nat} {p : Txt → Bool} {l : List PairF} (h : DelF w0 g p l cap i j w) (hq : q < l.length) : ∃ x : PairF, w.cell? ⟨g, q * 2, none⟩ = some (.string (B x.n)) ∧ w.cell? ⟨g, q * 2 + 1, none⟩ = some (.slice x.A x.k x.c) ∧ w.frozen? ⟨g, q * 2, none⟩ = false ∧ w.frozen? ⟨g, q * 2 + 1, none⟩ = false := by
 obtain ⟨arr, h1, _, _, _, h5⟩ := h.blk
 obtain ⟨x, hx⟩ := h5 q hq
 exact ⟨x, by rw [cell_of_heap h1, hx.1], by rw [cell_of_heap h1, hx.2], frozen_of_heap h1 _, frozen_of_heap h1 _⟩
theorem DelF.drop {w0 w : World} {g cap i j : Nat} {p : Txt → Bool} {l : List PairF} (h : DelF w0 g p l cap i j w) (hj : j < l.length) (hp : p l[j].n = true) : DelF w0 g p l cap i (j + 1) w := by
 obtain ⟨arr, h1, h2, h3, h4, h5⟩ := h.blk
 have e : keepF p (l.take (j + 1)) = keepF p (l.take j) := by rw [keepF_take p l j hj, if_pos hp, List.append_nil]
 exact ⟨⟨arr, h1, h2, by rw [e]; exact h3, fun q hq hjq => h4 q hq (by omega), h5⟩, by rw [e]; exact h.len, h.grown⟩
theorem atF_set {arr : Array Value} {i q : Nat} {x y : PairF} (hq : q ≠ i) (h : atF arr q y) : atF ((arr.setIfInBounds (i * 2) (.string (B x.n))).setIfInBounds (i * 2 + 1) (.slice x.A x.k x.c)) q y :=
 ⟨by rw [Array.getElem?_setIfInBounds_ne (by omega), Array.getElem?_setIfInBounds_ne (by omega)]; exact h.1, by rw [Array.getElem?_setIfInBounds_ne (by omega), Array.getElem?_setIfInBounds_ne (by omega)]; exact h.2⟩
theorem atF_new {arr : Array Value} {i : Nat} (x : PairF) (h : i * 2 + 1 < arr.size) : atF ((arr.setIfInBounds (i * 2) (.string (B x.n))).setIfInBounds (i * 2 + 1) (.slice x.A x.k x.c)) i x :=
 ⟨by rw [Array.getElem?_setIfInBounds_ne (by omega), Array.getElem?_setIfInBounds_self_of_lt (by omega)], by rw [Array.getElem?_setIfInBounds_self_of_lt (by rw [Array.size_setIfInBounds]; exact h)]⟩
theorem DelF.keep {w0 w : World} {g cap i j : Nat} {p : Txt → Bool} {l : List PairF} (h : DelF w0 g p l cap i j w) (hj : j < l.length) (hij : i < j) (hp : p l[j].n = false) : DelF w0 g p l cap (i + 1) (j + 1) ((w.setCell ⟨g, i * 2, none⟩ (.string (B l[j].n))).setCell ⟨g, i * 2 + 1, none⟩ (.slice l[j].A l[j].k l[j].c)) := by
 obtain ⟨arr, h1, h2, h3, h4, h5⟩ := h.blk
 have e : keepF p (l.take (j + 1)) = keepF p (l.take j) ++ [l[j]] := by rw [keepF_take p l j hj, hp]; rfl
 have hia : i * 2 + 1 < arr.size := by
  obtain ⟨x, hx⟩ := h5 i (by omega)
  exact (Array.getElem?_eq_some_iff.1 hx.2).1
 have hl := h.len
 refine ⟨⟨_, blk_put (blk_put h1 (i * 2) _ rfl) (i * 2 + 1) _ rfl, by simp [h2], fun q x hq => ?_, fun q hq hjq => atF_set (by omega) (h4 q hq (by omega)), fun q hq => ?_⟩, by rw [e, List.length_append, ← h.len]; rfl, grown_trans (grown_trans h.grown (grown_set _ _ _ _)) (grown_set _ _ _ _)⟩
 ·rw [e] at hq
  rcases Nat.lt_or_ge q i with hqi | hqi
  ·rw [List.getElem?_append_left (by omega)] at hq
   exact atF_set (by omega) (h3 q x hq)
  ·rw [List.getElem?_append_right (by omega)] at hq
   have hqe : q = i := by
    have := (List.getElem?_eq_some_iff.1 hq).1
    simp at this; omega
   subst hqe
   have hx : l[j] = x := by simpa [hl] using hq
   rw [← hx]
   exact atF_new _ hia
 ·by_cases hq2 : q = i
  ·subst hq2; exact ⟨l[j], atF_new _ hia⟩
  ·obtain ⟨x, hx⟩ := h5 q hq
   exact ⟨x, atF_set hq2 hx⟩
theorem DelF.start {w0 w : World} {g cap n base i0 : Nat} {ok : Nat → Prop} {p : Txt → Bool} {l : List PairF} (hn : l.length = n) (h : Kd.R KP 40 w0 base ok (.slice (some ⟨g, 0, none⟩) n cap) l) (hb : Below w0.heap.size w0 w) (hi : i0 < l.length) (hp : p l[i0].n = true) (hpre : ∀ (q : Nat) (hq : q < i0), p (l[q]'(by omega)).n = false) : DelF w0 g p l cap i0 (i0 + 1) w := by
 subst hn
 obtain ⟨_, inner, hown, hr⟩ := h
 rcases hown.2 with ⟨he, hn0⟩ | ⟨bk, cap', cur, he, hbase, hbk, h1, h2, h3, h4⟩
 ·cases he
 injection he with e1 _ e3
 injection e1 with e1
 injection e1 with e1
 subst e1 e3
 have hat : ∀ q (h : q < l.length), atF cur q l[q] := fun q hq => by
  have := KP_K.1 (KP.K_of_M (hr.2 q _ (List.getElem?_eq_getElem hq)))
  rw [← h4] at this
  exact atF_of_take hq this
 have htake : keepF p (l.take (i0 + 1)) = l.take i0 := by
  rw [keepF_take p l i0 hi, if_pos hp, List.append_nil]
  refine List.filter_eq_self.2 fun x hx => ?_
  obtain ⟨q, hq, rfl⟩ := List.mem_iff_getElem.1 hx
  rw [List.length_take] at hq
  rw [List.getElem_take, hpre q (by omega)]; rfl
 refine ⟨⟨cur, below_blk hb hbk, h3, fun q x hq => ?_, fun q hq _ => hat q hq, fun q hq => ⟨_, hat q hq⟩⟩, ?_, grown_below hb _⟩
 ·rw [htake] at hq
  obtain ⟨hl, rfl⟩ := List.getElem?_eq_some_iff.1 hq
  rw [List.length_take] at hl
  rw [List.getElem_take]
  exact hat q (by omega)
 ·rw [htake, List.length_take, Nat.min_eq_left (by omega)]
end Go.Proofs.YtnegfigaiomehaaGreatDoor.Tp
end
section
namespace Go.Proofs.YtnegfigaiomehaaGreatDoor.Tp
open Go.RowKit Go.Lib Go.Shelf Go.Maps Go.Proofs.YtnegfigaiomehaaGreatDoorW.PrintWords Go.Proofs.YtnegfigaiomehaaGreatDoorW.PrintLast Go.Proofs.YtnegfigaiomehaaGreatDoorW.PrintMore Go.Proofs.YtnegfigaiomehaaGreatDoor.U Go.Proofs.YtnegfigaiomehaaGreatDoor.P Go.Proofs.YtnegfigaiomehaaGreatDoor.MapV Go.Proofs.YtnegfigaiomehaaGreatDoor.Ck
def zerosF (n : Nat) : List Value := (Builtin.zeroCells zeroF.cells n).toList
theorem zerosF_len (n : Nat) : (zerosF n).length = n * 2 := by
 have : zeroF.cells = #[.string ⟨#[]⟩, .slice none 0 0] := rfl
 unfold zerosF
 rw [this]; simp [Builtin.zeroCells]
theorem zerosF_one (n : Nat) : ∀ v ∈ zerosF n, v.oneCell' = true := by
 intro v hv
 have : zeroF.cells = #[.string ⟨#[]⟩, .slice none 0 0] := rfl
 unfold zerosF at hv
 rw [this] at hv
 simp only [Builtin.zeroCells, Array.toList_map, List.mem_map] at hv
 obtain ⟨i, _, rfl⟩ := hv
 have h2 : i % 2 = 0 ∨ i % 2 = 1 := by omega
 rcases h2 with h2 | h2 <;> simp [h2, Value.oneCell']
set_option maxRecDepth 100000 in
set_option maxHeartbeats 16000000 in
theorem DeleteF_any (g : Nat) (lb : Array Value) (eg : ∀ args w, (callFunc g args).run Tryz.prog w = .ok (.enter g args) w) (I : World → Prop) (Z : Txt → Prop) (p : Txt → Bool) (hI : Stays I) (hT : TellsF g lb I Z p) (v : Value) (l : List PairF) (base : Nat) (w : World) (ho : Kd.R KP 40 w base (fun _ => True) v l) (hJ : ∀ W', w.grownBy W' v.ownBlock → I W') (hZ : ∀ x ∈ l, Z x.n) (hn : l.length ≤ 1000000) :
  Calls Tryz.prog 26 #[v, .func (.func g) #[] lb] w fun e w' => ∃ v', e = .returned v' ∧ Kd.R KP 40 w' base (fun _ => True) v' (keepF p l) ∧ w.grownBy w' v.ownBlock := by
 have hX := Lib.hid (IndexF_any g lb eg I Z p hI hT v l w (pairs_of_R ho) hZ (hJ w (grown_below (Below.refl _ _) _)) hn)
 have hTH := Lib.hid hT
 have hJH := Lib.hid hJ
 have hZH := Lib.hid hZ
 have hoH := Lib.hid ho
 obtain ⟨A, c, rfl⟩ := Kd.R_slice ho
 clear hI hT hJ hZ ho
 go_enter Tryz.func26, Tryz.ntmps26
 go_wp2_with fail
 refine hX.out.mono ?_
 rintro e w1 ⟨k, rfl, hk, hb⟩
 have hbH := Lib.hid hb
 clear hb
 rcases hk with ⟨rfl, hall⟩ | ⟨i0, hi0', rfl, hp0, hpre⟩
 ·have hk0 : Hid (keepF p l = l) := Lib.hid (List.filter_eq_self.2 (fun x hx => by rw [hall x.n (List.mem_map_of_mem hx)]; rfl))
  clear hall
  go_wp2_with fail
  go_ret
  refine ⟨_, rfl, ?_, grown_below hbH.out _⟩
  rw [hk0.out]
  exact Kd.R_below hoH.out hbH.out
 ·have hge : decide (((i0 : Nat) : Int) = -1) = false := by rw [decide_eq_false_iff_not]; omega
  have hge2 : (((i0 : Nat) : Int) == -1) = false := by rw [beq_eq_false_iff_ne]; omega
  have hi0 : i0 < l.length := by rw [List.length_map] at hi0'; exact hi0'
  rw [List.getElem_map] at hp0
  have hpre' : ∀ (q : Nat) (hq : q < i0), p (l[q]'(by omega)).n = false := fun q hq => by
   have := hpre q hq
   rw [List.getElem_map] at this
   exact this
  rcases hoH.out.2 with ⟨inner, hown, hreps⟩
  rcases hown.2 with ⟨he, hn0⟩ | ⟨bk, cap, cur, he, hbase, hbk, h1, h2, h3, h4⟩
  ·exfalso; omega
  injection he with e1 _ e3
  subst e1 e3
  obtain ⟨n, hN⟩ : ∃ n, l.length = n := ⟨_, rfl⟩
  have hNH := Lib.hid hN
  have hD : Hid (DelF w bk p l c i0 (i0 + 1) w1) := Lib.hid (DelF.start rfl hoH.out hbH.out hi0 hp0 hpre')
  rw [hN] at hn hi0 h1 ⊢
  have hcn : Hid (n ≤ c ∧ c ≤ maxLen) := Lib.hid ⟨h1, h2⟩
  clear hN hpre hpre' hp0 hown hreps hbk h3 h4 h2 hi0'
  go_wp2_with fail
  go_loopg [5, 6] (n - (i0 + 1)) (fun gk s5 s6 wr => ∃ i j : Nat, s5 = .int .i64 (i : Int) ∧ s6 = .int .i64 (j : Int) ∧ j + gk = n ∧ i < j ∧ Hid (DelF w bk p l c i j wr))
  case atStart => exact ⟨i0, i0 + 1, rfl, by first | rfl | simp, by omega, by omega, hD⟩
  case round =>
   obtain ⟨i, j, rfl, rfl, hjk, hij, hDl⟩ := hrel
   clear hD
   cases gk with
   | zero =>
    obtain rfl : j = n := by omega
    have hlt : decide ((j : Int) < (j : Int)) = false := by simp
    obtain ⟨arr, a1, a2, a3, a4, a5⟩ := hDl.out.blk
    have hcl : ∀ ty, (Builtin.clear_ #[36] ty #[.slice (some ⟨bk, i * 2, none⟩) (j - i) (c - i)]).run Tryz.prog wr = .ok (.tuple #[]) (wr.setCells bk (i * 2) (zerosF (j - i))) :=
     fun ty => Lib.run_clear_any wr _ _ ty zeroF (zerosF (j - i)) Tryz.underlying36 (fun w => by first | exact Tryz.zeroValue40 w | exact Tryz.zeroValue40) bk (i * 2) _ _ (by omega) rfl (zerosF_one _) (fun t ht => by
      rw [zerosF_len] at ht
      have hsz : i * 2 + t < arr.size := by have := hcn.out.1; omega
      rw [cell_of_heap a1, Array.getElem?_eq_getElem hsz]; rfl) (fun t ht => frozen_of_heap a1 _)
    obtain ⟨arr2, b1, b2, b3, b4⟩ := setCells_blk (zerosF (j - i)) (i * 2) wr arr a1
    have i1 : (0 : Int) ≤ (i : Int) := by omega
    have i2 : (i : Int) ≤ (j : Int) := by omega
    have i3 : (j : Int) ≤ (c : Int) := by omega
    have i4 : (i : Int) ≤ (c : Int) := by omega
    have hlen := hDl.out.len
    have hgr := hDl.out.grown
    rw [List.take_of_length_le (by rw [hNH.out]; exact Nat.le_refl _)] at hlen a3
    have hfin : Hid (Kd.R KP 40 (wr.setCells bk (i * 2) (zerosF (j - i))) base (fun _ => True) (.slice (some ⟨bk, 0, none⟩) i c) (keepF p l)) := by
     refine Lib.hid ⟨fun _ _ => trivial, arr2.toList.take (i * 2), ?_, ?_⟩
     ·rw [← hlen]
      refine ⟨?_, .inr ⟨bk, c, arr2, rfl, hbase, b1, by omega, hcn.out.2, by rw [b2, a2]; rfl, rfl⟩⟩
      show (List.take (i * 2) arr2.toList).length = i * 2
      rw [List.length_take, Array.length_toList, b2, a2, Nat.min_eq_left (by have := hcn.out.1; omega)]
     ·refine ⟨?_, fun q x hq => KP_MK ?_⟩
      ·show (List.take (i * 2) arr2.toList).length = (keepF p l).length * 2
       rw [List.length_take, Array.length_toList, b2, a2, ← hlen, Nat.min_eq_left (by have := hcn.out.1; omega)]
      ·have hqi : q < i := by rw [hlen]; exact (List.getElem?_eq_some_iff.1 hq).1
       have h := a3 q x hq
       exact take_of_atF hqi ⟨by rw [b3 _ (by omega)]; exact h.1, by rw [b3 _ (by omega)]; exact h.2⟩
    have hgf := Lib.hid (grown_trans hgr b4)
    clear a1 a2 a3 a4 a5 b1 b2 b3 b4 hlen hgr
    go_wp2_with fail
    go_ret
    exact ⟨_, rfl, hfin.out, by simpa [Value.ownBlock] using hgf.out⟩
   | succ gk =>
    have hj : j < l.length := by rw [hNH.out]; omega
    have hlt : decide ((j : Int) < (n : Int)) = true := by rw [decide_eq_true_iff]; omega
    have i1 : (0 : Int) ≤ (j : Int) := by omega
    have i2 : (j : Int) < (n : Int) := by omega
    have i3 : (0 : Int) ≤ (i : Int) := by omega
    have i4 : (i : Int) < (n : Int) := by omega
    obtain ⟨arr, a1, a2, a3, a4, a5⟩ := hDl.out.blk
    have k0 : wr.cell? ⟨bk, j * 2, none⟩ = some (.string (B l[j].n)) := by rw [cell_of_heap a1, (a4 j hj (Nat.le_refl _)).1]
    have k1 : wr.cell? ⟨bk, j * 2 + 1, none⟩ = some (.slice l[j].A l[j].k l[j].c) := by rw [cell_of_heap a1, (a4 j hj (Nat.le_refl _)).2]
    obtain ⟨x, hx⟩ : ∃ x, l[j] = x := ⟨_, rfl⟩
    have hxZ := Lib.hid (hZH.out _ (List.getElem_mem hj))
    have hkp := Lib.hid (fun (W : World) (h : DelF w bk p l c i j W) (hq : p l[j].n = false) => h.keep hj hij hq)
    have hdp := Lib.hid (fun (W : World) (h : DelF w bk p l c i j W) (hq : p l[j].n = true) => h.drop hj hq)
    rw [hx] at k0 k1 hxZ hkp hdp
    have hba : Below wr.heap.size wr (wr.alloc (.cells #[.string (B x.n), .slice x.A x.k x.c] 40)) := (Below.refl _ _).alloc (Nat.le_refl _) _
    have hDa := Lib.hid (hDl.out.below hba)
    have hIw := hJH.out (wr.alloc (.cells #[.string (B x.n), .slice x.A x.k x.c] 40)) (by simpa [Value.ownBlock] using hDa.out.grown)
    have hcall := hTH.out (wr.alloc (.cells #[.string (B x.n), .slice x.A x.k x.c] 40)) x hIw hxZ.out
    have hxc : Hid ((wr.alloc (.cells #[.string (B x.n), .slice x.A x.k x.c] 40)).heap[wr.heap.size]? = some (.cells #[.string (B x.n), .slice x.A x.k x.c] 40 (0, 0))) := Lib.hid (heap_alloc_new wr _)
    clear a1 a2 a3 a4 a5 hIw hba hx
    cases hq : p x.n with
    | true =>
     rw [hq] at hcall
     have hcH := Lib.hid hcall
     clear hcall
     go_wp2_with (go_at_fn g; refine hcH.out.mono ?_; rintro e w2 ⟨rfl, hb⟩)
     have hD2 := Lib.hid (hdp.out _ (hDa.out.below hb) hq)
     go_roundg gk
     case measure => omega
     case rel => exact ⟨i, j + 1, rfl, by first | rfl | simp, by omega, by omega, hD2⟩
    | false =>
     rw [hq] at hcall
     have hcH := Lib.hid hcall
     clear hcall
     have hci : Hid (∀ W, DelF w bk p l c i j W → ∃ x : PairF, W.cell? ⟨bk, i * 2, none⟩ = some (.string (B x.n)) ∧ W.cell? ⟨bk, i * 2 + 1, none⟩ = some (.slice x.A x.k x.c) ∧ W.frozen? ⟨bk, i * 2, none⟩ = false ∧ W.frozen? ⟨bk, i * 2 + 1, none⟩ = false) := Lib.hid (fun W hW => hW.cellAt (by omega))
     go_wp2_with (go_at_fn g; refine hcH.out.mono ?_; rintro e w2 ⟨rfl, hb⟩; have hD2 := Lib.hid (hDa.out.below hb); have hx2 := Lib.hid (below_blk hb hxc.out); have u0 := (cell_of_heap (j := 0) hx2.out).trans rfl; have u1 := (cell_of_heap (j := 1) hx2.out).trans rfl; clear hb; obtain ⟨t2, ct, ct1, ft, ft1⟩ := hci.out w2 hD2.out)
     have hD3 : Hid (DelF w bk p l c (i + 1) (j + 1) ((w2.setCell ⟨bk, i * 2, none⟩ (.string (B x.n))).setCell ⟨bk, i * 2 + 1, none⟩ (.slice x.A x.k x.c))) := Lib.hid (hkp.out _ hD2.out hq)
     go_roundg gk
     case measure => omega
     case rel => exact ⟨i + 1, j + 1, by first | rfl | simp, by first | rfl | simp, by omega, by omega, hD3⟩
end Go.Proofs.YtnegfigaiomehaaGreatDoor.Tp
end
section
namespace Go.Proofs.YtnegfigaiomehaaGreatDoor.Tp
open Go.RowKit Go.Lib Go.Shelf Go.Maps Go.Proofs.YtnegfigaiomehaaGreatDoorW.PrintWords Go.Proofs.YtnegfigaiomehaaGreatDoorW.PrintLast Go.Proofs.YtnegfigaiomehaaGreatDoorW.PrintMore Go.Proofs.YtnegfigaiomehaaGreatDoor.U Go.Proofs.YtnegfigaiomehaaGreatDoor.P Go.Proofs.YtnegfigaiomehaaGreatDoor.MapV Go.Proofs.YtnegfigaiomehaaGreatDoor.Ck
def From (w0 : World) : World → Prop := fun W => Below w0.heap.size w0 W
theorem from_stays (w0 : World) : Stays (From w0) := fun _ _ h hb => Below.trans h (hb.mono h.size)
set_option maxRecDepth 100000 in
set_option maxHeartbeats 4000000 in
theorem sources_tells (q p : Nat) (es : List EdgeL) (w0 : World) (hq : w0.heap[q]? = some (.cells #[ptr p] 52 (0, 0))) (hM : MakersAt w0 p es) :
  Tells 74 #[ptr q] (From w0) (fun x => x.length ≤ 100000) (fun f => (makerL es f).isSome) := by
 intro W x hW hx
 have c0 := (cell_of_heap (j := 0) (below_blk hW hq)).trans rfl
 obtain ⟨v0, v1, v3, mb, n, hb, hn, hm⟩ := hM.below hW
 have c2 := (cell_of_heap (j := 2) hb).trans rfl
 have hlk := hm.look_ok (t := 83) (e := 3) Tryz.underlying83 (zeroInt W) x (by unfold maxLen; omega)
 have e2 : (makerV es x).isSome = (makerL es x).isSome := by unfold makerV; cases makerL es x <;> rfl
 have e1 : (makerV es x).getD (.int .i64 0) = .int .i64 (((makerL es x).getD 0 : Nat) : Int) := by unfold makerV; cases makerL es x <;> rfl
 rw [e1, e2] at hlk
 dsimp only
 generalize (((makerL es x).getD 0 : Nat) : Int) = z at *
 generalize (makerL es x).isSome = b at *
 clear e1 e2 hm hb
 unfold ptr at *
 show Calls _ _ #[.string (B x), .pointer (some ⟨q, 0, none⟩)] _ _
 go_enter Tryz.func74, Tryz.ntmps74
 go_wp2_with fail
 go_ret
 exact ⟨rfl, Below.refl _ _⟩
def srcRow (es : List EdgeL) : List Txt := keepL (fun f => (makerL es f).isSome) (usedRow es)
theorem mem_srcRow (es : List EdgeL) (f : Txt) : f ∈ srcRow es ↔ (∃ e ∈ es, f ∈ needsL e) ∧ (makerL es f).isSome = false := by
 unfold srcRow keepL
 simp only [List.mem_filter, mem_usedRow, Bool.not_eq_true']
theorem srcRow_sorted (es : List EdgeL) : (srcRow es).Pairwise (· ≤ ·) := (usedRow_sorted es).filter _
theorem usedRow_len (es : List EdgeL) (hE : es.length ≤ 100) (hN : ∀ e ∈ es, (needsL e).length ≤ 1000) : (usedRow es).length ≤ 100000 := by
 have h1 := Lib.compact_length_le ((allNeeds es).mergeSort fun x y => decide (x ≤ y))
 have h2 : ((allNeeds es).mergeSort fun x y => decide (x ≤ y)).length = (allNeeds es).length := (List.mergeSort_perm _ _).length_eq
 have h3 := allNeeds_len es hN
 unfold usedRow
 omega
set_option maxRecDepth 100000 in
set_option maxHeartbeats 8000000 in
theorem Sources_any (p : Nat) (es : List EdgeL) (defs : List Txt) (w : World) (hG : GraphAt w p es defs) (hE : es.length ≤ 100) (hN : ∀ e ∈ es, (needsL e).length ≤ 1000) (hx : ∀ e ∈ es, ∀ f ∈ needsL e, f.length ≤ 100000) :
  Calls Tryz.prog 46 #[ptr p] w fun e w' => ∃ v, e = .returned v ∧ Own w' w.heap.size v (srcRow es) ∧ Below w.heap.size w w' := by
 have hb1 : Below w.heap.size w (w.alloc (.cells #[ptr p] 52)) := (Below.refl _ _).alloc (Nat.le_refl _) _
 have hq := heap_alloc_new w (.cells #[ptr p] 52)
 have hT := Lib.hid (sources_tells w.heap.size p es _ hq (hG.makers.below hb1))
 have hU := Lib.hid (used_any p es defs _ (hG.below hb1) hE hN)
 have hul := usedRow_len es hE hN
 have hZ : Hid (∀ x ∈ usedRow es, x.length ≤ 100000) := Lib.hid (fun x hx' => by
  obtain ⟨e, he, hf⟩ := (mem_usedRow es x).1 hx'
  exact hx e he x hf)
 have hb1H := Lib.hid hb1
 have c0 : (w.alloc (.cells #[ptr p] 52)).cell? ⟨w.heap.size, 0, none⟩ = some (ptr p) := (cell_of_heap (j := 0) hq).trans rfl
 clear hG hN hx hb1 hq
 unfold ptr at *
 go_enter Tryz.func46, Tryz.ntmps46
 go_wp2_with fail
 refine hU.out.mono ?_
 rintro e w1 ⟨v, rfl, ho, hb⟩
 have hown : ∀ k, v.ownBlock = some k → (w.alloc (.cells #[.pointer (some ⟨p, 0, none⟩)] 52)).heap.size ≤ k := fun k hk => (World.ownsRow.lt ho k hk).1
 have hDl := Lib.hid (DeleteT_any 74 #[.pointer (some ⟨w.heap.size, 0, none⟩)] (enters_of Tryz.func74 (by kernel_rfl) rfl) _ _ _ (from_stays _) hT.out v (usedRow es) _ w1 ho (fun W' hg => hb.grown hg hb.size hown) hZ.out (by omega))
 have hB1 := Lib.hid (hb1H.out.trans (hb.mono hb1H.out.size))
 have hownH := Lib.hid hown
 clear ho hb hown c0
 go_wp2_with fail
 refine hDl.out.mono ?_
 rintro e w2 ⟨v', rfl, ho, hg⟩
 have hB2 := Lib.hid (hB1.out.grown hg hB1.out.size (fun k hk => Nat.le_trans hb1H.out.size (hownH.out k hk)))
 have hoH := Lib.hid ho
 clear ho hg
 go_wp2_with fail
 go_ret
 exact ⟨v', rfl, own_lower hoH.out hb1H.out.size, hB2.out⟩
end Go.Proofs.YtnegfigaiomehaaGreatDoor.Tp
end
section
namespace Go.Proofs.YtnegfigaiomehaaGreatDoor.Tp
open Go.RowKit Go.Lib Go.Shelf Go.Maps Go.Proofs.YtnegfigaiomehaaGreatDoorW.PrintWords Go.Proofs.YtnegfigaiomehaaGreatDoorW.PrintLast Go.Proofs.YtnegfigaiomehaaGreatDoorW.PrintMore Go.Proofs.YtnegfigaiomehaaGreatDoor.U Go.Proofs.YtnegfigaiomehaaGreatDoor.P Go.Proofs.YtnegfigaiomehaaGreatDoor.MapV Go.Proofs.YtnegfigaiomehaaGreatDoor.Ck
def knownB (es : List EdgeL) (t : Txt) : Bool := (makerL es t).isSome || decide (t ∈ srcRow es)
theorem knownB_iff (es : List EdgeL) (t : Txt) : knownB es t = true ↔ ((makerL es t).isSome = true ∨ usedL es t = true) := by
 unfold knownB usedL
 rw [Bool.or_eq_true, decide_eq_true_iff, mem_srcRow, List.any_eq_true]
 simp only [List.contains_iff_mem]
 cases (makerL es t).isSome <;> simp
def Planned (es : List EdgeL) (ts : List Txt) (w : World) (e : Ending) (w' : World) : Prop := Below w.heap.size w w' ∧ if ts.all (knownB es) = true then
  ∃ v plan, e = .returned (.tuple #[v, .int .i64 0]) ∧ PlanOf es ts plan ∧ Kd.R (Kd.int .i64) 3 w' w.heap.size (fun _ => True) v (intsN plan)
 else e = .returned (.tuple #[.slice none 0 0, .int .i64 6])
theorem Planned.no {es : List EdgeL} {ts : List Txt} {w w' : World} (hb : Below w.heap.size w w') (h : ts.all (knownB es) = false) : Planned es ts w (.returned (.tuple #[.slice none 0 0, .int .i64 6])) w' := ⟨hb, by rw [if_neg (by rw [h]; decide)]⟩
theorem Planned.yes {es : List EdgeL} {ts : List Txt} {w w' : World} {v : Value} {plan : List Nat} (hb : Below w.heap.size w w') (h : ts.all (knownB es) = true) (hp : PlanOf es ts plan) (hr : Kd.R (Kd.int .i64) 3 w' w.heap.size (fun _ => True) v (intsN plan)) : Planned es ts w (.returned (.tuple #[v, .int .i64 0])) w' := ⟨hb, by rw [if_pos h]; exact ⟨v, plan, rfl, hp, hr⟩⟩
set_option maxRecDepth 100000 in
set_option maxHeartbeats 8000000 in
theorem Plan_any (p : Nat) (es : List EdgeL) (defs ts : List Txt) (v : Value) (w : World) (hG : GraphAt w p es defs) (hE : es.length ≤ 100) (hN : ∀ e ∈ es, (needsL e).length ≤ 1000) (hx : ∀ e ∈ es, ∀ f ∈ needsL e, f.length ≤ 100000) (hah : ∀ n, (aheadL es n).length ≤ 1000) (hv : Str w v ts) (hn : ts.length ≤ 1000) (hl : ∀ t ∈ ts, t.length ≤ 100000) :
  Calls Tryz.prog 17 #[ptr p, v] w (Planned es ts w) := by
 have hSo := Lib.hid (Sources_any p es defs w hG hE hN hx)
 have hsl : (srcRow es).length ≤ 100000 := Nat.le_trans (List.length_filter_le ..) (usedRow_len es hE hN)
 obtain ⟨A, c, rfl, hc, hC⟩ := hv
 have hGH := Lib.hid hG
 have hCH := Lib.hid hC
 have hlH := Lib.hid hl
 have hahH := Lib.hid hah
 obtain ⟨n, hN'⟩ : ∃ n, ts.length = n := ⟨_, rfl⟩
 have hNH := Lib.hid hN'
 rw [hN'] at hn hc ⊢
 clear hG hC hl hah hN hx hN'
 unfold ptr at *
 go_enter Tryz.func17, Tryz.ntmps17
 go_wp2_with fail
 refine hSo.out.mono ?_
 rintro e w1 ⟨vs, rfl, hos, hb1⟩
 have hosH := Lib.hid (str_of_R (own_R hos))
 have hb1H := Lib.hid hb1
 clear hos hb1
 go_wp2_with fail
 go_loopg [19] n (fun gk s19 wr => ∃ i : Nat, s19 = .int .i64 (i : Int) ∧ i + gk = n ∧ Hid (∀ j (hj : j < ts.length), j < i → knownB es ts[j] = true) ∧ Hid (Below w1.heap.size w1 wr))
 case atStart => exact ⟨0, rfl, Nat.zero_add _, Lib.hid (fun j _ h => absurd h (Nat.not_lt_zero _)), Lib.hid (Below.refl _ _)⟩
 case round =>
  obtain ⟨i, rfl, hik, hK, hB⟩ := hrel
  have hBw : Hid (Below w.heap.size w wr) := Lib.hid (hb1H.out.trans (hB.out.mono hb1H.out.size))
  cases gk with
  | zero =>
   obtain rfl : i = n := by omega
   have hlt : decide ((i : Int) < (i : Int)) = false := by simp
   have hall : Hid (ts.all (knownB es) = true) := Lib.hid (List.all_eq_true.2 fun x hx => by
    obtain ⟨j, hj, rfl⟩ := List.mem_iff_getElem.1 hx
    exact hK.out j hj (by rw [← hNH.out]; exact hj))
   have hGr := hGH.out.below hBw.out
   have hM := Lib.hid (made_any p es ts (.slice A i c) wr hGr.makers ⟨A, c, by rw [hNH.out], by rw [hNH.out]; exact hc, Kd.C_below hCH.out hBw.out⟩ (by rw [hNH.out]; exact hn) hlH.out)
   unfold ptr at hM
   go_wp2_with fail
   refine hM.out.mono ?_
   rintro e w2 ⟨v2, rfl, hR2, hb2⟩
   have hB2 := Lib.hid (hBw.out.trans (hb2.mono hBw.out.size))
   have hRe := Lib.hid (reached_any p es defs (madeL es ts) v2 w2 (hGH.out.below hB2.out) (by omega) (ints_of_R hR2) (Nat.le_trans (madeL_len es ts) (by rw [hNH.out]; exact hn)) (fun k hk => madeL_lt hk) hahH.out)
   unfold ptr at hRe
   clear hR2 hb2 hGr
   go_wp2_with fail
   refine hRe.out.mono ?_
   rintro e w3 ⟨v3, r, rfl, hmem, hrl, hR3, hb3⟩
   have hB3 := Lib.hid (hB2.out.trans (hb3.mono hB2.out.size))
   have hmemH := Lib.hid hmem
   have hOr := Lib.hid (order_any p es defs r v3 w3 (hGH.out.below hB3.out) (by omega) (ints_of_R hR3) (by omega) (fun k hk => by
    obtain ⟨s, hs, hst⟩ := (hmem k).1 hk
    exact hst.lt (madeL_lt hs)) hahH.out)
   unfold ptr at hOr
   clear hR3 hb3 hmem
   go_wp2_with fail
   refine hOr.out.mono ?_
   rintro e w4 ⟨v4, out, rfl, hO, hR4, hb4⟩
   have hOH := Lib.hid hO
   have hR4H := Lib.hid (Kd.R_lower hR4 hB3.out.size)
   have hB4 := Lib.hid (hB3.out.trans (hb4.mono hB3.out.size))
   clear hO hR4 hb4
   go_wp2_with fail
   go_ret2
   refine Planned.yes hB4.out hall.out ⟨r, fun k => ?_, hOH.out⟩ hR4H.out
   rw [hmemH.out k]
   constructor
   ·rintro ⟨s, hs, hst⟩
    obtain ⟨t, ht, hm⟩ := mem_madeL.1 hs
    exact ⟨t, ht, s, hm, hst⟩
   ·rintro ⟨t, ht, s, hm, hst⟩
    exact ⟨s, mem_madeL.2 ⟨t, ht, hm⟩, hst⟩
  | succ gk =>
   have hi : i < ts.length := by rw [hNH.out]; omega
   have hlt : decide ((i : Int) < (n : Int)) = true := by rw [decide_eq_true_iff]; omega
   have i1 : (0 : Int) ≤ (i : Int) := by omega
   have i2 : (i : Int) < (n : Int) := by omega
   obtain ⟨ad, hA, k0⟩ := text_at hCH.out i hi
   subst hA
   replace k0 := below_cell hBw.out k0
   have hln := hlH.out ts[i] (List.getElem_mem hi)
   have hKn : Hid (knownB es ts[i] = true → ∀ j (hj : j < ts.length), j < i + 1 → knownB es ts[j] = true) := Lib.hid (fun h j hj hji => by
    rcases Nat.lt_or_ge j i with h1 | h1
    ·exact hK.out j hj h1
    ·have : j = i := by omega
     subst this; exact h)
   have hKf : Hid (knownB es ts[i] = false → ts.all (knownB es) = false) := Lib.hid (fun h => List.all_eq_false.2 ⟨ts[i], List.getElem_mem hi, by rw [h]; decide⟩)
   generalize ts[i] = t at *
   obtain ⟨v0, v1, v3, mb, q, hb, hq, hm⟩ := hGH.out.makers.below hBw.out
   have c2 := (cell_of_heap (j := 2) hb).trans rfl
   have hlk := hm.look_ok (t := 83) (e := 3) Tryz.underlying83 (zeroInt wr) t (by unfold maxLen; omega)
   have e2 : (makerV es t).isSome = (makerL es t).isSome := by unfold makerV; cases makerL es t <;> rfl
   have e1 : (makerV es t).getD (.int .i64 0) = .int .i64 (((makerL es t).getD 0 : Nat) : Int) := by unfold makerV; cases makerL es t <;> rfl
   rw [e1, e2] at hlk
   have hSr := Search_any vs (srcRow es) t wr (hosH.out.below hB.out) (srcRow_sorted es) (by omega)
   have hkb : Hid (knownB es t = ((makerL es t).isSome || decide (t ∈ srcRow es))) := Lib.hid rfl
   generalize (((makerL es t).getD 0 : Nat) : Int) = z at *
   generalize (makerL es t).isSome = bm at *
   generalize decide (t ∈ srcRow es) = bs at *
   have hSrH := Lib.hid hSr
   clear e1 e2 hm hb hSr
   go_wp2_with fail
   refine hSrH.out.mono ?_
   rintro e w2 ⟨rr, rfl, hb2⟩
   have hB2 := Lib.hid (hB.out.trans (hb2.mono hB.out.size))
   have hBw2 := Lib.hid (hBw.out.trans (hb2.mono hBw.out.size))
   clear hb2
   cases bs with
   | true =>
    go_wp2_with fail
    go_roundg gk
    case measure => omega
    case rel => exact ⟨i + 1, by first | rfl | simp, by omega, Lib.hid (hKn.out (by rw [hkb.out]; simp)), hB2⟩
   | false =>
    cases bm with
    | true =>
     go_wp2_with fail
     go_roundg gk
     case measure => omega
     case rel => exact ⟨i + 1, by first | rfl | simp, by omega, Lib.hid (hKn.out (by rw [hkb.out]; simp)), hB2⟩
    | false =>
     go_wp2_with fail
     go_ret2
     exact Planned.no hBw2.out (hKf.out (by rw [hkb.out]; rfl))
end Go.Proofs.YtnegfigaiomehaaGreatDoor.Tp
end
section
namespace Go.Proofs.YtnegfigaiomehaaGreatDoor.Tp
open Go.RowKit Go.Lib Go.Shelf Go.Maps Go.Proofs.YtnegfigaiomehaaGreatDoorW.PrintWords Go.Proofs.YtnegfigaiomehaaGreatDoorW.PrintLast Go.Proofs.YtnegfigaiomehaaGreatDoorW.PrintMore Go.Proofs.YtnegfigaiomehaaGreatDoor.U Go.Proofs.YtnegfigaiomehaaGreatDoor.P Go.Proofs.YtnegfigaiomehaaGreatDoor.MapV Go.Proofs.YtnegfigaiomehaaGreatDoor.Ck
set_option maxRecDepth 100000 in
set_option maxHeartbeats 4000000 in
theorem targets_tells (q : Nat) (A : Option Addr) (n c : Nat) (es : List EdgeL) (w0 : World) (hq : w0.heap[q]? = some (.cells #[.slice A n c] 23 (0, 0))) (hs : Str w0 (.slice A n c) (usedRow es)) (hl : (usedRow es).length ≤ 1000000) :
  Tells 49 #[ptr q] (From w0) (fun _ => True) (fun f => decide (f ∈ usedRow es)) := by
 intro W x hW _
 have c0 := (cell_of_heap (j := 0) (below_blk hW hq)).trans rfl
 have hS := Lib.hid (Search_any (.slice A n c) (usedRow es) x W (hs.below hW) (usedRow_sorted es) hl)
 dsimp only
 generalize decide (x ∈ usedRow es) = b at *
 clear hs hq
 unfold ptr at *
 show Calls _ _ #[.string (B x), .pointer (some ⟨q, 0, none⟩)] _ _
 go_enter Tryz.func49, Tryz.ntmps49
 go_wp2_with fail
 refine hS.out.mono ?_
 rintro e w2 ⟨r, rfl, hb⟩
 have hbH := Lib.hid hb
 clear hb
 go_wp2_with fail
 go_ret
 exact ⟨rfl, hbH.out⟩
theorem usedL_eq (es : List EdgeL) (f : Txt) : usedL es f = decide (f ∈ usedRow es) := by
 rw [Bool.eq_iff_iff, decide_eq_true_iff, mem_usedRow]
 unfold usedL
 rw [List.any_eq_true]
 simp only [List.contains_iff_mem]
theorem targetsL_nil (es : List EdgeL) : targetsL es [] = keepL (fun f => decide (f ∈ usedRow es)) (es.flatMap EdgeL.outs) := by
 unfold targetsL keepL
 rw [if_neg (by simp)]
 congr 1
 funext f
 rw [usedL_eq]
theorem outsE_take (es : List EdgeL) (i : Nat) (h : i < es.length) : (es.take (i + 1)).flatMap EdgeL.outs = (es.take i).flatMap EdgeL.outs ++ es[i].outs := by
 rw [List.take_succ_eq_append_getElem h, List.flatMap_append]; simp
theorem outsE_len (es : List EdgeL) (h : ∀ e ∈ es, e.outs.length ≤ 1000) : (es.flatMap EdgeL.outs).length ≤ 1000 * es.length := by
 induction es with
 | nil => simp
 | cons e es ih =>
  have h1 := ih fun e he => h e (by simp [he])
  have h2 := h e (by simp)
  rw [List.flatMap_cons, List.length_append, List.length_cons]; omega
set_option maxRecDepth 100000 in
set_option maxHeartbeats 8000000 in
theorem Targets_any (p : Nat) (es : List EdgeL) (defs : List Txt) (w : World) (hG : GraphAt w p es defs) (hE : es.length ≤ 100) (hN : ∀ e ∈ es, (needsL e).length ≤ 1000) (hO : ∀ e ∈ es, e.outs.length ≤ 1000) (hd : defs.length ≤ 1000) :
  Calls Tryz.prog 16 #[ptr p] w fun e w' => ∃ v, e = .returned v ∧ Own w' w.heap.size v (targetsL es defs) ∧ Below w.heap.size w w' := by
 have hGH := Lib.hid hG
 have hOH := Lib.hid hO
 have hU := Lib.hid (used_any p es defs w hG hE hN)
 have hul := usedRow_len es hE hN
 obtain ⟨A0, c0, A1, c1, mb, A3, c3, hb, ⟨_, hC⟩, hS, _⟩ := hG.blk
 have x1 := (cell_of_heap (j := 1) hb).trans rfl
 have hbH := Lib.hid hb
 have hCH := Lib.hid hC
 have hSH := Lib.hid hS
 clear hG hO hN hb hC hS
 unfold ptr at *
 cases defs with
 | cons d0 ds =>
  have ht : Hid (targetsL es (d0 :: ds) = d0 :: ds) := Lib.hid (by unfold targetsL; rw [if_pos (by simp)])
  have hcl := Lib.hid (Clone_any _ (d0 :: ds) w hSH.out (by omega))
  obtain ⟨n, hn⟩ : ∃ n, (d0 :: ds).length = n := ⟨_, rfl⟩
  have hn0 : 0 < n := by rw [← hn]; simp
  have hgt : decide ((0 : Int) < (n : Int)) = true := by rw [decide_eq_true_iff]; omega
  rw [hn] at x1 hcl
  clear hn
  go_enter Tryz.func16, Tryz.ntmps16
  go_wp2_with fail
  refine hcl.out.mono ?_
  rintro e w1 ⟨v, rfl, hR, hb⟩
  have hRH := Lib.hid hR
  have hbH2 := Lib.hid hb
  clear hR hb
  go_wp2_with fail
  go_ret
  exact ⟨v, rfl, by rw [ht.out]; exact R_own' hRH.out, hbH2.out⟩
 | nil =>
  go_enter Tryz.func16, Tryz.ntmps16
  go_wp2_with fail
  refine hU.out.mono ?_
  rintro e w1 ⟨vs, rfl, ho, hb1⟩
  obtain ⟨As, cs, rfl, _, _⟩ := str_of_R (own_R ho)
  have hosH := Lib.hid (str_of_R (own_R ho))
  have hb1H := Lib.hid hb1
  clear ho hb1
  obtain ⟨wb, hwb⟩ : ∃ x, w1.alloc (.cells #[.slice As (usedRow es).length cs] 23) = x := ⟨_, rfl⟩
  have hbb : Below w1.heap.size w1 wb := by rw [← hwb]; exact (Below.refl _ _).alloc (Nat.le_refl _) _
  have hqb := heap_alloc_new w1 (.cells #[.slice As (usedRow es).length cs] 23)
  rw [hwb] at hqb
  have hT := Lib.hid (targets_tells w1.heap.size As (usedRow es).length cs es wb hqb (hosH.out.below hbb) (by omega))
  have hBb := Lib.hid (hb1H.out.trans (hbb.mono hb1H.out.size))
  have x0 := (cell_of_heap (j := 0) (below_blk hBb.out hbH.out)).trans rfl
  have hwbH := Lib.hid hwb
  clear hbb hqb hwb x1
  go_upto_region 6 with (fail)
  rw [hwbH.out]
  clear hwbH
  obtain ⟨n, hn⟩ : ∃ n, es.length = n := ⟨_, rfl⟩
  have hnH := Lib.hid hn
  rw [hn] at x0 hE
  clear hn
  go_wp2_with fail
  clear x0
  go_loopg [4, 30] n (fun gk s4 s30 wr => ∃ i : Nat, s30 = .int .i64 (i : Int) ∧ i + gk = n ∧ Hid (Kd.R Kd.string 9 wr wb.heap.size (fun _ => True) s4 (((es.take i).flatMap EdgeL.outs).map B)) ∧ Hid (Below wb.heap.size wb wr))
  case atStart => exact ⟨0, rfl, Nat.zero_add _, Lib.hid (Kd.R_nil _ _ _ _ _), Lib.hid (Below.refl _ _)⟩
  case round =>
   obtain ⟨i, rfl, hik, hR, hB1⟩ := hrel
   have hB : Hid (Below w.heap.size w wr) := Lib.hid (hBb.out.trans (hB1.out.mono hBb.out.size))
   cases gk with
   | zero =>
    obtain rfl : i = n := by omega
    have hlt : decide ((i : Int) < (i : Int)) = false := by simp
    have hO : Hid (Own wr wb.heap.size u4 (es.flatMap EdgeL.outs)) := by
     have := R_own' hR.out
     rw [List.take_of_length_le (by rw [hnH.out]; exact Nat.le_refl _)] at this
     exact Lib.hid this
    have hal := outsE_len es hOH.out
    rw [hnH.out] at hal
    have hown : Hid (∀ k, u4.ownBlock = some k → wb.heap.size ≤ k) := Lib.hid (fun k hk => (World.ownsRow.lt hO.out k hk).1)
    have hDl := Lib.hid (DeleteT_any 49 #[.pointer (some ⟨w1.heap.size, 0, none⟩)] (enters_of Tryz.func49 (by kernel_rfl) rfl) _ _ _ (from_stays _) hT.out u4 (es.flatMap EdgeL.outs) _ wr hO.out (fun W' hg => hB1.out.grown hg hB1.out.size hown.out) (fun _ _ => trivial) (by omega))
    go_wp2_with fail
    refine hDl.out.mono ?_
    rintro e w3 ⟨v', rfl, ho, hg⟩
    have hoH := Lib.hid ho
    have hB3 := Lib.hid (hB.out.grown hg hB.out.size (fun k hk => Nat.le_trans hBb.out.size (hown.out k hk)))
    clear ho hg
    go_wp2_with fail
    go_ret
    refine ⟨v', rfl, ?_, hB3.out⟩
    rw [targetsL_nil]
    exact own_lower hoH.out hBb.out.size
   | succ gk =>
    have hi : i < es.length := by rw [hnH.out]; omega
    have hlt : decide ((i : Int) < (n : Int)) = true := by rw [decide_eq_true_iff]; omega
    have i1 : (0 : Int) ≤ (i : Int) := by omega
    have i2 : (i : Int) < (n : Int) := by omega
    obtain ⟨ad, a0, d0, a1, d1, a2, d2, a3, d3, hA, k0, k1, k2, k3, k4, k5, hed⟩ := edge_at rfl hCH.out i hi
    subst hA
    replace k0 := below_cell hB.out k0
    replace k1 := below_cell hB.out k1
    replace k2 := below_cell hB.out k2
    replace k3 := below_cell hB.out k3
    replace k4 := below_cell hB.out k4
    replace k5 := below_cell hB.out k5
    have htk := Lib.hid (outsE_take es i hi)
    have hok := hOH.out es[i] (List.getElem_mem hi)
    have hal := outsE_len (es.take i) (fun e he => hOH.out e (List.mem_of_mem_take he))
    rw [List.length_take] at hal
    have hC' : Kd.C Kd.string w a0 es[i].outs.length (es[i].outs.map B) := by
     obtain ⟨_, _, _, _, e0, ⟨A', c', e1, hl', hC'⟩, _⟩ := hed
     injection e0 with e0 _
     rw [← e0] at e1
     injection e1 with e1 _ e2
     subst e1
     exact hC'
    clear hed
    generalize es[i] = e at *
    have hCa : Hid (Kd.C Kd.string (wr.alloc (.cells #[.slice a0 e.outs.length d0, .slice a1 e.ins.length d1, .slice a2 e.imp.length d2, .slice a3 e.ord.length d3, .string (B e.cmd), .string (B e.dep)] 35)) a0 e.outs.length (e.outs.map B)) := Lib.hid (Kd.C_below hC' (hB.out.alloc hB.out.size _))
    have hBa : Hid (Below wb.heap.size wb (wr.alloc (.cells #[.slice a0 e.outs.length d0, .slice a1 e.ins.length d1, .slice a2 e.imp.length d2, .slice a3 e.ord.length d3, .string (B e.cmd), .string (B e.dep)] 35))) := Lib.hid (hB1.out.alloc hB1.out.size _)
    have hRa : Hid (Kd.R Kd.string 9 (wr.alloc (.cells #[.slice a0 e.outs.length d0, .slice a1 e.ins.length d1, .slice a2 e.imp.length d2, .slice a3 e.ord.length d3, .string (B e.cmd), .string (B e.dep)] 35)) wb.heap.size (fun _ => True) u4 (((es.take i).flatMap EdgeL.outs).map B)) := Lib.hid (Kd.R_below hR.out ((Below.refl _ _).alloc (Nat.le_refl _) _))
    clear hC'
    have hbd : ((((es.take i).flatMap EdgeL.outs).map B).length + e.outs.length) * 16 ≤ 140737488355328 := by rw [List.length_map]; omega
    go_wp2_with (at_builtin; go_loud (refine Kd.R_append_row (w0 := wb) Value.string ByteArray.empty (h1 := fun _ => rfl) wb.heap.size rfl _ _ 23 9 (.string ⟨#[]⟩) 16 rfl Tryz.underlying23 infoTxt rfl (by decide) u4 (((es.take i).flatMap EdgeL.outs).map B) (e.outs.map B) a0 e.outs.length d0 (fun _ => True) rfl rfl (fun _ _ => trivial) hRa.out hCa.out hBa.out hBa.out.size hbd ?_))
    intro v2 w2 hR2 hb2 _ _
    have hO1 : Hid (Kd.R Kd.string 9 w2 wb.heap.size (fun _ => True) v2 (((es.take (i + 1)).flatMap EdgeL.outs).map B)) := by
     show Kd.R _ _ _ _ _ _ _
     rw [htk.out, List.map_append]; exact hR2
    have hB2 := Lib.hid hb2
    clear hR2 hb2 k0 k1 k2 k3 k4 k5
    go_wp2_with fail
    go_roundg gk
    case measure => omega
    case rel => exact ⟨i + 1, by first | rfl | simp, by omega, hO1, hB2⟩
end Go.Proofs.YtnegfigaiomehaaGreatDoor.Tp
end
section
namespace Go.Proofs.YtnegfigaiomehaaGreatDoor.Tp
open Go.RowKit Go.Lib Go.Shelf Go.Maps Go.Proofs.YtnegfigaiomehaaGreatDoorW.PrintWords Go.Proofs.YtnegfigaiomehaaGreatDoorW.PrintLast Go.Proofs.YtnegfigaiomehaaGreatDoorW.PrintMore Go.Proofs.YtnegfigaiomehaaGreatDoor.U Go.Proofs.YtnegfigaiomehaaGreatDoor.P Go.Proofs.YtnegfigaiomehaaGreatDoor.MapV Go.Proofs.YtnegfigaiomehaaGreatDoor.Ck
def logs : List ByteArray := [⟨#[46, 98, 117, 105, 108, 100, 95, 108, 111, 103]⟩, ⟨#[46, 100, 101, 112, 115, 95, 108, 111, 103]⟩]
def ownB (f : Txt) : Bool := (f == [98, 117, 105, 108, 100, 46, 110, 105, 110, 106, 97]) || Lib.containsS logs ⟨(Lib.trimSuffix f [46, 110, 101, 119]).toArray⟩
set_option maxRecDepth 100000 in
set_option maxHeartbeats 4000000 in
theorem Own_any (f : Txt) (w : World) (hf : f.length ≤ 100000) : Calls Tryz.prog 29 #[.string (B f)] w fun e w' => e = .returned (.bool (ownB f)) ∧ Below w.heap.size w w' := by
 have hfl : (B f).toList = f := toList_B f
 cases hq : (f == [98, 117, 105, 108, 100, 46, 110, 105, 110, 106, 97]) with
 | true =>
  have ho : ownB f = true := by unfold ownB; rw [hq]; rfl
  rw [ho]
  go_enter Tryz.func29, Tryz.ntmps29
  go_wp2_with fail
  go_ret
  exact ⟨rfl, Below.refl _ _⟩
 | false =>
  have ho : Hid (ownB f = Lib.containsS logs ⟨(Lib.trimSuffix f [46, 110, 101, 119]).toArray⟩) := Lib.hid (by unfold ownB; rw [hq]; rfl)
  have hT := Lib.hid (fun W => Tryz.strings_TrimSuffix (B f) ⟨#[46, 110, 101, 119]⟩ W (by rw [size_B]; omega))
  go_enter Tryz.func29, Tryz.ntmps29
  go_wp2_with fail
  refine (hT.out _).mono ?_
  rintro e w2 ⟨rfl, rfl⟩
  have hx := heap_alloc_new w (.cells #[.string ⟨#[46, 98, 117, 105, 108, 100, 95, 108, 111, 103]⟩, .string ⟨#[46, 100, 101, 112, 115, 95, 108, 111, 103]⟩] 9)
  have hC := Lib.hid (Tryz.slices_Contains_string w.heap.size 0 2 2 logs ⟨(Lib.trimSuffix f [46, 110, 101, 119]).toArray⟩ _ (by decide) (by decide) (by
   intro j hj
   match j, hj with
   | 0, _ => exact (cell_of_heap (j := 0) hx).trans rfl
   | 1, _ => exact (cell_of_heap (j := 1) hx).trans rfl))
  have hB : Hid (Below w.heap.size w (w.alloc (.cells #[.string ⟨#[46, 98, 117, 105, 108, 100, 95, 108, 111, 103]⟩, .string ⟨#[46, 100, 101, 112, 115, 95, 108, 111, 103]⟩] 9))) := (Below.refl _ _).alloc (Nat.le_refl _) _
  clear hx
  go_wp2_with fail
  refine hC.out.mono ?_
  rintro e w3 ⟨rfl, rfl⟩
  go_wp2_with fail
  go_ret
  exact ⟨by rw [ho.out]; rfl, hB.out⟩
end Go.Proofs.YtnegfigaiomehaaGreatDoor.Tp
end
section
namespace Go.Proofs.YtnegfigaiomehaaGreatDoor.Tp
open Go.RowKit Go.Lib Go.Shelf Go.Maps Go.Proofs.YtnegfigaiomehaaGreatDoorW.PrintWords Go.Proofs.YtnegfigaiomehaaGreatDoorW.PrintLast Go.Proofs.YtnegfigaiomehaaGreatDoorW.PrintMore Go.Proofs.YtnegfigaiomehaaGreatDoor.U Go.Proofs.YtnegfigaiomehaaGreatDoor.P Go.Proofs.YtnegfigaiomehaaGreatDoor.MapV Go.Proofs.YtnegfigaiomehaaGreatDoor.Ck
theorem own_tells (w0 : World) : Tells 29 #[] (From w0) (fun x => x.length ≤ 100000) ownB := by
 intro W x _ hx
 show Calls _ _ #[.string (B x)] _ _
 exact Own_any x W hx
def wrongB (es : List EdgeL) : Bool := (es.flatMap EdgeL.outs).any ownB || (es.flatMap needsL).any ownB
theorem any_outs {es : List EdgeL} {r : List Txt} (h : ∀ k, k ∈ r ↔ (makerL es k).isSome = true) : r.any ownB = (es.flatMap EdgeL.outs).any ownB := by
 have key : ∀ k, k ∈ r ↔ k ∈ es.flatMap EdgeL.outs := fun k => by
  rw [h, List.mem_flatMap]
  cases hm : makerL es k with
  | none =>
   have := maker_none.1 hm
   simp only [Option.isSome_none, Bool.false_eq_true, false_iff]
   rintro ⟨e, he, hk⟩
   exact this e he hk
  | some n =>
   obtain ⟨e, he, hk⟩ := maker_at hm
   simp only [Option.isSome_some, true_iff]
   exact ⟨e, List.mem_of_getElem? he, hk⟩
 rw [Bool.eq_iff_iff, List.any_eq_true, List.any_eq_true]
 exact ⟨fun ⟨x, h1, h2⟩ => ⟨x, (key x).1 h1, h2⟩, fun ⟨x, h1, h2⟩ => ⟨x, (key x).2 h1, h2⟩⟩
theorem any_src {es : List EdgeL} (h : (es.flatMap EdgeL.outs).any ownB = false) : (srcRow es).any ownB = (es.flatMap needsL).any ownB := by
 rw [Bool.eq_iff_iff, List.any_eq_true, List.any_eq_true]
 constructor
 ·rintro ⟨x, h1, h2⟩
  obtain ⟨e, he, hx⟩ := ((mem_srcRow es x).1 h1).1
  exact ⟨x, List.mem_flatMap.2 ⟨e, he, hx⟩, h2⟩
 ·rintro ⟨x, h1, h2⟩
  obtain ⟨e, he, hx⟩ := List.mem_flatMap.1 h1
  refine ⟨x, (mem_srcRow es x).2 ⟨⟨e, he, hx⟩, ?_⟩, h2⟩
  cases hm : makerL es x with
  | none => rfl
  | some n =>
   obtain ⟨e', he', hk⟩ := maker_at hm
   have := List.any_eq_false.1 h x (List.mem_flatMap.2 ⟨e', List.mem_of_getElem? he', hk⟩)
   exact absurd h2 this
set_option maxRecDepth 100000 in
set_option maxHeartbeats 4000000 in
theorem Wrong_any (p : Nat) (es : List EdgeL) (defs : List Txt) (w : World) (hG : GraphAt w p es defs) (hE : es.length ≤ 100) (hN : ∀ e ∈ es, (needsL e).length ≤ 1000) (hx : ∀ e ∈ es, ∀ f ∈ needsL e, f.length ≤ 100000) (ho : ∀ e ∈ es, ∀ f ∈ e.outs, f.length ≤ 100000) :
  Calls Tryz.prog 15 #[ptr p] w fun e w' => e = .returned (.bool (wrongB es)) ∧ Below w.heap.size w w' := by
 have hOu := Lib.hid (Outs_any p es w hG.makers)
 have hSo := Lib.hid (fun W (hW : Below w.heap.size w W) => Sources_any p es defs W (hG.below hW) hE hN hx)
 have hsl : (srcRow es).length ≤ 100000 := Nat.le_trans (List.length_filter_le ..) (usedRow_len es hE hN)
 have eg := enters_of Tryz.func29 (by kernel_rfl) rfl
 have hoH := Lib.hid ho
 have hxH := Lib.hid hx
 clear hG ho hx hN
 unfold ptr at *
 go_enter Tryz.func15, Tryz.ntmps15
 go_wp2_with fail
 refine hOu.out.mono ?_
 rintro e w1 ⟨v, r, rfl, hmem, hrl, hR, hb⟩
 have hC1 := Lib.hid (ContainsT_any 29 #[] eg _ _ _ (from_stays w1) (own_tells w1) v r w1 (str_of_R hR) (fun x hx => by
  have := (hmem x).1 hx
  cases hm : makerL es x with
  | none => rw [hm] at this; cases this
  | some n =>
   obtain ⟨e, he, hk⟩ := maker_at hm
   exact hoH.out e (List.mem_of_getElem? he) x hk) (Below.refl _ _) hrl)
 rw [any_outs hmem] at hC1
 have hb1 := Lib.hid hb
 clear hmem hR hb
 go_wp2_with fail
 refine hC1.out.mono ?_
 rintro e w2 ⟨rfl, hb⟩
 have hb2 := Lib.hid (hb1.out.trans (hb.mono hb1.out.size))
 clear hb
 cases hq : (es.flatMap EdgeL.outs).any ownB with
 | true =>
  have hw : Hid (wrongB es = true) := Lib.hid (by unfold wrongB; rw [hq]; rfl)
  go_wp2_with fail
  go_ret
  exact ⟨by rw [hw.out]; rfl, hb2.out⟩
 | false =>
  have hw : Hid (wrongB es = (es.flatMap needsL).any ownB) := Lib.hid (by unfold wrongB; rw [hq]; rfl)
  have hqs := any_src hq
  have hS2 := Lib.hid (hSo.out w2 hb2.out)
  go_wp2_with fail
  refine hS2.out.mono ?_
  rintro e w3 ⟨v3, rfl, ho3, hb3⟩
  have hC3 := Lib.hid (ContainsT_any 29 #[] eg _ _ _ (from_stays w3) (own_tells w3) v3 (srcRow es) w3 (str_of_R (own_R ho3)) (fun x hx => by
   obtain ⟨e, he, hf⟩ := ((mem_srcRow es x).1 hx).1
   exact hxH.out e he x hf) (Below.refl _ _) (by omega))
  rw [hqs] at hC3
  clear hqs
  generalize (es.flatMap needsL).any ownB = bb at *
  have hb4 := Lib.hid (hb2.out.trans (hb3.mono hb2.out.size))
  clear ho3 hb3
  go_wp2_with fail
  refine hC3.out.mono ?_
  rintro e w4 ⟨rfl, hb⟩
  have hb5 := Lib.hid (hb4.out.trans (hb.mono hb4.out.size))
  clear hb
  go_wp2_with fail
  go_ret
  exact ⟨by rw [hw.out]; try rfl, hb5.out⟩
end Go.Proofs.YtnegfigaiomehaaGreatDoor.Tp
end
section
namespace Go.Proofs.YtnegfigaiomehaaGreatDoor.Tp
open Go.RowKit Go.Lib Go.Shelf Go.Maps Go.Proofs.YtnegfigaiomehaaGreatDoorW.PrintWords Go.Proofs.YtnegfigaiomehaaGreatDoorW.PrintLast Go.Proofs.YtnegfigaiomehaaGreatDoorW.PrintMore Go.Proofs.YtnegfigaiomehaaGreatDoor.U Go.Proofs.YtnegfigaiomehaaGreatDoor.P Go.Proofs.YtnegfigaiomehaaGreatDoor.MapV Go.Proofs.YtnegfigaiomehaaGreatDoor.Ck
noncomputable def thereB (es : List EdgeL) (n : Nat) (f : Txt) : Bool := match makerL es f with
 | none => !ownB f
 | some _ => aboveB es n f
theorem above_row {es : List EdgeL} (ho : Once es) {n : Nat} {l : List Txt} (h : ∀ f, f ∈ l ↔ ∃ k, Above es n k ∧ f ∈ outsOf es k) (f : Txt) : decide (f ∈ l) = aboveB es n f := by
 rw [Bool.eq_iff_iff, decide_eq_true_iff, aboveB_iff, h]
 constructor
 ·rintro ⟨k, h1, h2⟩; exact ⟨k, h1, (mem_outsOf ho).1 h2⟩
 ·rintro ⟨k, h1, h2⟩; exact ⟨k, h1, (mem_outsOf ho).2 h2⟩
set_option maxRecDepth 100000 in
set_option maxHeartbeats 4000000 in
theorem There_any (p : Nat) (es : List EdgeL) (defs : List Txt) (n : Nat) (f : Txt) (w : World) (hG : GraphAt w p es defs) (hon : Once es) (hE : es.length ≤ 100) (hO : ∀ e ∈ es, e.outs.length ≤ 1000) (hah : ∀ n, (aheadL es n).length ≤ 1000) (hn : n < es.length) (hf : f.length ≤ 100000) :
  Calls Tryz.prog 25 #[ptr p, .int .i64 (n : Int), .string (B f)] w fun e w' => e = .returned (.bool (thereB es n f)) ∧ Below w.heap.size w w' := by
 have hM := Maker_any p es f w hG.makers hf
 have hA := Lib.hid (Above_any p es defs n w hG hE hO hah hn)
 have hOw := Lib.hid (Own_any f w hf)
 unfold ptr at *
 cases hm : makerL es f with
 | none =>
  rw [hm] at hM
  have hMH := Lib.hid hM
  have ht : Hid (thereB es n f = !ownB f) := Lib.hid (by unfold thereB; rw [hm])
  clear hM hG hO hah
  go_enter Tryz.func25, Tryz.ntmps25
  go_wp2_with fail
  refine hMH.out.mono ?_
  rintro e w1 ⟨rfl, rfl⟩
  go_wp2_with fail
  refine hOw.out.mono ?_
  rintro e w2 ⟨rfl, hb⟩
  have hbH := Lib.hid hb
  clear hb
  go_wp2_with fail
  go_ret
  exact ⟨by rw [ht.out]; try rfl, hbH.out⟩
 | some k =>
  rw [hm] at hM
  have hMH := Lib.hid hM
  have ht : Hid (thereB es n f = aboveB es n f) := Lib.hid (by unfold thereB; rw [hm])
  clear hM hG hO hah
  go_enter Tryz.func25, Tryz.ntmps25
  go_wp2_with fail
  refine hMH.out.mono ?_
  rintro e w1 ⟨rfl, rfl⟩
  go_wp2_with fail
  refine hA.out.mono ?_
  rintro e w2 ⟨v, l, rfl, hs, hl, hmem, ho, hb⟩
  have hS := Lib.hid (Search_any v l f w2 (str_of_R (own_R ho)) hs hl)
  rw [above_row hon hmem f] at hS
  have hbH := Lib.hid hb
  clear hb ho hs hmem
  generalize aboveB es n f = bb at *
  go_wp2_with fail
  refine hS.out.mono ?_
  rintro e w3 ⟨r, rfl, hb⟩
  have hb3 := Lib.hid (hbH.out.trans (hb.mono hbH.out.size))
  clear hb
  go_wp2_with fail
  go_ret
  exact ⟨by rw [ht.out]; try rfl, hb3.out⟩
end Go.Proofs.YtnegfigaiomehaaGreatDoor.Tp
end
section
namespace Go.Proofs.YtnegfigaiomehaaGreatDoor.Tp
open Go.RowKit Go.Lib Go.Shelf Go.Maps Go.Proofs.YtnegfigaiomehaaGreatDoorW.PrintWords Go.Proofs.YtnegfigaiomehaaGreatDoorW.PrintLast Go.Proofs.YtnegfigaiomehaaGreatDoorW.PrintMore Go.Proofs.YtnegfigaiomehaaGreatDoor.U Go.Proofs.YtnegfigaiomehaaGreatDoor.P Go.Proofs.YtnegfigaiomehaaGreatDoor.MapV Go.Proofs.YtnegfigaiomehaaGreatDoor.Ck
set_option maxRecDepth 100000 in
set_option maxHeartbeats 4000000 in
theorem missing_tells (q1 q2 p : Nat) (es : List EdgeL) (l : List FileL) (Al : Option Addr) (cl : Nat) (w0 : World) (hq1 : w0.heap[q1]? = some (.cells #[ptr p] 52 (0, 0))) (hq2 : w0.heap[q2]? = some (.cells #[.slice Al l.length cl] 36 (0, 0))) (hM : MakersAt w0 p es) (hl : Kd.C KF w0 Al l.length (l.map toF)) (hn : l.length ≤ 1000) (hb : ∀ f ∈ l, f.b.length ≤ 1000000) :
  Tells 18 #[ptr q1, ptr q2] (From w0) (fun x => x.length ≤ 100000) (missingL es l) := by
 intro W x hW hx
 have c1 := (cell_of_heap (j := 0) (below_blk hW hq1)).trans rfl
 have c2 := (cell_of_heap (j := 0) (below_blk hW hq2)).trans rfl
 have hMk := Maker_any p es x W (hM.below hW) hx
 have hFd := Lib.hid (Find_any Al cl l x W (by rw [List.length_map]; exact Kd.C_below hl hW) (by omega) hb)
 have hmv : missingL es l x = ((makerL es x).isNone && (findL l x).isNone) := rfl
 rw [hmv]
 cases hm : makerL es x <;> cases hf : findL l x <;> rw [hm] at hMk <;> rw [hf] at hFd <;> (
  have hMkH := Lib.hid hMk
  clear hMk hM hl hb hq1 hq2 hm hf hmv
  unfold ptr at *
  show Calls _ _ #[.string (B x), .pointer (some ⟨q1, 0, none⟩), .pointer (some ⟨q2, 0, none⟩)] _ _
  go_enter Tryz.func18, Tryz.ntmps18
  go_wp2_with fail
  refine hMkH.out.mono ?_
  rintro e w1 ⟨rfl, rfl⟩
  go_wp2_with fail
  refine hFd.out.mono ?_
  rintro e w2 ⟨hb, hr⟩
  have hbH := Lib.hid hb
  clear hb)
 ·subst hr
  go_wp2_with fail
  go_ret
  exact ⟨rfl, hbH.out⟩
 ·obtain ⟨v, rfl, _⟩ := hr
  go_wp2_with fail
  go_ret
  exact ⟨rfl, hbH.out⟩
 ·subst hr
  go_wp2_with fail
  go_ret
  exact ⟨rfl, hbH.out⟩
 ·obtain ⟨v, rfl, _⟩ := hr
  go_wp2_with fail
  go_ret
  exact ⟨rfl, hbH.out⟩
set_option maxRecDepth 100000 in
set_option maxHeartbeats 4000000 in
theorem far_tells (q1 q3 p n : Nat) (es : List EdgeL) (defs : List Txt) (w0 : World) (hq1 : w0.heap[q1]? = some (.cells #[ptr p] 52 (0, 0))) (hq3 : w0.heap[q3]? = some (.cells #[.int .i64 (n : Int)] 3 (0, 0))) (hG : GraphAt w0 p es defs) (hon : Once es) (hE : es.length ≤ 100) (hO : ∀ e ∈ es, e.outs.length ≤ 1000) (hah : ∀ n, (aheadL es n).length ≤ 1000) (hn : n < es.length) :
  TellsF 24 #[ptr q1, ptr q3] (From w0) (fun x => x.length ≤ 100000) (fun f => !thereB es n f) := by
 intro W x hW hx
 have hba : Below W.heap.size W (W.alloc (.cells #[.string (B x.n), .slice x.A x.k x.c] 40)) := (Below.refl _ _).alloc (Nat.le_refl _) _
 have hWa := hW.trans (hba.mono hW.size)
 have c1 := (cell_of_heap (j := 0) (below_blk hWa hq1)).trans rfl
 have c3 := (cell_of_heap (j := 0) (below_blk hWa hq3)).trans rfl
 have hT := Lib.hid (There_any p es defs n x.n _ (hG.below hWa) hon hE hO hah hn hx)
 have hbaH := Lib.hid hba
 clear hba hWa hq1 hq3 hG hO hah
 unfold ptr at *
 show Calls _ _ #[.agg #[.string (B x.n), .slice x.A x.k x.c], .pointer (some ⟨q1, 0, none⟩), .pointer (some ⟨q3, 0, none⟩)] _ _
 dsimp only
 generalize thereB es n x.n = b at *
 go_enter Tryz.func24, Tryz.ntmps24
 go_wp2_with fail
 refine hT.out.mono ?_
 rintro e w1 ⟨rfl, hb⟩
 have hb1 := Lib.hid (hbaH.out.trans (hb.mono hbaH.out.size))
 clear hb
 go_wp2_with fail
 go_ret
 exact ⟨rfl, hb1.out⟩
set_option maxRecDepth 100000 in
set_option maxHeartbeats 4000000 in
theorem plain_tells (q1 p : Nat) (es : List EdgeL) (w0 : World) (hq1 : w0.heap[q1]? = some (.cells #[ptr p] 52 (0, 0))) (hM : MakersAt w0 p es) :
  TellsF 28 #[ptr q1] (From w0) (fun x => x.length ≤ 100000) (fun f => (makerL es f).isSome || ownB f) := by
 intro W x hW hx
 have hba : Below W.heap.size W (W.alloc (.cells #[.string (B x.n), .slice x.A x.k x.c] 40)) := (Below.refl _ _).alloc (Nat.le_refl _) _
 have hWa := hW.trans (hba.mono hW.size)
 have c1 := (cell_of_heap (j := 0) (below_blk hWa hq1)).trans rfl
 have hMk := Lib.hid (Maker_any p es x.n _ (hM.below hWa) hx)
 have hOw := Lib.hid (Own_any x.n (W.alloc (.cells #[.string (B x.n), .slice x.A x.k x.c] 40)) hx)
 have hbaH := Lib.hid hba
 clear hba hWa hq1 hM
 unfold ptr at *
 show Calls _ _ #[.agg #[.string (B x.n), .slice x.A x.k x.c], .pointer (some ⟨q1, 0, none⟩)] _ _
 dsimp only
 generalize (((makerL es x.n).getD 0 : Nat) : Int) = z at *
 cases hm : (makerL es x.n).isSome with
 | true =>
  rw [hm] at hMk
  clear hm
  go_enter Tryz.func28, Tryz.ntmps28
  go_wp2_with fail
  refine hMk.out.mono ?_
  rintro e w1 ⟨rfl, rfl⟩
  go_wp2_with fail
  go_ret
  exact ⟨rfl, hbaH.out⟩
 | false =>
  rw [hm] at hMk
  clear hm
  go_enter Tryz.func28, Tryz.ntmps28
  go_wp2_with fail
  refine hMk.out.mono ?_
  rintro e w1 ⟨rfl, rfl⟩
  go_wp2_with fail
  refine hOw.out.mono ?_
  rintro e w2 ⟨rfl, hb⟩
  have hb1 := Lib.hid (hbaH.out.trans (hb.mono hbaH.out.size))
  clear hb
  go_wp2_with fail
  go_ret
  exact ⟨rfl, hb1.out⟩
set_option maxRecDepth 100000 in
set_option maxHeartbeats 4000000 in
theorem fits1_any (nm : Txt) (x : PairF) (w : World) :
  Calls Tryz.prog 68 #[.string (B nm), .agg #[.string (B x.n), .slice x.A x.k x.c]] w fun e w' => e = .returned (.bool (x.n == nm)) ∧ Below w.heap.size w w' := by
 go_enter Tryz.func68, Tryz.ntmps68
 go_wp2_with fail
 go_ret
 exact ⟨rfl, (Below.refl _ _).alloc (Nat.le_refl _) _⟩
set_option maxRecDepth 100000 in
set_option maxHeartbeats 8000000 in
theorem EqualF_any (v v2 : Value) (l : List Txt) (ps : List PairF) (w : World) (hv : Str w v l) (hv2 : Pairs w v2 ps) (hn : l.length ≤ 1000000) :
  Calls Tryz.prog 67 #[v, v2, .func (.func 68) #[] #[]] w fun e w' => e = .returned (.bool (decide (ps.map PairF.n = l))) ∧ Below w.heap.size w w' := by
 obtain ⟨A, c, rfl, _, hC⟩ := hv
 obtain ⟨A2, c2, rfl, _, hC2⟩ := hv2
 obtain ⟨n, hN⟩ : ∃ n, l.length = n := ⟨_, rfl⟩
 obtain ⟨m, hM⟩ : ∃ m, ps.length = m := ⟨_, rfl⟩
 have hNH := Lib.hid hN
 have hMH := Lib.hid hM
 have hCH := Lib.hid hC
 have hC2H := Lib.hid hC2
 rw [hN] at hn hCH ⊢
 rw [hM] at hC2H ⊢
 clear hC hC2 hN hM
 by_cases hnm : n = m
 ·subst hnm
  have hne : decide ((n : Int) ≠ (n : Int)) = false := by simp
  go_enter Tryz.func67, Tryz.ntmps67
  go_wp2_with fail
  go_loopg [17] n (fun gk s17 wr => ∃ i : Nat, s17 = .int .i64 (i : Int) ∧ i + gk = n ∧ Hid (∀ (j : Nat) (hj : j < i) (h : j < l.length) (h' : j < ps.length), ps[j].n = l[j]) ∧ Hid (Below w.heap.size w wr))
  case atStart => exact ⟨0, rfl, Nat.zero_add _, fun j hj => absurd hj (by omega), Below.refl _ _⟩
  case round =>
   obtain ⟨i, rfl, hik, hA, hB⟩ := hrel
   cases gk with
   | zero =>
    obtain rfl : i = n := by omega
    have hlt : decide ((i : Int) < (i : Int)) = false := by simp
    have heq : Hid (ps.map PairF.n = l) := Lib.hid (List.ext_getElem (by rw [List.length_map, hNH.out, hMH.out]) (fun j h1 h2 => by rw [List.getElem_map]; exact hA.out j (by rw [← hNH.out]; exact h2) h2 (by rw [List.length_map] at h1; exact h1)))
    go_wp2_with fail
    go_ret
    exact ⟨by rw [decide_eq_true heq.out]; try rfl, hB.out⟩
   | succ gk =>
    have hi : i < l.length := by rw [hNH.out]; omega
    have hi' : i < ps.length := by rw [hMH.out]; omega
    have hlt : decide ((i : Int) < (n : Int)) = true := by rw [decide_eq_true_iff]; omega
    have i1 : (0 : Int) ≤ (i : Int) := by omega
    have i2 : (i : Int) < (n : Int) := by omega
    obtain ⟨ad, hAd, k0⟩ := text_at (by have := hCH.out; rw [← hNH.out] at this; exact this) i hi
    subst hAd
    obtain ⟨bd, hBd, q0, q1⟩ := pair_at hMH.out hC2H.out i hi'
    subst hBd
    replace k0 := below_cell hB.out k0
    replace q0 := below_cell hB.out q0
    replace q1 := below_cell hB.out q1
    have hAn : Hid (ps[i].n = l[i] → ∀ (j : Nat) (hj : j < i + 1) (h : j < l.length) (h' : j < ps.length), ps[j].n = l[j]) := Lib.hid (fun hq j hj h h' => by
     rcases Nat.lt_or_ge j i with h1 | h1
     ·exact hA.out j h1 h h'
     ·have : j = i := by omega
      subst this; exact hq)
    have hno : Hid (ps[i].n ≠ l[i] → ¬ ps.map PairF.n = l) := Lib.hid (fun hq he => by
     have h1 : (ps.map PairF.n)[i]? = l[i]? := by rw [he]
     rw [List.getElem?_map, List.getElem?_eq_getElem hi', List.getElem?_eq_getElem hi] at h1
     injection h1 with h1
     exact hq h1)
    generalize l[i] = nm at *
    generalize ps[i] = x at *
    have hba : Below wr.heap.size wr (wr.alloc (.cells #[.string (B x.n), .slice x.A x.k x.c] 40)) := (Below.refl _ _).alloc (Nat.le_refl _) _
    have hf := Lib.hid (fits1_any nm x (wr.alloc (.cells #[.string (B x.n), .slice x.A x.k x.c] 40)))
    have hbaH := Lib.hid (hB.out.trans (hba.mono hB.out.size))
    clear hba
    by_cases hq : x.n = nm
    ·have hAm := Lib.hid (hAn.out hq)
     rw [show (x.n == nm) = true from beq_iff_eq.2 hq] at hf
     clear hq
     go_wp2_with fail
     refine hf.out.mono ?_
     rintro e w2 ⟨rfl, hb⟩
     have hB2 := Lib.hid (hbaH.out.trans (hb.mono hbaH.out.size))
     clear hb
     go_wp2_with fail
     go_roundg gk
     case measure => omega
     case rel => exact ⟨i + 1, by first | rfl | simp, by omega, hAm, hB2⟩
    ·have hne2 := Lib.hid (hno.out hq)
     rw [show (x.n == nm) = false from beq_eq_false_iff_ne.2 hq] at hf
     clear hq
     go_wp2_with fail
     refine hf.out.mono ?_
     rintro e w2 ⟨rfl, hb⟩
     have hB2 := Lib.hid (hbaH.out.trans (hb.mono hbaH.out.size))
     clear hb
     go_wp2_with fail
     go_ret
     exact ⟨by rw [decide_eq_false hne2.out]; try rfl, hB2.out⟩
 ·have hne : decide ((n : Int) ≠ (m : Int)) = true := by rw [decide_eq_true_iff]; omega
  have hne1 : decide ((n : Int) = (m : Int)) = false := by rw [decide_eq_false_iff_not]; omega
  have hne2 : ((n : Int) != (m : Int)) = true := by rw [bne_iff_ne]; omega
  have hne3 : ((n : Int) == (m : Int)) = false := by rw [beq_eq_false_iff_ne]; omega
  have hne4 : (n == m) = false := by rw [beq_eq_false_iff_ne]; omega
  have hne5 : (n != m) = true := by rw [bne_iff_ne]; omega
  have hno : Hid (¬ ps.map PairF.n = l) := Lib.hid (fun he => by
   have := congrArg List.length he
   rw [List.length_map, hNH.out, hMH.out] at this
   omega)
  go_enter Tryz.func67, Tryz.ntmps67
  go_wp2_with fail
  go_ret
  exact ⟨by rw [decide_eq_false hno.out]; try rfl, Below.refl _ _⟩
set_option maxRecDepth 100000 in
set_option maxHeartbeats 8000000 in
theorem Fits_any (cs : List Value) (e : EdgeL) (vo : Value) (ps : List PairF) (once : Bool) (dep deps : Txt) (w : World) (he : EdgeAt w cs e) (hv2 : Pairs w vo ps) (hn : e.outs.length ≤ 1000000) :
  Calls Tryz.prog 32 #[.agg cs.toArray, .agg #[vo, .bool once, .string (B dep), .string (B deps)]] w fun x w' => x = .returned (.bool (decide (dep = e.dep) && decide (ps.map PairF.n = e.outs))) ∧ Below w.heap.size w w' := by
 obtain ⟨v0, v1, v2, v3, rfl, ⟨A0, c0, rfl, l0, g0⟩, ⟨A1, c1, rfl, l1, g1⟩, ⟨A2, c2, rfl, l2, g2⟩, ⟨A3, c3, rfl, l3, g3⟩⟩ := he
 obtain ⟨Ao, co, rfl, lo, go⟩ := hv2
 have hba := (Below.refl w.heap.size w).alloc (Nat.le_refl _) (.cells #[.slice A0 e.outs.length c0, .slice A1 e.ins.length c1, .slice A2 e.imp.length c2, .slice A3 e.ord.length c3, .string (B e.cmd), .string (B e.dep)] 35)
 have hbb := hba.alloc hba.size (.cells #[.slice Ao ps.length co, .bool once, .string (B dep), .string (B deps)] 72)
 have hE := Lib.hid (EqualF_any (.slice A0 e.outs.length c0) (.slice Ao ps.length co) e.outs ps _ ⟨A0, c0, rfl, l0, Kd.C_below g0 hbb⟩ ⟨Ao, co, rfl, lo, Kd.C_below go hbb⟩ hn)
 have hbbH := Lib.hid hbb
 clear hba hbb g0 g1 g2 g3 go l0 l1 l2 l3 lo
 by_cases hd : dep = e.dep
 ·have hd1 : (dep == e.dep) = true := beq_iff_eq.2 hd
  rw [decide_eq_true hd, Bool.true_and]
  generalize decide (ps.map PairF.n = e.outs) = b at *
  clear hd
  go_enter Tryz.func32, Tryz.ntmps32
  go_wp2_with fail
  refine hE.out.mono ?_
  rintro x w1 ⟨rfl, hb⟩
  have hB := Lib.hid (hbbH.out.trans (hb.mono hbbH.out.size))
  clear hb
  go_wp2_with fail
  go_ret
  exact ⟨rfl, hB.out⟩
 ·have hd1 : (dep == e.dep) = false := beq_eq_false_iff_ne.2 hd
  rw [decide_eq_false hd, Bool.false_and]
  clear hd
  go_enter Tryz.func32, Tryz.ntmps32
  go_wp2_with fail
  go_ret
  exact ⟨rfl, hbbH.out⟩
end Go.Proofs.YtnegfigaiomehaaGreatDoor.Tp
end
section
namespace Go.Proofs.YtnegfigaiomehaaGreatDoor.Tp
open Go.RowKit Go.Lib Go.Shelf Go.Maps Go.Proofs.YtnegfigaiomehaaGreatDoorW.PrintWords Go.Proofs.YtnegfigaiomehaaGreatDoorW.PrintLast Go.Proofs.YtnegfigaiomehaaGreatDoorW.PrintMore Go.Proofs.YtnegfigaiomehaaGreatDoor.U Go.Proofs.YtnegfigaiomehaaGreatDoor.P Go.Proofs.YtnegfigaiomehaaGreatDoor.MapV Go.Proofs.YtnegfigaiomehaaGreatDoor.Ck
def putV (m : MapVal) (fs : List Txt) (n : Nat) : MapVal := fun f => if f ∈ fs then some (.int .i64 (n : Int)) else m f
theorem putV_nil (m : MapVal) (n : Nat) : putV m [] n = m := by funext f; simp [putV]
theorem putV_add (m : MapVal) (fs : List Txt) (x : Txt) (n : Nat) : updV (putV m fs n) x (.int .i64 (n : Int)) = putV m (fs ++ [x]) n := by
 funext f
 unfold updV putV
 by_cases h : f = x
 ·subst h; simp
 ·by_cases h2 : f ∈ fs <;> simp [h, h2]
theorem maker_snoc (es : List EdgeL) (e : EdgeL) (f : Txt) : makerL (es ++ [e]) f = (makerL es f).or (if f ∈ e.outs then some es.length else none) := by
 unfold makerL
 rw [List.findIdx?_append]
 congr 1
 rw [List.findIdx?_cons]
 by_cases h : f ∈ e.outs
 ·simp [h]
 ·simp [h]
theorem makerV_nil : makerV [] = noneV := by funext f; rfl
theorem maker_mem {es : List EdgeL} {f : Txt} : (makerL es f).isSome = decide (f ∈ es.flatMap EdgeL.outs) := by
 rw [Bool.eq_iff_iff, decide_eq_true_iff, List.mem_flatMap]
 cases hm : makerL es f with
 | none =>
  have := maker_none.1 hm
  simp only [Option.isSome_none, Bool.false_eq_true, false_iff]
  rintro ⟨e, he, hf⟩
  exact this e he hf
 | some k =>
  obtain ⟨e, he, hf⟩ := maker_at hm
  simp only [Option.isSome_some, true_iff]
  exact ⟨e, List.mem_of_getElem? he, hf⟩
theorem makerV_snoc {es : List EdgeL} {e : EdgeL} (h : (es.flatMap EdgeL.outs ++ e.outs).Nodup) : putV (makerV es) e.outs es.length = makerV (es ++ [e]) := by
 funext f
 unfold putV makerV
 rw [maker_snoc]
 by_cases hf : f ∈ e.outs
 ·rw [if_pos hf, if_pos hf]
  cases hm : makerL es f with
  | none => rfl
  | some k =>
   exfalso
   have h1 : f ∈ es.flatMap EdgeL.outs := by
    have := maker_mem (es := es) (f := f)
    rw [hm] at this
    simpa using this
   exact (List.nodup_append.1 h).2.2 f h1 f hf rfl
 ·rw [if_neg hf, if_neg hf]
  cases makerL es f <;> rfl
theorem putV_some (es : List EdgeL) (fs : List Txt) (n : Nat) (x : Txt) : (putV (makerV es) fs n x).isSome = decide (x ∈ es.flatMap EdgeL.outs ++ fs) := by
 rw [Bool.eq_iff_iff, decide_eq_true_iff, List.mem_append]
 unfold putV makerV
 have := maker_mem (es := es) (f := x)
 rw [Bool.eq_iff_iff, decide_eq_true_iff] at this
 by_cases h : x ∈ fs
 ·simp [h]
 ·simp only [h, if_false, or_false]
  rw [← this]
  cases makerL es x <;> simp
theorem outs_take (es : List EdgeL) (i : Nat) (h : i < es.length) : (es.take (i + 1)).flatMap EdgeL.outs = (es.take i).flatMap EdgeL.outs ++ es[i].outs := by
 rw [List.take_succ_eq_append_getElem h, List.flatMap_append]; simp
theorem twice_not {es : List EdgeL} {i j : Nat} (hi : i < es.length) (hj : j < es[i].outs.length) (h : es[i].outs[j] ∈ (es.take i).flatMap EdgeL.outs ++ es[i].outs.take j) : ¬ Once es := by
 intro ho
 have e1 : es.flatMap EdgeL.outs = (es.take (i + 1)).flatMap EdgeL.outs ++ (es.drop (i + 1)).flatMap EdgeL.outs := by
  rw [← List.flatMap_append, List.take_append_drop]
 have e2 : es[i].outs = es[i].outs.take j ++ es[i].outs.drop j := (List.take_append_drop ..).symm
 unfold Once at ho
 rw [e1, outs_take es i hi, e2, ← List.append_assoc, List.append_assoc, List.nodup_append] at ho
 refine ho.2.2 _ h _ ?_ rfl
 rw [List.drop_eq_getElem_cons hj]
 exact List.mem_append_left _ List.mem_cons_self
theorem intsN_range (n : Nat) : intsN (List.range (n + 1)) = intsN (List.range n) ++ [(n : Int)] := by
 rw [List.range_succ]; simp [intsN]
def aheadRow (es : List EdgeL) (n : Nat) : List (List Int) := (List.range n).map fun k => intsN (aheadL es k)
theorem aheadRow_succ (es : List EdgeL) (n : Nat) (h : n < es.length) : aheadRow es (n + 1) = aheadRow es n ++ [intsN (madeL es (needsL es[n]))] := by
 unfold aheadRow
 rw [List.range_succ, List.map_append, List.map_cons, List.map_nil]
 congr 3
 unfold aheadL
 rw [List.getElem?_eq_getElem h]
theorem aheadL_len (es : List EdgeL) (h : ∀ e ∈ es, (needsL e).length ≤ 1000) (n : Nat) : (aheadL es n).length ≤ 1000 := by
 unfold aheadL
 cases he : es[n]? with
 | none => simp
 | some e => exact Nat.le_trans (madeL_len _ _) (h e (List.mem_of_getElem? he))
def Built (es : List EdgeL) (defs : List Txt) (w : World) (e : Ending) (w' : World) : Prop := Below w.heap.size w w' ∧
 ((e = .returned (.tuple #[.pointer none, .int .i64 11]) ∧ ¬ Once es) ∨ (e = .returned (.tuple #[.pointer none, .int .i64 12]) ∧ ¬ Ranked es) ∨ ∃ p, e = .returned (.tuple #[ptr p, .int .i64 0]) ∧ Once es ∧ Ranked es ∧ GraphAt w' p es defs)
end Go.Proofs.YtnegfigaiomehaaGreatDoor.Tp
end
