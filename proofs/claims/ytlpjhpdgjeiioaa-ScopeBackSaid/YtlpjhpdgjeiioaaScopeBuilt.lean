/- bellowslaw10.built walked: three scopes out of a row of sets. (UNDER WAY) -/
import Derived.Test.YtlpjhpdgjeiioaaScopeRefN
import Derived.Test.YtlpjhpdgjeiioaaRegG
set_option linter.unusedSimpArgs false
set_option linter.unusedVariables false
namespace Go.Proofs.Ytlpjhpdgjeiioaa.Sc
open Go.RowKit Go.Lib Go.Shelf Go.Maps Go.Proofs.YtlpjhpdgjeiioaaW.PrintWords Go.Proofs.Ytlpjhpdgjeiioaa.U Go.Proofs.Ytlpjhpdgjeiioaa.Idx Go.Proofs.Ytlpjhpdgjeiioaa.Bld

set_option maxRecDepth 100000 in
set_option maxHeartbeats 8000000 in
theorem built_any (l : List SetT) (hl : l.length ≤ 30) (hs : ∀ s ∈ l, s.name.length ≤ 300 ∧ s.text.length ≤ 5000) (a : Option Addr) (cap : Nat) (w : World) (hA : SetsAt w a l) :
    Calls Try.prog 10 #[.slice a l.length cap] w fun e w' => ∃ V, e = .returned (.tuple #[.pointer (some ⟨w.heap.size + 5, 0, none⟩), .slice (some ⟨w.heap.size + 7, 0, none⟩) 3 3, .bool true]) ∧
      Tri w.heap.size l.length (builtS l) w' ∧ Six w.heap.size (builtS l) V w' ∧ Below w.heap.size w w' := by
  obtain ⟨n, hn⟩ : ∃ n, l.length = n := ⟨_, rfl⟩
  rw [hn] at hl ⊢
  have hN := Lib.hid (fun (q : Option Addr) W => New_any q W)
  have hAH := Lib.hid hA
  clear hA
  go_enter Try.func10, Try.ntmps10
  go_wp2_with fail
  refine (hN.out _ _).mono ?_
  rintro e w1 ⟨rfl, rfl⟩
  go_wp2_with fail
  refine (hN.out _ _).mono ?_
  rintro e w1 ⟨rfl, rfl⟩
  go_wp2_with fail
  refine (hN.out _ _).mono ?_
  rintro e w1 ⟨rfl, rfl⟩
  have hmk : ∀ W : World, (Instr.makeSlice 25 (.int .i64 3) (.int .i64 3)).run Try.prog W = .ok (.slice (some ⟨W.heap.size, 0, none⟩) 3 3) (W.alloc (.cells #[.slice none 0 0, .slice none 0 0, .slice none 0 0, .slice none 0 0, .slice none 0 0, .slice none 0 0] 50)) := by
    intro W; kernel_rfl
  go_wp2_with fail
  show Code.wp _ _ _ _ (initW w)
  obtain ⟨hz0, hB0, hT0, hX0, hA0⟩ := init_facts w
  generalize initW w = W0 at *
  simp only [Nat.add_assoc, Nat.reduceAdd]
  obtain ⟨S, hS⟩ : ∃ S, w.heap.size = S := ⟨_, rfl⟩
  rw [hS] at hz0 hB0 hT0 hX0 hA0 ⊢
  have hSz : ∀ (s : SetT), s ∈ l → s.name.length ≤ 300 ∧ s.text.length ≤ 5000 := hs
  have hL0 := Lib.hid hSz
  clear hmk hN hs hSz
  have HB0 := Lib.hid hB0
  have HT0 := Lib.hid hT0
  have HX0 := Lib.hid hX0
  have HA0 := Lib.hid hA0
  clear hB0 hT0 hX0 hA0
  go_loopg [9] n (fun gk s9 wr => ∃ (i : Nat) (V : Nat → Value), s9 = .int .i64 (i : Int) ∧ i + gk = n ∧ Hid (Tri S i (builtS (l.take i)) wr) ∧ Hid (Six S (builtS (l.take i)) V wr) ∧ Hid (Below S w wr) ∧
    Hid (wr.heap[S + 6]? = some (.cells #[.pointer (some ⟨S + 5, 0, none⟩), .pointer (some ⟨S + 3, 0, none⟩), .pointer (some ⟨S + 1, 0, none⟩)] 24 (0, 0))))
  case atStart => exact ⟨0, _, rfl, Nat.zero_add _, HT0, HX0, HB0, HA0⟩
  case round =>
    obtain ⟨i, V, rfl, hik, hT, hX, hB, hAl⟩ := hrel
    cases gk with
    | zero =>
      obtain rfl : i = n := by omega
      have hlt : decide ((i : Int) < (i : Int)) = false := by simp
      have c0 := cell_of_heap hAl.out 0
      have c0' : wr.cell? ⟨S + 6, 0, none⟩ = some (.pointer (some ⟨S + 5, 0, none⟩)) := by rw [c0]; rfl
      clear c0
      go_wp2_with fail
      go_ret3
      have e : l.take i = l := List.take_of_length_le (by omega)
      have hT' := hT.out
      have hX' := hX.out
      rw [e] at hT' hX'
      rw [hS]
      exact ⟨V, rfl, hT', hX', hB.out⟩
    | succ gk =>
      have hin : i < l.length := by omega
      obtain ⟨s, hs⟩ : ∃ s, l[i] = s := ⟨_, rfl⟩
      obtain ⟨x, rfl, hxb, d0, d1, d2, hv0, hv1⟩ := hAH.out i hin
      rw [hs] at d0 d1 d2 hv0 hv1
      obtain ⟨hsn, hst⟩ := hL0.out s (by rw [← hs]; exact List.getElem_mem hin)
      have htk : l.take (i + 1) = l.take i ++ [s] := by rw [List.take_succ_eq_append_getElem hin, hs]
      have hbS : builtS (l.take (i + 1)) = (builtS (l.take i)).step s := by rw [htk]; simp [builtS, List.foldl_append]
      have hRL := Lib.hid (fun j => Nat.le_trans (built_len (l.take i) j) (by rw [List.length_take]; omega : (l.take i).length ≤ 30))
      have hBS := Lib.hid hbS
      clear htk hs hbS
      generalize hE1 : builtS (l.take (i + 1)) = st' at *
      have HE1 := Lib.hid hE1
      clear hE1
      generalize builtS (l.take i) = st at *
      have hxw : x.block < w.heap.size := hxb
      have e0 : wr.cell? (x.add (i * 3)) = some (.int .u8 s.lev) := (hB.out.cell (by rw [ChangeShapes.block_add, ← hS]; exact hxw)).trans d0
      have e1 : wr.cell? ⟨(x.add (i * 3)).block, (x.add (i * 3)).off + 1, none⟩ = some (.string (B s.name)) := (hB.out.cell (by show (x.add (i * 3)).block < _; rw [ChangeShapes.block_add, ← hS]; exact hxw)).trans d1
      have e2 : wr.cell? ⟨(x.add (i * 3)).block, (x.add (i * 3)).off + 2, none⟩ = some (.string (B s.text)) := (hB.out.cell (by show (x.add (i * 3)).block < _; rw [ChangeShapes.block_add, ← hS]; exact hxw)).trans d2
      have HX1 : Hid ((x.add (i * 3)).block < w.heap.size) := by show (x.add (i * 3)).block < _; rw [ChangeShapes.block_add]; exact hxw
      have D0 := Lib.hid d0
      have D1 := Lib.hid d1
      have D2 := Lib.hid d2
      clear d0 d1 d2
      have hlt : decide ((i : Int) < (n : Int)) = true := by rw [decide_eq_true_iff]; omega
      obtain ⟨k, hk, hkk⟩ : ∃ k : Nat, k < 3 ∧ Int.tmod s.lev 3 = (k : Int) ∧ k = kOf s := by
        obtain ⟨lv, hlv⟩ : ∃ lv : Nat, s.lev = (lv : Int) := ⟨s.lev.toNat, by omega⟩
        refine ⟨lv % 3, Nat.mod_lt _ (by decide), ?_, by rw [kOf, hlv]; rfl⟩
        rw [hlv]; rfl
      obtain ⟨hkt, hkS⟩ := hkk
      have hKS := Lib.hid hkS
      clear hkS
      obtain ⟨rest, hCh⟩ := hT.out.at k hk
      have hAk : wr.cell? ⟨S + 6, k, none⟩ = some (.pointer (some ⟨bOf S k, 0, none⟩)) := by
        rw [cell_of_heap hAl.out]
        rcases three hk with rfl | rfl | rfl <;> rfl
      have hCH := Lib.hid hCh
      clear hCh
      have hNm := Lib.hid (fun W => Name_any s.name W)
      have hRn := Lib.hid (fun W => refName_any s.name hsn W)
      cases hnm : nameL s.name with
      | false =>
        rw [hnm] at hNm hRn
        have hSet := Lib.hid (fun (W : World) => Set_bad ⟨bOf S k, 0, none⟩ s.name s.text hnm W)
        go_wp2_with fail
        have hk3 : (k : Int) < 3 := by omega
        have hk0 : (0 : Int) ≤ (k : Int) := by omega
        have hk3' : ((k : Int) < 3) = True := eq_true hk3
        go_region_held3 (fun w' => w'.cell? ⟨S + 6, k, none⟩ = some (.pointer (some ⟨bOf S k, 0, none⟩)) ∧ w'.cell? ⟨(x.add (i * 3)).block, (x.add (i * 3)).off + 1, none⟩ = some (.string (B s.name)) ∧ w'.cell? ⟨(x.add (i * 3)).block, (x.add (i * 3)).off + 2, none⟩ = some (.string (B s.text))) (go_keep)
          (first | (go_at_call 15; refine (hSet.out _).mono ?_; rintro e w5 ⟨rfl, hb5⟩; have f0 := (hb5.cell (p := ⟨S + 6, k, none⟩) (Array.getElem?_eq_some_iff.1 hAl.out).1).trans hAk; have f1 := (hb5.cell (lt_of_cell e1)).trans e1; have f2 := (hb5.cell (lt_of_cell e2)).trans e2))
        have hA5 : Hid (All S (i + 1) st st V w w5) :=
          All.below (⟨hT.out.drew.more, hX.out.drew, hAl.out, hS ▸ hB.out.drew⟩ : All S (i + 1) st st V w wr.drew) hb5
        have hPut : Hid (st' = st) := by show _ = _; rw [hBS.out, St.step, if_neg (by rw [hnm]; decide)]
        clear hb5 f0 f2 hT hX hAl hCH hSet hB e0 e1 e2 hAk
        go_wp2_with fail
        refine (hRn.out _).mono ?_
        rintro e w6 ⟨rfl, hb6⟩
        have hA6 := Lib.hid (hA5.out.below hb6)
        have hx6 := hA6.out.bel
        have j1 := ((hS ▸ hx6 : Below w.heap.size w w6).cell (p := ⟨(x.add (i * 3)).block, (x.add (i * 3)).off + 1, none⟩) HX1.out).trans D1.out
        clear hb6 hA5 f1 hx6
        go_wp2_with fail
        refine (hNm.out _).mono ?_
        rintro e w7 ⟨rfl, hb7⟩
        have hA7 := Lib.hid (hA6.out.below hb7)
        clear hb7 hA6
        go_wp2_with fail
        go_roundg gk
        case measure => omega
        case rel => exact ⟨i + 1, V, rfl, by omega, by rw [HE1.out, hPut.out]; exact hA7.out.tri, by rw [HE1.out, hPut.out]; exact hA7.out.six, hA7.out.bel, hA7.out.al⟩
      | true =>
        rw [hnm] at hNm hRn
        have hSet := Lib.hid (fun (W : World) (hC : Chain W (levOf S i st k :: rest) (.pointer (some ⟨bOf S k, 0, none⟩))) => Set_ok (levOf S i st k) rest _ s.name s.text hnm (by unfold maxLen; omega) (by unfold maxLen; omega) (by show i < 1000000; omega) W hC)
        go_wp2_with fail
        have hk3 : (k : Int) < 3 := by omega
        have hk0 : (0 : Int) ≤ (k : Int) := by omega
        have hk3' : ((k : Int) < 3) = True := eq_true hk3
        have hmo : mOf S k ≤ S + 5 := by unfold mOf; omega
        have hmo2 : S ≤ mOf S k := by unfold mOf; omega
        go_region_held3 (fun w' => w'.cell? ⟨S + 6, k, none⟩ = some (.pointer (some ⟨bOf S k, 0, none⟩)) ∧ w'.cell? ⟨(x.add (i * 3)).block, (x.add (i * 3)).off + 1, none⟩ = some (.string (B s.name)) ∧ w'.cell? ⟨(x.add (i * 3)).block, (x.add (i * 3)).off + 2, none⟩ = some (.string (B s.text))) (go_keep)
          (first | (go_at_call 15; refine (hSet.out _ (hCH.out.same (by intro s hs; exact ⟨rfl, rfl⟩))).mono ?_; rintro e w5 ⟨rfl, hst5⟩; have hB5 : Below w.heap.size w w5 := hst5.below (hS ▸ hB.out.drew) (by rw [hS]; exact hmo2); have f0 : w5.cell? ⟨S + 6, k, none⟩ = some (.pointer (some ⟨bOf S k, 0, none⟩)) := (World.cell?_of_block (stored_block hst5 (S + 6) (Array.getElem?_eq_some_iff.1 hAl.out).1 (by show S + 6 ≠ mOf S k; omega))).trans hAk; have f1 := (hB5.cell (p := ⟨(x.add (i * 3)).block, (x.add (i * 3)).off + 1, none⟩) HX1.out).trans D1.out; have f2 := (hB5.cell (p := ⟨(x.add (i * 3)).block, (x.add (i * 3)).off + 2, none⟩) HX1.out).trans D2.out))
        have hA5 : Hid (All S (i + 1) (st.put k s.name s.text) st V w w5) :=
          ⟨hT.out.drew.stored k hk s.name s.text hst5, hX.out.drew.stored hst5 hmo,
            (stored_block hst5 (S + 6) (Array.getElem?_eq_some_iff.1 hAl.out).1 (by show S + 6 ≠ mOf S k; omega)).trans hAl.out, hS ▸ hB5⟩
        have hPut : Hid (st' = st.put k s.name s.text) := by show _ = _; rw [hBS.out, St.step, if_pos hnm, hKS.out]
        clear hst5 hB5 f0 f2 hT hX hAl hCH hSet hB e0 e1 e2 hAk
        go_wp2_with fail
        refine (hRn.out _).mono ?_
        rintro e w6 ⟨rfl, hb6⟩
        have hA6 := Lib.hid (hA5.out.below hb6)
        have hx6 := hA6.out.bel
        have j1 := ((hS ▸ hx6 : Below w.heap.size w w6).cell (p := ⟨(x.add (i * 3)).block, (x.add (i * 3)).off + 1, none⟩) HX1.out).trans D1.out
        clear hb6 hA5 f1 hx6
        go_wp2_with fail
        refine (hNm.out _).mono ?_
        rintro e w7 ⟨rfl, hb7⟩
        have hA7 := Lib.hid (hA6.out.below hb7)
        have hx7 := hA7.out.bel
        have j1 := ((hS ▸ hx7 : Below w.heap.size w w7).cell (p := ⟨(x.add (i * 3)).block, (x.add (i * 3)).off + 1, none⟩) HX1.out).trans D1.out
        have j2 := ((hS ▸ hx7 : Below w.heap.size w w7).cell (p := ⟨(x.add (i * 3)).block, (x.add (i * 3)).off + 2, none⟩) HX1.out).trans D2.out
        clear hb7 hA6 hx7
        go_wp2_with fail
        have hP7 : Pre S (i + 1) (st.put k s.name s.text) (rowOf st) V V w w7 := ⟨hA7.out.tri, hA7.out.al, hA7.out.bel, hA7.out.six.blk, hA7.out.six.own, hA7.out.six.apart⟩
        have HP := Lib.hid hP7
        have hlA : (rowOf st (2 * k)).length ≤ 100 := Nat.le_trans (hRL.out (2 * k)) (by decide)
        have hlB : (rowOf st (2 * k + 1)).length ≤ 100 := Nat.le_trans (hRL.out (2 * k + 1)) (by decide)
        have h2k : (2 * k) < 6 := by omega
        have h2k1 : (2 * k + 1) < 6 := by omega
        have e2k : k * 2 = 2 * k := by omega
        have hne : ¬ (x.add (i * 3)).block = S + 7 := by have := HX1.out; omega
        have hne' : ¬ S + 7 = (x.add (i * 3)).block := fun e => hne e.symm
        have hd1 : ¬ 2 * k = 2 * k + 1 := by omega
        have c2 : w7.cell? ⟨S + 7, 2 * k, none⟩ = some (V (2 * k)) := (hP7.cell _ h2k).1
        have z2 : w7.frozen? ⟨S + 7, 2 * k, none⟩ = false := (hP7.cell _ h2k).2
        have c3 : w7.cell? ⟨S + 7, 2 * k + 1, none⟩ = some (V (2 * k + 1)) := (hP7.cell _ h2k1).1
        have z3 : w7.frozen? ⟨S + 7, 2 * k + 1, none⟩ = false := (hP7.cell _ h2k1).2
        have hlt7 : S + 7 < w7.heap.size := (Array.getElem?_eq_some_iff.1 hP7.blk).1
        have n1 : ¬ S + 7 = w7.heap.size := by omega
        have n2 : ¬ S + 7 = w7.heap.size + 1 := by omega
        have hOA : Hid (∀ p, w7.heap.size ≤ p → some p ≠ (V (2 * k)).ownBlock) := fun p hp e => by have := ((hP7.own _ h2k).lt _ e.symm).2; omega
        clear hP7
        --REGION14
        refine RegG.regionG (fun w' => w'.cell? ⟨S + 7, 2 * k, none⟩ = some (V (2 * k)) ∧ w'.cell? ⟨S + 7, 2 * k + 1, none⟩ = some (V (2 * k + 1)) ∧ w'.cell? ⟨(x.add (i * 3)).block, (x.add (i * 3)).off + 1, none⟩ = some (.string (B s.name)) ∧ w'.cell? ⟨(x.add (i * 3)).block, (x.add (i * 3)).off + 2, none⟩ = some (.string (B s.text))) 30 (by kernel_rfl) ?_ (fun hHeld => ?_)
        · (try dsimp only); go_keep
        simp only [List.size_toArray, List.length_cons, List.length_nil, Nat.reduceAdd, Array.replicate, List.replicate]
        refine RegG.takeP (i := 0) (oi := ?oi_1) (v := ?v_1) ?hi_1 (by rfl) (by kernel_rfl) (by kernel_rfl) (by kernel_rfl) ?hQ_1 ?hy_1 ?hv_1 (fun _ => hHeld) ?h_1
        case hi_1 => (simp only [List.getElem?_toArray, List.getElem?_cons_succ, List.getElem?_cons_zero]); rfl
        case hQ_1 => exact fun _ _ _ h => h
        case hy_1 => rfl
        case hv_1 => (intro w; go_simp; try with_reducible rfl)
        simp only [Act.put, List.setIfInBounds_toArray, List.set_cons_zero, List.set_cons_succ]
        refine RegG.takeP (i := 1) (oi := ?oi_2) (v := ?v_2) ?hi_2 (by rfl) (by kernel_rfl) (by kernel_rfl) (by kernel_rfl) ?hQ_2 ?hy_2 ?hv_2 (fun _ => hHeld) ?h_2
        case hi_2 => (simp only [List.getElem?_toArray, List.getElem?_cons_succ, List.getElem?_cons_zero]); rfl
        case hQ_2 => exact fun _ _ _ h => h
        case hy_2 => rfl
        case hv_2 => (intro w; go_simp; try with_reducible rfl)
        simp only [Act.put, List.setIfInBounds_toArray, List.set_cons_zero, List.set_cons_succ]
        refine RegG.takeP (i := 2) (oi := ?oi_3) (v := ?v_3) ?hi_3 (by rfl) (by kernel_rfl) (by kernel_rfl) (by kernel_rfl) ?hQ_3 ?hy_3 ?hv_3 (fun _ => hHeld) ?h_3
        case hi_3 => (simp only [List.getElem?_toArray, List.getElem?_cons_succ, List.getElem?_cons_zero]); rfl
        case hQ_3 => exact fun _ _ _ h => h
        case hy_3 => rfl
        case hv_3 => (intro w; go_simp; try with_reducible rfl)
        simp only [Act.put, List.setIfInBounds_toArray, List.set_cons_zero, List.set_cons_succ]
        refine RegG.takeP (i := 3) (oi := ?oi_4) (v := ?v_4) ?hi_4 (by rfl) (by kernel_rfl) (by kernel_rfl) (by kernel_rfl) ?hQ_4 ?hy_4 ?hv_4 (fun _ => hHeld) ?h_4
        case hi_4 => (simp only [List.getElem?_toArray, List.getElem?_cons_succ, List.getElem?_cons_zero]); rfl
        case hQ_4 => exact fun _ _ _ h => h
        case hy_4 => rfl
        case hv_4 => (intro w; go_simp; try with_reducible rfl)
        simp only [Act.put, List.setIfInBounds_toArray, List.set_cons_zero, List.set_cons_succ]
        refine RegG.takeP (i := 4) (oi := ?oi_5) (v := ?v_5) ?hi_5 (by rfl) (by kernel_rfl) (by kernel_rfl) (by kernel_rfl) ?hQ_5 ?hy_5 ?hv_5 (fun _ => hHeld) ?h_5
        case hi_5 => (simp only [List.getElem?_toArray, List.getElem?_cons_succ, List.getElem?_cons_zero]); rfl
        case hQ_5 => exact fun _ _ _ h => h
        case hy_5 => rfl
        case hv_5 => (intro w; go_simp; try with_reducible rfl)
        simp only [Act.put, List.setIfInBounds_toArray, List.set_cons_zero, List.set_cons_succ]
        refine RegG.takeP (i := 5) (oi := ?oi_6) (v := ?v_6) ?hi_6 (by rfl) (by kernel_rfl) (by kernel_rfl) (by kernel_rfl) ?hQ_6 ?hy_6 ?hv_6 (fun _ => hHeld) ?h_6
        case hi_6 => (simp only [List.getElem?_toArray, List.getElem?_cons_succ, List.getElem?_cons_zero]); rfl
        case hQ_6 => exact fun _ _ _ h => h
        case hy_6 => rfl
        case hv_6 => (intro w; go_simp; try with_reducible rfl)
        simp only [Act.put, List.setIfInBounds_toArray, List.set_cons_zero, List.set_cons_succ]
        refine RegG.takeP (i := 6) (oi := ?oi_7) (v := ?v_7) ?hi_7 (by rfl) (by kernel_rfl) (by kernel_rfl) (by kernel_rfl) ?hQ_7 ?hy_7 ?hv_7 (fun _ => hHeld) ?h_7
        case hi_7 => (simp only [List.getElem?_toArray, List.getElem?_cons_succ, List.getElem?_cons_zero]); rfl
        case hQ_7 => exact fun _ _ _ h => h
        case hy_7 => rfl
        case hv_7 => (intro w; go_simp; try with_reducible rfl)
        simp only [Act.put, List.setIfInBounds_toArray, List.set_cons_zero, List.set_cons_succ]
        refine RegG.takeP (i := 7) (oi := ?oi_8) (v := ?v_8) ?hi_8 (by rfl) (by kernel_rfl) (by kernel_rfl) (by kernel_rfl) ?hQ_8 ?hy_8 ?hv_8 (fun _ => hHeld) ?h_8
        case hi_8 => (simp only [List.getElem?_toArray, List.getElem?_cons_succ, List.getElem?_cons_zero]); rfl
        case hQ_8 => exact fun _ _ _ h => h
        case hy_8 => rfl
        case hv_8 => (intro w; go_simp; try with_reducible rfl)
        simp only [Act.put, List.setIfInBounds_toArray, List.set_cons_zero, List.set_cons_succ]
        refine RegG.takeS (i := 8) (oi := ?oi_9) (v := ?v_9) ?hi_9 (by rfl) (by kernel_rfl) (by kernel_rfl) (by kernel_rfl) (by kernel_rfl) (by kernel_rfl) ?hQ_9 ?hy_9 ?hv_9 hHeld ?h_9
        case hi_9 => (simp only [List.getElem?_toArray, List.getElem?_cons_succ, List.getElem?_cons_zero]); rfl
        case hQ_9 => exact fun _ _ _ h => h
        case hy_9 => rfl
        case hv_9 => (intro w hSw; (try dsimp only at hSw); go_split_ands; go_simp; try with_reducible rfl)
        simp only [Act.put, List.setIfInBounds_toArray, List.set_cons_zero, List.set_cons_succ]
        refine RegG.takeP (i := 9) (oi := ?oi_10) (v := ?v_10) ?hi_10 (by rfl) (by kernel_rfl) (by kernel_rfl) (by kernel_rfl) ?hQ_10 ?hy_10 ?hv_10 (fun _ => hHeld) ?h_10
        case hi_10 => (simp only [List.getElem?_toArray, List.getElem?_cons_succ, List.getElem?_cons_zero]); rfl
        case hQ_10 => exact fun _ _ _ h => h
        case hy_10 => rfl
        case hv_10 => (intro w; go_simp; try with_reducible rfl)
        simp only [Act.put, List.setIfInBounds_toArray, List.set_cons_zero, List.set_cons_succ]
        refine RegG.takeP (i := 10) (oi := ?oi_11) (v := ?v_11) ?hi_11 (by rfl) (by kernel_rfl) (by kernel_rfl) (by kernel_rfl) ?hQ_11 ?hy_11 ?hv_11 (fun _ => hHeld) ?h_11
        case hi_11 => (simp only [List.getElem?_toArray, List.getElem?_cons_succ, List.getElem?_cons_zero]); rfl
        case hQ_11 => exact fun _ _ _ h => h
        case hy_11 => rfl
        case hv_11 => (intro w; go_simp; try with_reducible rfl)
        simp only [Act.put, List.setIfInBounds_toArray, List.set_cons_zero, List.set_cons_succ]
        refine RegG.takeP (i := 11) (oi := ?oi_12) (v := ?v_12) ?hi_12 (by rfl) (by kernel_rfl) (by kernel_rfl) (by kernel_rfl) ?hQ_12 ?hy_12 ?hv_12 (fun _ => hHeld) ?h_12
        case hi_12 => (simp only [List.getElem?_toArray, List.getElem?_cons_succ, List.getElem?_cons_zero]); rfl
        case hQ_12 => exact fun _ _ _ h => h
        case hy_12 => rfl
        case hv_12 => (intro w; go_simp; try with_reducible rfl)
        simp only [Act.put, List.setIfInBounds_toArray, List.set_cons_zero, List.set_cons_succ]
        refine RegG.takeP (i := 12) (oi := ?oi_13) (v := ?v_13) ?hi_13 (by rfl) (by kernel_rfl) (by kernel_rfl) (by kernel_rfl) ?hQ_13 ?hy_13 ?hv_13 (fun _ => hHeld) ?h_13
        case hi_13 => (simp only [List.getElem?_toArray, List.getElem?_cons_succ, List.getElem?_cons_zero]); rfl
        case hQ_13 => exact fun _ _ _ h => h
        case hy_13 => rfl
        case hv_13 => (intro w; go_simp; try with_reducible rfl)
        simp only [Act.put, List.setIfInBounds_toArray, List.set_cons_zero, List.set_cons_succ]
        refine RegG.takeS (i := 13) (oi := ?oi_14) (v := ?v_14) ?hi_14 (by rfl) (by kernel_rfl) (by kernel_rfl) (by kernel_rfl) (by kernel_rfl) (by kernel_rfl) ?hQ_14 ?hy_14 ?hv_14 hHeld ?h_14
        case hi_14 => (simp only [List.getElem?_toArray, List.getElem?_cons_succ, List.getElem?_cons_zero]); rfl
        case hQ_14 => exact fun _ _ _ h => h
        case hy_14 => rfl
        case hv_14 => (intro w hSw; (try dsimp only at hSw); go_split_ands; go_simp; try with_reducible rfl)
        simp only [Act.put, List.setIfInBounds_toArray, List.set_cons_zero, List.set_cons_succ]
        refine RegG.takeP (i := 16) (oi := ?oi_15) (v := ?v_15) ?hi_15 (by rfl) (by kernel_rfl) (by kernel_rfl) (by kernel_rfl) ?hQ_15 ?hy_15 ?hv_15 (fun _ => hHeld) ?h_15
        case hi_15 => (simp only [List.getElem?_toArray, List.getElem?_cons_succ, List.getElem?_cons_zero]); rfl
        case hQ_15 => exact fun _ _ _ h => h
        case hy_15 => rfl
        case hv_15 => (intro w; go_simp; try with_reducible rfl)
        simp only [Act.put, List.setIfInBounds_toArray, List.set_cons_zero, List.set_cons_succ]
        refine RegG.takeP (i := 17) (oi := ?oi_16) (v := ?v_16) ?hi_16 (by rfl) (by kernel_rfl) (by kernel_rfl) (by kernel_rfl) ?hQ_16 ?hy_16 ?hv_16 (fun _ => hHeld) ?h_16
        case hi_16 => (simp only [List.getElem?_toArray, List.getElem?_cons_succ, List.getElem?_cons_zero]); rfl
        case hQ_16 => exact fun _ _ _ h => h
        case hy_16 => rfl
        case hv_16 => (intro w; go_simp; try with_reducible rfl)
        simp only [Act.put, List.setIfInBounds_toArray, List.set_cons_zero, List.set_cons_succ]
        refine RegG.takeP (i := 18) (oi := ?oi_17) (v := ?v_17) ?hi_17 (by rfl) (by kernel_rfl) (by kernel_rfl) (by kernel_rfl) ?hQ_17 ?hy_17 ?hv_17 (fun _ => hHeld) ?h_17
        case hi_17 => (simp only [List.getElem?_toArray, List.getElem?_cons_succ, List.getElem?_cons_zero]); rfl
        case hQ_17 => exact fun _ _ _ h => h
        case hy_17 => rfl
        case hv_17 => (intro w; go_simp; try with_reducible rfl)
        simp only [Act.put, List.setIfInBounds_toArray, List.set_cons_zero, List.set_cons_succ]
        refine RegG.takeP (i := 19) (oi := ?oi_18) (v := ?v_18) ?hi_18 (by rfl) (by kernel_rfl) (by kernel_rfl) (by kernel_rfl) ?hQ_18 ?hy_18 ?hv_18 (fun _ => hHeld) ?h_18
        case hi_18 => (simp only [List.getElem?_toArray, List.getElem?_cons_succ, List.getElem?_cons_zero]); rfl
        case hQ_18 => exact fun _ _ _ h => h
        case hy_18 => rfl
        case hv_18 => (intro w; go_simp; try with_reducible rfl)
        simp only [Act.put, List.setIfInBounds_toArray, List.set_cons_zero, List.set_cons_succ]
        refine RegG.takeS (i := 20) (oi := ?oi_19) (v := ?v_19) ?hi_19 (by rfl) (by kernel_rfl) (by kernel_rfl) (by kernel_rfl) (by kernel_rfl) (by kernel_rfl) ?hQ_19 ?hy_19 ?hv_19 hHeld ?h_19
        case hi_19 => (simp only [List.getElem?_toArray, List.getElem?_cons_succ, List.getElem?_cons_zero]); rfl
        case hQ_19 => exact fun _ _ _ h => h
        case hy_19 => rfl
        case hv_19 => (intro w hSw; (try dsimp only at hSw); go_split_ands; go_simp; try with_reducible rfl)
        simp only [Act.put, List.setIfInBounds_toArray, List.set_cons_zero, List.set_cons_succ]
        refine RegG.takeP (i := 21) (oi := ?oi_20) (v := ?v_20) ?hi_20 (by rfl) (by kernel_rfl) (by kernel_rfl) (by kernel_rfl) ?hQ_20 ?hy_20 ?hv_20 (fun _ => hHeld) ?h_20
        case hi_20 => (simp only [List.getElem?_toArray, List.getElem?_cons_succ, List.getElem?_cons_zero]); rfl
        case hQ_20 => exact fun _ _ _ h => h
        case hy_20 => rfl
        case hv_20 => (intro w; go_simp; try with_reducible rfl)
        simp only [Act.put, List.setIfInBounds_toArray, List.set_cons_zero, List.set_cons_succ]
        refine RegG.takeP (i := 22) (oi := ?oi_21) (v := ?v_21) ?hi_21 (by rfl) (by kernel_rfl) (by kernel_rfl) (by kernel_rfl) ?hQ_21 ?hy_21 ?hv_21 (fun _ => hHeld) ?h_21
        case hi_21 => (simp only [List.getElem?_toArray, List.getElem?_cons_succ, List.getElem?_cons_zero]); rfl
        case hQ_21 => exact fun _ _ _ h => h
        case hy_21 => rfl
        case hv_21 => (intro w; go_simp; try with_reducible rfl)
        simp only [Act.put, List.setIfInBounds_toArray, List.set_cons_zero, List.set_cons_succ]
        refine RegG.takeP (i := 23) (oi := ?oi_22) (v := ?v_22) ?hi_22 (by rfl) (by kernel_rfl) (by kernel_rfl) (by kernel_rfl) ?hQ_22 ?hy_22 ?hv_22 (fun _ => hHeld) ?h_22
        case hi_22 => (simp only [List.getElem?_toArray, List.getElem?_cons_succ, List.getElem?_cons_zero]); rfl
        case hQ_22 => exact fun _ _ _ h => h
        case hy_22 => rfl
        case hv_22 => (intro w; go_simp; try with_reducible rfl)
        simp only [Act.put, List.setIfInBounds_toArray, List.set_cons_zero, List.set_cons_succ]
        refine RegG.takeP (i := 24) (oi := ?oi_23) (v := ?v_23) ?hi_23 (by rfl) (by kernel_rfl) (by kernel_rfl) (by kernel_rfl) ?hQ_23 ?hy_23 ?hv_23 (fun _ => hHeld) ?h_23
        case hi_23 => (simp only [List.getElem?_toArray, List.getElem?_cons_succ, List.getElem?_cons_zero]); rfl
        case hQ_23 => exact fun _ _ _ h => h
        case hy_23 => rfl
        case hv_23 => (intro w; go_simp; try with_reducible rfl)
        simp only [Act.put, List.setIfInBounds_toArray, List.set_cons_zero, List.set_cons_succ]
        refine RegG.takeS (i := 25) (oi := ?oi_24) (v := ?v_24) ?hi_24 (by rfl) (by kernel_rfl) (by kernel_rfl) (by kernel_rfl) (by kernel_rfl) (by kernel_rfl) ?hQ_24 ?hy_24 ?hv_24 hHeld ?h_24
        case hi_24 => (simp only [List.getElem?_toArray, List.getElem?_cons_succ, List.getElem?_cons_zero]); rfl
        case hQ_24 => exact fun _ _ _ h => h
        case hy_24 => rfl
        case hv_24 => (intro w hSw; (try dsimp only at hSw); go_split_ands; go_simp; try with_reducible rfl)
        simp only [Act.put, List.setIfInBounds_toArray, List.set_cons_zero, List.set_cons_succ]
        refine RegG.readyG (rs := [14, 26]) (by kernel_rfl) (by simp) ?_
        refine RegG.AllG.cons (o := ?o_25) ?ho_25 (fun K hK => ?step_25) ?more_25 
        case ho_25 => (simp only [List.getElem?_toArray, List.getElem?_cons_succ, List.getElem?_cons_zero]); rfl
        case step_25 =>
          go_simp
          refine hK.out _ _ ?_ (fun hHeld => ?_)
          · (try dsimp only); go_keep
          clear hK K
          simp only [Act.put, List.setIfInBounds_toArray, List.set_cons_zero, List.set_cons_succ]
          refine RegG.readyG (rs := [15, 26]) (by kernel_rfl) (by simp) ?_
          refine RegG.AllG.cons (o := ?o_26) ?ho_26 (fun K hK => ?step_26) ?more_26 
          case ho_26 => (simp only [List.getElem?_toArray, List.getElem?_cons_succ, List.getElem?_cons_zero]); rfl
          case step_26 =>
            refine step_app rfl (.tmp 87) (.tmp 93) rfl (2 * k) h2k s.name (V (2 * k)) (rowOf st (2 * k)).length _ hlA (by rfl) (by rfl) (by ((with_reducible repeat (first | apply Pre.alloc | apply Pre.drew)); exact HP.out)) rfl rfl (by (first | exact cell_new1 _ _ _ _ (by simp) | exact cell_old1 (cell_new1 _ _ _ _ (by simp)))) ?_
            intro gA capA w8 HPA0 hfarA
            have HPA := Lib.hid HPA0
            have y1 := ((hS ▸ HPA0.bel : Below w.heap.size w w8).cell (p := ⟨(x.add (i * 3)).block, (x.add (i * 3)).off + 1, none⟩) HX1.out).trans D1.out
            have y2 := ((hS ▸ HPA0.bel : Below w.heap.size w w8).cell (p := ⟨(x.add (i * 3)).block, (x.add (i * 3)).off + 2, none⟩) HX1.out).trans D2.out
            have y3 : w8.cell? ⟨S + 7, 2 * k + 1, none⟩ = some (V (2 * k + 1)) := (HPA0.cell _ h2k1).1
            have y6 : w8.cell? ⟨S + 7, 2 * k, none⟩ = some (V (2 * k)) := (HPA0.cell _ h2k).1
            clear HPA0 hfarA
            refine hK.out _ _ ?_ (fun hHeld => ?_)
            · (try dsimp only); go_keep
            clear hK K
            simp only [Act.put, List.setIfInBounds_toArray, List.set_cons_zero, List.set_cons_succ]
            refine RegG.readyG (rs := [26]) (by kernel_rfl) (by simp) ?_
            refine RegG.AllG.cons (o := ?o_27) ?ho_27 (fun K hK => ?step_27) ?more_27 
            case ho_27 => (simp only [List.getElem?_toArray, List.getElem?_cons_succ, List.getElem?_cons_zero]); rfl
            case step_27 =>
              go_simp
              refine hK.out _ _ ?_ (fun hHeld => ?_)
              · (try dsimp only); go_keep
              clear hK K
              simp only [Act.put, List.setIfInBounds_toArray, List.set_cons_zero, List.set_cons_succ]
              refine RegG.readyG (rs := [27]) (by kernel_rfl) (by simp) ?_
              refine RegG.AllG.cons (o := ?o_28) ?ho_28 (fun K hK => ?step_28) ?more_28 
              case ho_28 => (simp only [List.getElem?_toArray, List.getElem?_cons_succ, List.getElem?_cons_zero]); rfl
              case step_28 =>
                refine step_app rfl (.tmp 99) (.tmp 105) rfl (2 * k + 1) h2k1 s.text (V (2 * k + 1)) (rowOf st (2 * k + 1)).length _ hlB (by rfl) (by rfl) (by ((with_reducible repeat (first | apply Pre.alloc | apply Pre.drew)); exact HPA.out)) (by simp [updV]) (by simp [updR]) (by (first | assumption | exact cell_old1 (by assumption) | exact cell_new1 _ _ _ _ (by simp) | exact cell_old1 (cell_new1 _ _ _ _ (by simp)))) ?_
                intro gB capB w9 HPB0 hfarB
                have HPB := Lib.hid HPB0
                have v1 := ((hS ▸ HPB0.bel : Below w.heap.size w w9).cell (p := ⟨(x.add (i * 3)).block, (x.add (i * 3)).off + 1, none⟩) HX1.out).trans D1.out
                have v2 := ((hS ▸ HPB0.bel : Below w.heap.size w w9).cell (p := ⟨(x.add (i * 3)).block, (x.add (i * 3)).off + 2, none⟩) HX1.out).trans D2.out
                have v3 : w9.cell? ⟨S + 7, 2 * k, none⟩ = some (V (2 * k)) := (HPB0.cell _ h2k).1
                have v4 : w9.cell? ⟨S + 7, 2 * k + 1, none⟩ = some (V (2 * k + 1)) := (HPB0.cell _ h2k1).1
                have v5 : w9.frozen? ⟨S + 7, 2 * k, none⟩ = false := (HPB0.cell _ h2k).2
                have v6 : w9.frozen? ⟨S + 7, 2 * k + 1, none⟩ = false := (HPB0.cell _ h2k1).2
                clear HPB0 hfarB
                refine hK.out _ _ ?_ (fun hHeld => ?_)
                · (try dsimp only); go_keep
                clear hK K
                simp only [Act.put, List.setIfInBounds_toArray, List.set_cons_zero, List.set_cons_succ]
                refine RegG.takeP (i := 28) (oi := ?oi_29) (v := ?v_29) ?hi_29 (by rfl) (by kernel_rfl) (by kernel_rfl) (by kernel_rfl) ?hQ_29 ?hy_29 ?hv_29 (fun _ => hHeld) ?h_29
                case hi_29 => (simp only [List.getElem?_toArray, List.getElem?_cons_succ, List.getElem?_cons_zero]); rfl
                case hQ_29 => exact fun _ _ _ h => h
                case hy_29 => rfl
                case hv_29 => (intro w; go_simp; try with_reducible rfl)
                simp only [Act.put, List.setIfInBounds_toArray, List.set_cons_zero, List.set_cons_succ]
                refine RegG.takeP (i := 29) (oi := ?oi_30) (v := ?v_30) ?hi_30 (by rfl) (by kernel_rfl) (by kernel_rfl) (by kernel_rfl) ?hQ_30 ?hy_30 ?hv_30 (fun _ => hHeld) ?h_30
                case hi_30 => (simp only [List.getElem?_toArray, List.getElem?_cons_succ, List.getElem?_cons_zero]); rfl
                case hQ_30 => exact fun _ _ _ h => h
                case hy_30 => rfl
                case hv_30 => (intro w; go_simp; try with_reducible rfl)
                simp only [Act.put, List.setIfInBounds_toArray, List.set_cons_zero, List.set_cons_succ]
                refine RegG.readyG (rs := [30]) (by kernel_rfl) (by simp) ?_
                refine RegG.AllG.last (by kernel_rfl) (o := ?o_31) ?ho_31 (fun K hK => ?step_31) ?more_31 
                case ho_31 => (simp only [List.getElem?_toArray, List.getElem?_cons_succ, List.getElem?_cons_zero]); rfl
                case step_31 =>
                  go_simp
                  refine hK.out _ _ ?_
                  clear hK K
                  simp only [Act.put, List.setIfInBounds_toArray, List.set_cons_zero, List.set_cons_succ]
                  refine RegG.takeP (i := 31) (oi := ?oi_32) (v := ?v_32) ?hi_32 (by rfl) (by kernel_rfl) (by kernel_rfl) (by kernel_rfl) ?hQ_32 ?hy_32 ?hv_32 (fun e => absurd e (by decide)) ?h_32
                  case hi_32 => (simp only [List.getElem?_toArray, List.getElem?_cons_succ, List.getElem?_cons_zero]); rfl
                  case hQ_32 => exact fun _ _ _ h => h
                  case hy_32 => rfl
                  case hv_32 => (intro w; go_simp; try with_reducible rfl)
                  simp only [Act.put, List.setIfInBounds_toArray, List.set_cons_zero, List.set_cons_succ]
                  refine RegG.takeP (i := 32) (oi := ?oi_33) (v := ?v_33) ?hi_33 (by rfl) (by kernel_rfl) (by kernel_rfl) (by kernel_rfl) ?hQ_33 ?hy_33 ?hv_33 (fun e => absurd e (by decide)) ?h_33
                  case hi_33 => (simp only [List.getElem?_toArray, List.getElem?_cons_succ, List.getElem?_cons_zero]); rfl
                  case hQ_33 => exact fun _ _ _ h => h
                  case hy_33 => rfl
                  case hv_33 => (intro w; go_simp; try with_reducible rfl)
                  simp only [Act.put, List.setIfInBounds_toArray, List.set_cons_zero, List.set_cons_succ]
                  refine RegG.readyG (rs := [33]) (by kernel_rfl) (by simp) ?_
                  refine RegG.AllG.last (by kernel_rfl) (o := ?o_34) ?ho_34 (fun K hK => ?step_34) ?more_34 
                  case ho_34 => (simp only [List.getElem?_toArray, List.getElem?_cons_succ, List.getElem?_cons_zero]); rfl
                  case step_34 =>
                    go_simp
                    refine hK.out _ _ ?_
                    clear hK K
                    simp only [Act.put, List.setIfInBounds_toArray, List.set_cons_zero, List.set_cons_succ]
                    refine RegG.doneG (by kernel_rfl) ?_ _
                    clear D0 D1 D2
                    try dsimp only
                    go_wp2_with fail
                    have hEnd := built_leaf hk HPB.out rfl
                    obtain ⟨V2, q1, q2, q3, q4⟩ := hEnd
                    go_roundg gk
                    case measure => omega
                    case rel => exact ⟨i + 1, V2, rfl, by omega, by rw [HE1.out, hPut.out]; exact q1, by rw [HE1.out, hPut.out]; exact q2, q3, q4⟩
                  case more_34 =>
                    exact RegG.AllG.nil
                case more_31 =>
                  exact RegG.AllG.nil
              case more_28 =>
                exact RegG.AllG.nil
            case more_27 =>
              exact RegG.AllG.nil
          case more_26 =>
            refine RegG.AllG.cons (o := ?o_35) ?ho_35 (fun K hK => ?step_35) ?more_35 
            case ho_35 => (simp only [List.getElem?_toArray, List.getElem?_cons_succ, List.getElem?_cons_zero]); rfl
            case step_35 =>
              go_simp
              refine hK.out _ _ ?_ (fun hHeld => ?_)
              · (try dsimp only); go_keep
              clear hK K
              simp only [Act.put, List.setIfInBounds_toArray, List.set_cons_zero, List.set_cons_succ]
              refine RegG.readyG (rs := [15]) (by kernel_rfl) (by simp) ?_
              refine RegG.AllG.cons (o := ?o_36) ?ho_36 (fun K hK => ?step_36) ?more_36 
              case ho_36 => (simp only [List.getElem?_toArray, List.getElem?_cons_succ, List.getElem?_cons_zero]); rfl
              case step_36 =>
                refine step_app rfl (.tmp 87) (.tmp 93) rfl (2 * k) h2k s.name (V (2 * k)) (rowOf st (2 * k)).length _ hlA (by rfl) (by rfl) (by ((with_reducible repeat (first | apply Pre.alloc | apply Pre.drew)); exact HP.out)) rfl rfl (by (first | exact cell_new1 _ _ _ _ (by simp) | exact cell_old1 (cell_new1 _ _ _ _ (by simp)))) ?_
                intro gA capA w8 HPA0 hfarA
                have HPA := Lib.hid HPA0
                have y1 := ((hS ▸ HPA0.bel : Below w.heap.size w w8).cell (p := ⟨(x.add (i * 3)).block, (x.add (i * 3)).off + 1, none⟩) HX1.out).trans D1.out
                have y2 := ((hS ▸ HPA0.bel : Below w.heap.size w w8).cell (p := ⟨(x.add (i * 3)).block, (x.add (i * 3)).off + 2, none⟩) HX1.out).trans D2.out
                have y3 : w8.cell? ⟨S + 7, 2 * k + 1, none⟩ = some (V (2 * k + 1)) := (HPA0.cell _ h2k1).1
                have y6 : w8.cell? ⟨S + 7, 2 * k, none⟩ = some (V (2 * k)) := (HPA0.cell _ h2k).1
                have y4 : w8.cell? ⟨w7.heap.size + 1, 0, none⟩ = some (.string (B s.text)) := hfarA _ _ (by (first | exact cell_new1 _ _ _ _ (by simp) | exact cell_old1 (cell_new1 _ _ _ _ (by simp)))) (hOA.out _ (by simp))
                clear HPA0 hfarA
                refine hK.out _ _ ?_ (fun hHeld => ?_)
                · (try dsimp only); go_keep
                clear hK K
                simp only [Act.put, List.setIfInBounds_toArray, List.set_cons_zero, List.set_cons_succ]
                refine RegG.readyG (rs := [27]) (by kernel_rfl) (by simp) ?_
                refine RegG.AllG.cons (o := ?o_37) ?ho_37 (fun K hK => ?step_37) ?more_37 
                case ho_37 => (simp only [List.getElem?_toArray, List.getElem?_cons_succ, List.getElem?_cons_zero]); rfl
                case step_37 =>
                  refine step_app rfl (.tmp 99) (.tmp 105) rfl (2 * k + 1) h2k1 s.text (V (2 * k + 1)) (rowOf st (2 * k + 1)).length _ hlB (by rfl) (by rfl) (by ((with_reducible repeat (first | apply Pre.alloc | apply Pre.drew)); exact HPA.out)) (by simp [updV]) (by simp [updR]) (by (first | assumption | exact cell_old1 (by assumption) | exact cell_new1 _ _ _ _ (by simp) | exact cell_old1 (cell_new1 _ _ _ _ (by simp)))) ?_
                  intro gB capB w9 HPB0 hfarB
                  have HPB := Lib.hid HPB0
                  have v1 := ((hS ▸ HPB0.bel : Below w.heap.size w w9).cell (p := ⟨(x.add (i * 3)).block, (x.add (i * 3)).off + 1, none⟩) HX1.out).trans D1.out
                  have v2 := ((hS ▸ HPB0.bel : Below w.heap.size w w9).cell (p := ⟨(x.add (i * 3)).block, (x.add (i * 3)).off + 2, none⟩) HX1.out).trans D2.out
                  have v3 : w9.cell? ⟨S + 7, 2 * k, none⟩ = some (V (2 * k)) := (HPB0.cell _ h2k).1
                  have v4 : w9.cell? ⟨S + 7, 2 * k + 1, none⟩ = some (V (2 * k + 1)) := (HPB0.cell _ h2k1).1
                  have v5 : w9.frozen? ⟨S + 7, 2 * k, none⟩ = false := (HPB0.cell _ h2k).2
                  have v6 : w9.frozen? ⟨S + 7, 2 * k + 1, none⟩ = false := (HPB0.cell _ h2k1).2
                  clear HPB0 hfarB
                  refine hK.out _ _ ?_ (fun hHeld => ?_)
                  · (try dsimp only); go_keep
                  clear hK K
                  simp only [Act.put, List.setIfInBounds_toArray, List.set_cons_zero, List.set_cons_succ]
                  refine RegG.takeP (i := 28) (oi := ?oi_38) (v := ?v_38) ?hi_38 (by rfl) (by kernel_rfl) (by kernel_rfl) (by kernel_rfl) ?hQ_38 ?hy_38 ?hv_38 (fun _ => hHeld) ?h_38
                  case hi_38 => (simp only [List.getElem?_toArray, List.getElem?_cons_succ, List.getElem?_cons_zero]); rfl
                  case hQ_38 => exact fun _ _ _ h => h
                  case hy_38 => rfl
                  case hv_38 => (intro w; go_simp; try with_reducible rfl)
                  simp only [Act.put, List.setIfInBounds_toArray, List.set_cons_zero, List.set_cons_succ]
                  refine RegG.takeP (i := 29) (oi := ?oi_39) (v := ?v_39) ?hi_39 (by rfl) (by kernel_rfl) (by kernel_rfl) (by kernel_rfl) ?hQ_39 ?hy_39 ?hv_39 (fun _ => hHeld) ?h_39
                  case hi_39 => (simp only [List.getElem?_toArray, List.getElem?_cons_succ, List.getElem?_cons_zero]); rfl
                  case hQ_39 => exact fun _ _ _ h => h
                  case hy_39 => rfl
                  case hv_39 => (intro w; go_simp; try with_reducible rfl)
                  simp only [Act.put, List.setIfInBounds_toArray, List.set_cons_zero, List.set_cons_succ]
                  refine RegG.readyG (rs := [30]) (by kernel_rfl) (by simp) ?_
                  refine RegG.AllG.last (by kernel_rfl) (o := ?o_40) ?ho_40 (fun K hK => ?step_40) ?more_40 
                  case ho_40 => (simp only [List.getElem?_toArray, List.getElem?_cons_succ, List.getElem?_cons_zero]); rfl
                  case step_40 =>
                    go_simp
                    refine hK.out _ _ ?_
                    clear hK K
                    simp only [Act.put, List.setIfInBounds_toArray, List.set_cons_zero, List.set_cons_succ]
                    refine RegG.takeP (i := 31) (oi := ?oi_41) (v := ?v_41) ?hi_41 (by rfl) (by kernel_rfl) (by kernel_rfl) (by kernel_rfl) ?hQ_41 ?hy_41 ?hv_41 (fun e => absurd e (by decide)) ?h_41
                    case hi_41 => (simp only [List.getElem?_toArray, List.getElem?_cons_succ, List.getElem?_cons_zero]); rfl
                    case hQ_41 => exact fun _ _ _ h => h
                    case hy_41 => rfl
                    case hv_41 => (intro w; go_simp; try with_reducible rfl)
                    simp only [Act.put, List.setIfInBounds_toArray, List.set_cons_zero, List.set_cons_succ]
                    refine RegG.takeP (i := 32) (oi := ?oi_42) (v := ?v_42) ?hi_42 (by rfl) (by kernel_rfl) (by kernel_rfl) (by kernel_rfl) ?hQ_42 ?hy_42 ?hv_42 (fun e => absurd e (by decide)) ?h_42
                    case hi_42 => (simp only [List.getElem?_toArray, List.getElem?_cons_succ, List.getElem?_cons_zero]); rfl
                    case hQ_42 => exact fun _ _ _ h => h
                    case hy_42 => rfl
                    case hv_42 => (intro w; go_simp; try with_reducible rfl)
                    simp only [Act.put, List.setIfInBounds_toArray, List.set_cons_zero, List.set_cons_succ]
                    refine RegG.readyG (rs := [33]) (by kernel_rfl) (by simp) ?_
                    refine RegG.AllG.last (by kernel_rfl) (o := ?o_43) ?ho_43 (fun K hK => ?step_43) ?more_43 
                    case ho_43 => (simp only [List.getElem?_toArray, List.getElem?_cons_succ, List.getElem?_cons_zero]); rfl
                    case step_43 =>
                      go_simp
                      refine hK.out _ _ ?_
                      clear hK K
                      simp only [Act.put, List.setIfInBounds_toArray, List.set_cons_zero, List.set_cons_succ]
                      refine RegG.doneG (by kernel_rfl) ?_ _
                      clear D0 D1 D2
                      try dsimp only
                      go_wp2_with fail
                      have hEnd := built_leaf hk HPB.out rfl
                      obtain ⟨V2, q1, q2, q3, q4⟩ := hEnd
                      go_roundg gk
                      case measure => omega
                      case rel => exact ⟨i + 1, V2, rfl, by omega, by rw [HE1.out, hPut.out]; exact q1, by rw [HE1.out, hPut.out]; exact q2, q3, q4⟩
                    case more_43 =>
                      exact RegG.AllG.nil
                  case more_40 =>
                    exact RegG.AllG.nil
                case more_37 =>
                  exact RegG.AllG.nil
              case more_36 =>
                exact RegG.AllG.nil
            case more_35 =>
              exact RegG.AllG.nil
        case more_25 =>
          refine RegG.AllG.cons (o := ?o_44) ?ho_44 (fun K hK => ?step_44) ?more_44 
          case ho_44 => (simp only [List.getElem?_toArray, List.getElem?_cons_succ, List.getElem?_cons_zero]); rfl
          case step_44 =>
            go_simp
            refine hK.out _ _ ?_ (fun hHeld => ?_)
            · (try dsimp only); go_keep
            clear hK K
            simp only [Act.put, List.setIfInBounds_toArray, List.set_cons_zero, List.set_cons_succ]
            refine RegG.readyG (rs := [14]) (by kernel_rfl) (by simp) ?_
            refine RegG.AllG.cons (o := ?o_45) ?ho_45 (fun K hK => ?step_45) ?more_45 
            case ho_45 => (simp only [List.getElem?_toArray, List.getElem?_cons_succ, List.getElem?_cons_zero]); rfl
            case step_45 =>
              go_simp
              refine hK.out _ _ ?_ (fun hHeld => ?_)
              · (try dsimp only); go_keep
              clear hK K
              simp only [Act.put, List.setIfInBounds_toArray, List.set_cons_zero, List.set_cons_succ]
              refine RegG.readyG (rs := [15]) (by kernel_rfl) (by simp) ?_
              refine RegG.AllG.cons (o := ?o_46) ?ho_46 (fun K hK => ?step_46) ?more_46 
              case ho_46 => (simp only [List.getElem?_toArray, List.getElem?_cons_succ, List.getElem?_cons_zero]); rfl
              case step_46 =>
                refine step_app rfl (.tmp 87) (.tmp 93) rfl (2 * k) h2k s.name (V (2 * k)) (rowOf st (2 * k)).length _ hlA (by rfl) (by rfl) (by ((with_reducible repeat (first | apply Pre.alloc | apply Pre.drew)); exact HP.out)) rfl rfl (by (first | exact cell_new1 _ _ _ _ (by simp) | exact cell_old1 (cell_new1 _ _ _ _ (by simp)))) ?_
                intro gA capA w8 HPA0 hfarA
                have HPA := Lib.hid HPA0
                have y1 := ((hS ▸ HPA0.bel : Below w.heap.size w w8).cell (p := ⟨(x.add (i * 3)).block, (x.add (i * 3)).off + 1, none⟩) HX1.out).trans D1.out
                have y2 := ((hS ▸ HPA0.bel : Below w.heap.size w w8).cell (p := ⟨(x.add (i * 3)).block, (x.add (i * 3)).off + 2, none⟩) HX1.out).trans D2.out
                have y3 : w8.cell? ⟨S + 7, 2 * k + 1, none⟩ = some (V (2 * k + 1)) := (HPA0.cell _ h2k1).1
                have y6 : w8.cell? ⟨S + 7, 2 * k, none⟩ = some (V (2 * k)) := (HPA0.cell _ h2k).1
                have y4 : w8.cell? ⟨w7.heap.size, 0, none⟩ = some (.string (B s.text)) := hfarA _ _ (by (first | exact cell_new1 _ _ _ _ (by simp) | exact cell_old1 (cell_new1 _ _ _ _ (by simp)))) (hOA.out _ (by simp))
                clear HPA0 hfarA
                refine hK.out _ _ ?_ (fun hHeld => ?_)
                · (try dsimp only); go_keep
                clear hK K
                simp only [Act.put, List.setIfInBounds_toArray, List.set_cons_zero, List.set_cons_succ]
                refine RegG.readyG (rs := [27]) (by kernel_rfl) (by simp) ?_
                refine RegG.AllG.cons (o := ?o_47) ?ho_47 (fun K hK => ?step_47) ?more_47 
                case ho_47 => (simp only [List.getElem?_toArray, List.getElem?_cons_succ, List.getElem?_cons_zero]); rfl
                case step_47 =>
                  refine step_app rfl (.tmp 99) (.tmp 105) rfl (2 * k + 1) h2k1 s.text (V (2 * k + 1)) (rowOf st (2 * k + 1)).length _ hlB (by rfl) (by rfl) (by ((with_reducible repeat (first | apply Pre.alloc | apply Pre.drew)); exact HPA.out)) (by simp [updV]) (by simp [updR]) (by (first | assumption | exact cell_old1 (by assumption) | exact cell_new1 _ _ _ _ (by simp) | exact cell_old1 (cell_new1 _ _ _ _ (by simp)))) ?_
                  intro gB capB w9 HPB0 hfarB
                  have HPB := Lib.hid HPB0
                  have v1 := ((hS ▸ HPB0.bel : Below w.heap.size w w9).cell (p := ⟨(x.add (i * 3)).block, (x.add (i * 3)).off + 1, none⟩) HX1.out).trans D1.out
                  have v2 := ((hS ▸ HPB0.bel : Below w.heap.size w w9).cell (p := ⟨(x.add (i * 3)).block, (x.add (i * 3)).off + 2, none⟩) HX1.out).trans D2.out
                  have v3 : w9.cell? ⟨S + 7, 2 * k, none⟩ = some (V (2 * k)) := (HPB0.cell _ h2k).1
                  have v4 : w9.cell? ⟨S + 7, 2 * k + 1, none⟩ = some (V (2 * k + 1)) := (HPB0.cell _ h2k1).1
                  have v5 : w9.frozen? ⟨S + 7, 2 * k, none⟩ = false := (HPB0.cell _ h2k).2
                  have v6 : w9.frozen? ⟨S + 7, 2 * k + 1, none⟩ = false := (HPB0.cell _ h2k1).2
                  clear HPB0 hfarB
                  refine hK.out _ _ ?_ (fun hHeld => ?_)
                  · (try dsimp only); go_keep
                  clear hK K
                  simp only [Act.put, List.setIfInBounds_toArray, List.set_cons_zero, List.set_cons_succ]
                  refine RegG.takeP (i := 28) (oi := ?oi_48) (v := ?v_48) ?hi_48 (by rfl) (by kernel_rfl) (by kernel_rfl) (by kernel_rfl) ?hQ_48 ?hy_48 ?hv_48 (fun _ => hHeld) ?h_48
                  case hi_48 => (simp only [List.getElem?_toArray, List.getElem?_cons_succ, List.getElem?_cons_zero]); rfl
                  case hQ_48 => exact fun _ _ _ h => h
                  case hy_48 => rfl
                  case hv_48 => (intro w; go_simp; try with_reducible rfl)
                  simp only [Act.put, List.setIfInBounds_toArray, List.set_cons_zero, List.set_cons_succ]
                  refine RegG.takeP (i := 29) (oi := ?oi_49) (v := ?v_49) ?hi_49 (by rfl) (by kernel_rfl) (by kernel_rfl) (by kernel_rfl) ?hQ_49 ?hy_49 ?hv_49 (fun _ => hHeld) ?h_49
                  case hi_49 => (simp only [List.getElem?_toArray, List.getElem?_cons_succ, List.getElem?_cons_zero]); rfl
                  case hQ_49 => exact fun _ _ _ h => h
                  case hy_49 => rfl
                  case hv_49 => (intro w; go_simp; try with_reducible rfl)
                  simp only [Act.put, List.setIfInBounds_toArray, List.set_cons_zero, List.set_cons_succ]
                  refine RegG.readyG (rs := [30]) (by kernel_rfl) (by simp) ?_
                  refine RegG.AllG.last (by kernel_rfl) (o := ?o_50) ?ho_50 (fun K hK => ?step_50) ?more_50 
                  case ho_50 => (simp only [List.getElem?_toArray, List.getElem?_cons_succ, List.getElem?_cons_zero]); rfl
                  case step_50 =>
                    go_simp
                    refine hK.out _ _ ?_
                    clear hK K
                    simp only [Act.put, List.setIfInBounds_toArray, List.set_cons_zero, List.set_cons_succ]
                    refine RegG.takeP (i := 31) (oi := ?oi_51) (v := ?v_51) ?hi_51 (by rfl) (by kernel_rfl) (by kernel_rfl) (by kernel_rfl) ?hQ_51 ?hy_51 ?hv_51 (fun e => absurd e (by decide)) ?h_51
                    case hi_51 => (simp only [List.getElem?_toArray, List.getElem?_cons_succ, List.getElem?_cons_zero]); rfl
                    case hQ_51 => exact fun _ _ _ h => h
                    case hy_51 => rfl
                    case hv_51 => (intro w; go_simp; try with_reducible rfl)
                    simp only [Act.put, List.setIfInBounds_toArray, List.set_cons_zero, List.set_cons_succ]
                    refine RegG.takeP (i := 32) (oi := ?oi_52) (v := ?v_52) ?hi_52 (by rfl) (by kernel_rfl) (by kernel_rfl) (by kernel_rfl) ?hQ_52 ?hy_52 ?hv_52 (fun e => absurd e (by decide)) ?h_52
                    case hi_52 => (simp only [List.getElem?_toArray, List.getElem?_cons_succ, List.getElem?_cons_zero]); rfl
                    case hQ_52 => exact fun _ _ _ h => h
                    case hy_52 => rfl
                    case hv_52 => (intro w; go_simp; try with_reducible rfl)
                    simp only [Act.put, List.setIfInBounds_toArray, List.set_cons_zero, List.set_cons_succ]
                    refine RegG.readyG (rs := [33]) (by kernel_rfl) (by simp) ?_
                    refine RegG.AllG.last (by kernel_rfl) (o := ?o_53) ?ho_53 (fun K hK => ?step_53) ?more_53 
                    case ho_53 => (simp only [List.getElem?_toArray, List.getElem?_cons_succ, List.getElem?_cons_zero]); rfl
                    case step_53 =>
                      go_simp
                      refine hK.out _ _ ?_
                      clear hK K
                      simp only [Act.put, List.setIfInBounds_toArray, List.set_cons_zero, List.set_cons_succ]
                      refine RegG.doneG (by kernel_rfl) ?_ _
                      clear D0 D1 D2
                      try dsimp only
                      go_wp2_with fail
                      have hEnd := built_leaf hk HPB.out rfl
                      obtain ⟨V2, q1, q2, q3, q4⟩ := hEnd
                      go_roundg gk
                      case measure => omega
                      case rel => exact ⟨i + 1, V2, rfl, by omega, by rw [HE1.out, hPut.out]; exact q1, by rw [HE1.out, hPut.out]; exact q2, q3, q4⟩
                    case more_53 =>
                      exact RegG.AllG.nil
                  case more_50 =>
                    exact RegG.AllG.nil
                case more_47 =>
                  exact RegG.AllG.nil
              case more_46 =>
                exact RegG.AllG.nil
            case more_45 =>
              exact RegG.AllG.nil
          case more_44 =>
            exact RegG.AllG.nil
        --END14
end Go.Proofs.Ytlpjhpdgjeiioaa.Sc
