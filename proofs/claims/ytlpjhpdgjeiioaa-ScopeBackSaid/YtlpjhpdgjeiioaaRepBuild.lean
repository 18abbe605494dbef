/- (*strings.Replacer).build at the four pairs. -/
import Derived.Test.YtlpjhpdgjeiioaaNewRep
import Derived.Laws.Tables
import Derived.Laws.CopyOwn
import Derived.Lib.BufferMore
import Derived.Laws.BytesArg
import Derived.Lib.ConvBytes
import Derived.Laws.AppendOwn
set_option linter.unusedSimpArgs false
set_option linter.unusedVariables false
namespace Go.Proofs.Ytlpjhpdgjeiioaa.Rep
open Go.RowKit Go.Lib Go.Shelf Go.Proofs.YtlpjhpdgjeiioaaW.PrintWords Go.Proofs.Ytlpjhpdgjeiioaa.U Go.Proofs.Ytlpjhpdgjeiioaa.Sc
def BuildPost (w : World) (e : Ending) (w' : World) : Prop := ∃ r, e = .returned (.iface 116 (.pointer (some ⟨r, 0, none⟩))) ∧ w.heap.size ≤ r ∧ RepAt w' r ∧ Below w.heap.size w w'
theorem four {i : Nat} (h : i < 4) : i = 0 ∨ i = 1 ∨ i = 2 ∨ i = 3 := by omega
theorem make4 (w : World) : (Instr.makeSlice 48 (.int .i64 0) (.int .i64 4)).run Try.prog w = .ok (.slice (some ⟨w.heap.size, 0, none⟩) 0 4) (w.alloc (.cells (madeCells #[.string ⟨#[]⟩] 4) 9)) := by
  obtain ⟨i, hi, hzz⟩ := Option.map_eq_some_iff.1 infoStr
  simp only [Prod.mk.injEq] at hzz
  obtain ⟨hz, hs, hb⟩ := hzz
  have h := run_make (P := Try.prog) w 48 9 i (.string ⟨#[]⟩) Try.underlying48 hi hz .i64 .i64 0 4 (by decide) (by decide) (by rw [hb]; decide) (by decide)
  rw [hs] at h
  exact h
theorem zero115 : Try.zeroCells115 = Array.replicate 257 (.slice none 0 0) := by kernel_rfl
/-- A row of two bytes, 36 and c, in a block of its own. -/
def RepYes (W : World) (c : UInt8) (v : Value) : Prop := ∃ x cap xs fr, v = .slice (some ⟨x, 0, none⟩) 2 cap ∧ W.heap[x]? = some (.cells xs 5 fr) ∧ xs[0]? = some (.int .u8 36) ∧ xs[1]? = some (.int .u8 (c.toNat : Int))
theorem RepYes.same {W W' : World} {c : UInt8} {v : Value} (h : RepYes W c v) (e : ∀ (x : Nat) (xs : Array Value) (fr : Nat × Nat), W.heap[x]? = some (Obj.cells xs 5 fr) → W'.heap[x]? = W.heap[x]?) : RepYes W' c v := by
  obtain ⟨x, cap, xs, fr, h1, h2, h3, h4⟩ := h
  exact ⟨x, cap, xs, fr, h1, (e x xs fr h2).trans h2, h3, h4⟩
structure BInv (w0 : World) (k : Nat) (cs : Array Value) (T : Value) (W : World) : Prop where
  bel : Below w0.heap.size w0 W
  blk : W.heap[w0.heap.size + 1]? = some (.cells cs 115 (0, 0))
  size : cs.size = 257
  tr : cs[256]? = some T
  own : W.ownsRow w0.heap.size 9 1 T k ((olds.take k).map fun c => .string (B [c]))
  yes : ∀ c : UInt8, c ∈ olds.take k → ∃ v, cs[c.toNat]? = some v ∧ RepYes W c v
  no : ∀ c : UInt8, c ∉ olds.take k → cs[c.toNat]? = some (.slice none 0 0)
theorem ne_type {W : World} {x y : Nat} {xs ys : Array Value} {t u : TypeId} {fr fr' : Nat × Nat} (h : W.heap[x]? = some (.cells xs t fr)) (h' : W.heap[y]? = some (.cells ys u fr')) (hne : t ≠ u) : x ≠ y := by
  rintro rfl
  rw [h] at h'
  injection h' with h'
  injection h' with _ h2 _
  exact hne h2
/-- The world behind 'the first table'. -/
theorem first (w : World) (m4 : Array Value) (hm : m4.size = 4) : 
    ∃ W cs, (storeCells ⟨w.heap.size + 1, 0, none⟩ (Try.zeroCells115.toList.set 256 (.slice (some ⟨w.heap.size, 0, none⟩) 0 4))).run Try.prog ((w.alloc (.cells m4 9)).alloc (.cells Try.zeroCells115 115)) = .ok () W ∧
      BInv w 0 cs (.slice (some ⟨w.heap.size, 0, none⟩) 0 4) W := by
  rw [zero115]
  obtain ⟨n, hn⟩ : ∃ n, n = 257 := ⟨_, rfl⟩
  rw [← hn]
  have h0 : ((w.alloc (.cells m4 9)).alloc (.cells (Array.replicate n (.slice none 0 0)) 115)).heap[w.heap.size + 1]? = some (.cells (Array.replicate n (.slice none 0 0)) 115 (0, 0)) := by
    have := heap_alloc_new (w.alloc (.cells m4 9)) (.cells (Array.replicate n (.slice none 0 0)) 115)
    rwa [show (w.alloc (.cells m4 9)).heap.size = w.heap.size + 1 by simp] at this
  have hr := run_storeCells_from (P := Try.prog) (w.heap.size + 1) 115 ((Array.replicate n (Value.slice none 0 0)).toList.set 256 (.slice (some ⟨w.heap.size, 0, none⟩) 0 4)) 0 _ _ h0 (by simp)
    (fun v hv => by
      rcases List.mem_or_eq_of_mem_set hv with h | h
      · have : v = .slice none 0 0 := by
          rw [Array.toList_replicate] at h
          exact List.eq_of_mem_replicate h
        rw [this]; rfl
      · rw [h]; rfl)
  rw [List.take_zero, List.nil_append] at hr
  refine ⟨_, _, hr, ?_, setRow_heap _ _ _ _ _ _ h0, by rw [List.size_toArray, List.length_set, Array.length_toList, Array.size_replicate, hn], ?_, ?_, fun c hc => by simp at hc, fun c _ => ?_⟩
  · exact below_setRow (((Below.refl _ w).alloc (Nat.le_refl _) _).alloc (by simp) _) (by omega) _
  · rw [List.getElem?_toArray, List.getElem?_set_self (by rw [Array.length_toList, Array.size_replicate]; omega)]
  · refine ⟨by simp, .inr ⟨w.heap.size, 4, m4, rfl, Nat.le_refl _, ?_, by decide, by decide, by rw [hm], by simp⟩⟩
    rw [setRow_other _ _ _ _ (by omega)]
    exact (Below.heap_alloc _ _ _ (by simp)).trans (heap_alloc_new w _)
  · have hc := c.toNat_lt
    rw [List.getElem?_toArray, List.getElem?_set_ne (by omega), Array.toList_replicate, List.getElem?_replicate, if_pos (by omega)]
theorem pairs_at (k : Nat) (hk : k < 4) : pairs.getD (6 - 2 * k) [] = [olds.getD k 0] ∧ pairs.getD (6 - 2 * k + 1) [] = [36, olds.getD k 0] := by
  rcases four hk with rfl | rfl | rfl | rfl <;> exact ⟨rfl, rfl⟩
theorem olds_new (k : Nat) (hk : k < 4) : olds.getD k 0 ∉ olds.take k := by
  rcases four hk with rfl | rfl | rfl | rfl <;> decide
theorem heap_set {w : World} {b : Nat} {cs : Array Value} {t : TypeId} (h : w.heap[b]? = some (.cells cs t (0, 0))) (j : Nat) (v : Value) : (w.setCell ⟨b, j, none⟩ v).heap[b]? = some (.cells (cs.setIfInBounds j v) t (0, 0)) := by
  have hlt := (Array.getElem?_eq_some_iff.1 h).1
  have h' : w.heap[b] = .cells cs t (0, 0) := by simpa [Array.getElem?_eq_getElem hlt] using h
  show (w.heap.modify b _)[b]? = _
  rw [Array.getElem?_eq_getElem (by simpa using hlt), Array.getElem_modify_self, h']
  rfl
theorem bytes_below (w : World) (e : TypeId) (s : ByteArray) : Below w.heap.size w (Lib.bytesWorld w e s) :=
  ⟨rfl, rfl, rfl, by rw [Lib.bytesWorld_size]; omega, fun k hk => Lib.bytesWorld_at_old w e s k hk⟩
/-- One round of the table's filling. -/
theorem BInv.next {w0 : World} {k : Nat} {cs : Array Value} {T : Value} {W : World} (h : BInv w0 k cs T W) (hk : k < 4) {c : UInt8} (hc : olds.getD k 0 = c) {o : Obj} {v1 : Value} {w1 : World}
    (hown : w1.ownsRow w0.heap.size 9 1 v1 (k + 1) ((olds.take k).map (fun c => Value.string (B [c])) ++ [.string (B [c])])) (hb : Below w0.heap.size w0 w1) (hg : (W.alloc o).grownBy w1 T.ownBlock) :
    w1.heap[w0.heap.size + 1]? = some (.cells cs 115 (0, 0)) ∧
    ∀ w2 w3, w2 = w1.setCell ⟨w0.heap.size + 1, 256, none⟩ v1 → w3 = Lib.bytesWorld w2 5 (B [36, c]) →
      w3.heap[w0.heap.size + 1]? = some (.cells (cs.setIfInBounds 256 v1) 115 (0, 0)) ∧
      ∀ cap, BInv w0 (k + 1) ((cs.setIfInBounds 256 v1).setIfInBounds c.toNat (.slice (some ⟨w2.heap.size, 0, none⟩) 2 cap)) v1 (w3.setCell ⟨w0.heap.size + 1, c.toNat, none⟩ (.slice (some ⟨w2.heap.size, 0, none⟩) 2 cap)) := by
  have hlt : w0.heap.size + 1 < W.heap.size := (Array.getElem?_eq_some_iff.1 h.blk).1
  have hne : some (w0.heap.size + 1) ≠ T.ownBlock := by
    intro e
    obtain ⟨cells, hcl⟩ := own_typed h.own _ e.symm
    exact ne_type h.blk hcl (by decide) rfl
  have hW1 : w1.heap[w0.heap.size + 1]? = some (.cells cs 115 (0, 0)) :=
    (hg.block _ (by simp; omega) hne).trans ((Below.heap_alloc _ _ _ hlt).trans h.blk)
  refine ⟨hW1, ?_⟩
  intro w2 w3 e2 e3
  have hlt1 := (Array.getElem?_eq_some_iff.1 hW1).1
  have hs2 : w2.heap.size = w1.heap.size := by rw [e2]; exact World.size_setCell _ _ _
  have hW2 : w2.heap[w0.heap.size + 1]? = some (.cells (cs.setIfInBounds 256 v1) 115 (0, 0)) := by rw [e2]; exact heap_set hW1 256 v1
  have hb23 : Below w2.heap.size w2 w3 := by rw [e3]; exact bytes_below _ _ _
  have hW3 : w3.heap[w0.heap.size + 1]? = some (.cells (cs.setIfInBounds 256 v1) 115 (0, 0)) := (hb23.block _ (by omega)).trans hW2
  refine ⟨hW3, ?_⟩
  intro cap
  have hc256 := c.toNat_lt
  have htk : olds.take (k + 1) = olds.take k ++ [c] := by rcases four hk with rfl | rfl | rfl | rfl <;> (subst hc; rfl)
  have hnew : c ∉ olds.take k := by rw [← hc]; exact olds_new k hk
  have own2 : w2.ownsRow w0.heap.size 9 1 v1 (k + 1) ((olds.take (k + 1)).map fun c => .string (B [c])) := by
    rw [htk, List.map_append, e2]
    exact own_setCell hown (own_ne hown hW1 (by decide)) v1
  have own3 := pw_own_below own2 hb23
  -- what stands in a block of bytes of W stands there still
  have keep : ∀ (x : Nat) (xs : Array Value) (fr : Nat × Nat), W.heap[x]? = some (Obj.cells xs 5 fr) → (w3.setCell ⟨w0.heap.size + 1, c.toNat, none⟩ (.slice (some ⟨w2.heap.size, 0, none⟩) 2 cap)).heap[x]? = W.heap[x]? := by
    intro x xs fr hx
    have hxl := (Array.getElem?_eq_some_iff.1 hx).1
    have hx1 : x ≠ w0.heap.size + 1 := ne_type hx h.blk (by decide)
    have hxT : some x ≠ T.ownBlock := by
      intro e
      obtain ⟨cells, hcl⟩ := own_typed h.own _ e.symm
      exact ne_type hx hcl (by decide) rfl
    have hx2 : x < w2.heap.size := by
      have := hg.size
      simp at this
      omega
    rw [Below.heap_setCell _ _ _ _ hx1, hb23.block _ hx2, e2, Below.heap_setCell _ _ _ _ hx1]
    exact (hg.block _ (by simp; omega) hxT).trans (Below.heap_alloc _ _ _ hxl)
  refine ⟨?_, heap_set hW3 _ _, by simp [h.size], ?_, own_setCell own3 (own_ne own3 hW3 (by decide)) _, fun c' hc' => ?_, fun c' hc' => ?_⟩
  · have hb2 : Below w0.heap.size w0 w2 := by rw [e2]; exact hb.setCell (p := ⟨w0.heap.size + 1, 256, none⟩) (by show w0.heap.size ≤ w0.heap.size + 1; omega) v1
    exact (hb2.next hb23).setCell (p := ⟨w0.heap.size + 1, c.toNat, none⟩) (by show w0.heap.size ≤ w0.heap.size + 1; omega) _
  · rw [Array.getElem?_setIfInBounds_ne (by omega), Array.getElem?_setIfInBounds_self_of_lt (by rw [h.size]; omega)]
  · rw [htk, List.mem_append] at hc'
    by_cases hcc : c' = c
    · subst hcc
      refine ⟨_, Array.getElem?_setIfInBounds_self_of_lt (by simp [h.size]; omega), w2.heap.size, cap, Lib.bytesCells w2 5 (B [36, c']), ((Lib.bytesCells w2 5 (B [36, c'])).size, (Lib.bytesCells w2 5 (B [36, c'])).size + 1), rfl, ?_, ?_, ?_⟩
      · rw [Below.heap_setCell _ _ _ _ (show w2.heap.size ≠ w0.heap.size + 1 by omega), e3]
        exact Lib.bytesWorld_at_new w2 5 (B [36, c'])
      · unfold Lib.bytesCells; rw [Array.getElem?_append_left (by simp [B]), Array.getElem?_map]; rfl
      · unfold Lib.bytesCells; rw [Array.getElem?_append_left (by simp [B]), Array.getElem?_map]; rfl
    · have hin : c' ∈ olds.take k := hc'.resolve_right (fun h1 => hcc (by simpa using h1))
      obtain ⟨v, g1, g2⟩ := h.yes c' hin
      have hc'256 := c'.toNat_lt
      refine ⟨v, ?_, g2.same keep⟩
      rw [Array.getElem?_setIfInBounds_ne (fun e => hcc (UInt8.toNat_inj.1 e.symm)), Array.getElem?_setIfInBounds_ne (by omega)]
      exact g1
  · rw [htk, List.mem_append, not_or] at hc'
    have hcc : c' ≠ c := by simpa using hc'.2
    have hc'256 := c'.toNat_lt
    rw [Array.getElem?_setIfInBounds_ne (fun e => hcc (UInt8.toNat_inj.1 e.symm)), Array.getElem?_setIfInBounds_ne (by omega)]
    exact h.no c' hc'.1
/-- The table, filled. -/
theorem BInv.done {w0 : World} {cs : Array Value} {T : Value} {W : World} (h : BInv w0 4 cs T W) : RepAt W (w0.heap.size + 1) := by
  refine ⟨fun c => ?_, ?_⟩
  · have hmem : escB c = true ↔ c ∈ olds.take 4 := by rw [escB_iff]; simp [olds]
    by_cases he : escB c = true
    · obtain ⟨v, g1, x, cap, xs, fr, rfl, g2, g3, g4⟩ := h.yes c (hmem.1 he)
      refine ⟨_, (cell_of_heap h.blk _).trans g1, ?_⟩
      unfold RepCell
      rw [if_pos he]
      exact ⟨⟨x, 0, none⟩, cap, rfl, by simp [World.cell?, g2, g3], by simp [World.cell?, Addr.add, g2, g4]⟩
    · refine ⟨_, (cell_of_heap h.blk _).trans (h.no c (fun e => he (hmem.2 e))), ?_⟩
      unfold RepCell
      rw [if_neg he]
  · rcases h.own.2 with ⟨_, h0⟩ | ⟨x, cap, cur, hT, _, hh, _, _, _, htk⟩
    · exact absurd h0 (by decide)
    · refine ⟨⟨x, 0, none⟩, cap, by rw [cell_of_heap h.blk, h.tr, hT], fun i hi => ?_⟩
      have ha : (⟨x, 0, none⟩ : Addr).add i = ⟨x, i, none⟩ := by unfold Addr.add; by_cases hq : i = 0 <;> simp [hq]
      rw [ha, cell_of_heap hh]
      have h3 : (cur.toList.take (4 * 1))[i]? = some (.string (B [olds.getD i 0])) := by
        rw [htk]; rcases four hi with rfl | rfl | rfl | rfl <;> rfl
      rw [List.getElem?_take_of_lt (by omega)] at h3
      simpa using h3
set_option maxRecDepth 100000 in
set_option maxHeartbeats 4000000 in
theorem build_any (b g q : Nat) (w : World) (hF : Fresh w b g q 1) :
    Calls Try.prog 46 #[.pointer (some ⟨b, 0, none⟩)] w (BuildPost w) := by
  obtain ⟨hblk, hrow, hne⟩ := hF
  have hR := Lib.hid hrow
  have b2 : w.cell? ⟨b, 4, none⟩ = some (.slice (some ⟨g, 0, none⟩) 8 q) := by rw [cell_of_heap hblk]; rfl
  clear hrow hblk hne
  go_enter Try.func46, Try.ntmps46
  go_wp2_with fail
  go_loopg [4, 5] 4 (fun gk s4 s5 wr => ∃ i : Nat, s5 = .int .i64 ((2 * i : Nat) : Int) ∧ i + gk = 4 ∧ s4 = .bool (decide (i = 0)) ∧ w = wr)
  case atStart => exact ⟨0, rfl, rfl, rfl, rfl⟩
  case round =>
    obtain ⟨i, rfl, hik, rfl, rfl⟩ := hrel
    cases gk with
    | zero =>
      obtain rfl : i = 4 := by omega
      have hmk := make4 w
      have hm4 : (madeCells #[.string ⟨#[]⟩] 4).size = 4 := by rw [size_madeCells]
      generalize madeCells #[.string ⟨#[]⟩] 4 = m4 at hmk hm4
      obtain ⟨W2, cs2, hst, hI2⟩ := first w m4 hm4
      have HI2 := Lib.hid hI2
      clear hI2 hm4
      go_wp2_with fail
      go_loopg [12] 4 (fun gk s12 wr => ∃ (k : Nat) (cs : Array Value) (T : Value), s12 = .int .i64 (6 - 2 * (k : Int)) ∧ k + gk = 4 ∧ Hid (BInv w k cs T wr))
      case atStart => exact ⟨0, cs2, _, rfl, rfl, HI2⟩
      case round =>
        obtain ⟨k, cs, T, rfl, hk4, hI⟩ := hrel
        clear hmk hst HI2
        cases gk with
        | zero =>
          obtain rfl : k = 4 := by omega
          go_wp2_with fail
          go_ret
          exact ⟨w.heap.size + 1, rfl, by omega, hI.out.done, hI.out.bel⟩
        | succ gk =>
          have hk : k < 4 := by omega
          obtain ⟨p, hp⟩ : ∃ p, 6 - 2 * k = p := ⟨_, rfl⟩
          have hpk : (6 - 2 * (k : Int)) = (p : Int) := by omega
          have hp8 : p + 1 < 8 := by omega
          obtain ⟨e0, e1⟩ := pairs_at k hk
          obtain ⟨c, hc⟩ : ∃ c, olds.getD k 0 = c := ⟨_, rfl⟩
          rw [hp, hc] at e0 e1
          have hnew := olds_new k hk
          rw [hc] at hnew
          have hgl := hR.out.lt
          have c0 : wr.cell? ⟨g, p, none⟩ = some (.string (B [c])) := by rw [hI.out.bel.cell hgl, hR.out.cell p (by omega), e0]
          have c1 : wr.cell? ⟨g, p + 1, none⟩ = some (.string (B [36, c])) := by rw [hI.out.bel.cell hgl, hR.out.cell (p + 1) hp8, e1]
          have hc256 := c.toNat_lt
          have c2 : wr.cell? ⟨w.heap.size + 1, c.toNat, none⟩ = some (.slice none 0 0) := by rw [cell_of_heap hI.out.blk]; exact hI.out.no c hnew
          have c3 : wr.cell? ⟨w.heap.size + 1, 256, none⟩ = some T := by rw [cell_of_heap hI.out.blk]; exact hI.out.tr
          have hpi : decide ((0 : Int) ≤ (p : Int)) = true := by rw [decide_eq_true_iff]; omega
          have z0 : (B [c]).size = 1 := rfl
          have h0 : ∀ h : 0 < (B [c]).size, (((B [c])[0]'h).toNat : Int) = (c.toNat : Int) := fun h => rfl
          have heq : ∀ W, (binOp .eql 44 (.slice none 0 0) (.slice none 0 0)).run Try.prog W = .ok (.bool true) W := fun W => Lib.run_eql_slice_nil_nil W _ _ Try.underlying44
          have hce := Lib.hid hc
          clear hc e0 e1 hnew hgl hk
          have hcv : (convert 44 9 (.slice (some ⟨wr.heap.size, 0, none⟩) 1 1)).run Try.prog (wr.alloc (.cells #[.int .u8 (c.toNat : Int)] 5)) = .ok (.string (B [c])) (wr.alloc (.cells #[.int .u8 (c.toNat : Int)] 5)) := by
            have h := run_convert_bytes_arg (P := Try.prog) (wr.alloc (.cells #[.int .u8 (c.toNat : Int)] 5)) 44 5 Try.underlying44 Try.underlying5 wr.heap.size 0 1 1 (Lib.numsL [c]) rfl
              (fun i hi => by
                obtain rfl : i = 0 := by omega
                rw [cell_of_heap (heap_alloc_new wr _)]; rfl) 9 Try.underlying9
            rwa [strNums] at h
          have HO := (hI.out.own.alloc (.cells #[.int .u8 (c.toNat : Int)] 5))
          have HB : Below w.heap.size w (wr.alloc (.cells #[.int .u8 (c.toNat : Int)] 5)) := hI.out.bel.alloc hI.out.bel.size _
          have hbs := HB.size
          rw [hpk]
          go_wp2_with (at_builtin; refine print_append_cells (w0 := w) (W := wr.alloc (.cells #[.int .u8 (c.toNat : Int)] 5)) w.heap.size rfl _ _ 48 9 (.string ⟨#[]⟩) 1 16 rfl Try.underlying48 infoStr rfl (by decide) (by decide) T k _ [.string (B [c])] rfl (by rw [show (wr.alloc (.cells #[.int .u8 (c.toNat : Int)] 5)).heap.size = wr.heap.size + 1 by simp]; rfl) rfl (by intro u hu; rw [List.mem_singleton.1 hu]; rfl) HO HB hbs (by omega) ?_)
          intro v1 w1 hown hb1 hg1 _
          rw [← List.map_take] at hown
          obtain ⟨A1, cp1, rfl⟩ := own_slice hown
          obtain ⟨q1, q2⟩ := hI.out.next (show k < 4 by omega) hce.out hown hb1 hg1
          have f1 : w1.cell? ⟨w.heap.size + 1, 256, none⟩ = some T := by rw [cell_of_heap q1]; exact hI.out.tr
          have f2 : w1.frozen? ⟨w.heap.size + 1, 256, none⟩ = false := frozen_of_heap q1 256
          obtain ⟨w2, hw2⟩ : ∃ w2, w1.setCell ⟨w.heap.size + 1, 256, none⟩ (.slice A1 (k + 1) cp1) = w2 := ⟨_, rfl⟩
          obtain ⟨w3, hw3⟩ : ∃ w3, Lib.bytesWorld w2 5 (B [36, c]) = w3 := ⟨_, rfl⟩
          obtain ⟨q3, q4⟩ := q2 w2 w3 hw2.symm hw3.symm
          have hcv2 := Lib.run_convert_string_bytes (P := Try.prog) w2 9 44 5 (B [36, c]) Try.underlying9 Try.underlying44 Try.underlying5
          rw [hw3] at hcv2
          have hIn := Lib.hid (q4 (grownCap w2 (B [36, c]).size 0 5))
          have hcsz : (cs.setIfInBounds 256 (.slice A1 (k + 1) cp1)).size = 257 := by rw [Array.size_setIfInBounds]; exact hI.out.size
          obtain ⟨v3, f3⟩ : ∃ v, w3.cell? ⟨w.heap.size + 1, c.toNat, none⟩ = some v := ⟨_, by rw [cell_of_heap q3, Array.getElem?_eq_getElem (by rw [hcsz]; omega)]⟩
          have f4 : w3.frozen? ⟨w.heap.size + 1, c.toNat, none⟩ = false := frozen_of_heap q3 c.toNat
          generalize grownCap w2 (B [36, c]).size 0 5 = cap at *
          clear hown hb1 hg1 q1 q2 q3 q4 hcv HO HB hbs c0 c1 c2 c3 hw3 hcsz
          have hb0 : (0 : Int) ≤ (c.toNat : Int) := by omega
          have hb1 : (c.toNat : Int) < 256 := by omega
          go_wp2_with fail
          go_roundg gk
          case measure => omega
          case rel => exact ⟨k + 1, _, _, by congr 1; omega, by omega, hIn⟩
    | succ gk =>
      rcases four (show i < 4 by omega) with rfl | rfl | rfl | rfl
      · have c0 : w.cell? ⟨g, 0, none⟩ = some (.string (B [36])) := hR.out.cell 0 (by omega)
        have c1 : w.cell? ⟨g, 1, none⟩ = some (.string (B [36, 36])) := hR.out.cell 1 (by omega)
        have z0 : (B [36]).size = 1 := rfl
        have z1 : (B [36, 36]).size = 2 := rfl
        go_wp2_with fail
        go_roundg gk
        case measure => omega
        case rel => exact ⟨1, rfl, by omega, rfl, rfl⟩
      · have c0 : w.cell? ⟨g, 2, none⟩ = some (.string (B [32])) := hR.out.cell 2 (by omega)
        have c1 : w.cell? ⟨g, 3, none⟩ = some (.string (B [36, 32])) := hR.out.cell 3 (by omega)
        have z0 : (B [32]).size = 1 := rfl
        have z1 : (B [36, 32]).size = 2 := rfl
        go_wp2_with fail
        go_roundg gk
        case measure => omega
        case rel => exact ⟨2, rfl, by omega, rfl, rfl⟩
      · have c0 : w.cell? ⟨g, 4, none⟩ = some (.string (B [58])) := hR.out.cell 4 (by omega)
        have c1 : w.cell? ⟨g, 5, none⟩ = some (.string (B [36, 58])) := hR.out.cell 5 (by omega)
        have z0 : (B [58]).size = 1 := rfl
        have z1 : (B [36, 58]).size = 2 := rfl
        go_wp2_with fail
        go_roundg gk
        case measure => omega
        case rel => exact ⟨3, rfl, by omega, rfl, rfl⟩
      · have c0 : w.cell? ⟨g, 6, none⟩ = some (.string (B [124])) := hR.out.cell 6 (by omega)
        have c1 : w.cell? ⟨g, 7, none⟩ = some (.string (B [36, 124])) := hR.out.cell 7 (by omega)
        have z0 : (B [124]).size = 1 := rfl
        have z1 : (B [36, 124]).size = 2 := rfl
        go_wp2_with fail
        go_roundg gk
        case measure => omega
        case rel => exact ⟨4, rfl, by omega, rfl, rfl⟩
end Go.Proofs.Ytlpjhpdgjeiioaa.Rep
