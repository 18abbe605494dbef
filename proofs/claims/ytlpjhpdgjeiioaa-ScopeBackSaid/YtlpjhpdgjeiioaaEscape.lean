/- scope.Escape walked: it returns escL of its text. -/
import Derived.Test.YtlpjhpdgjeiioaaRepBuild
set_option linter.unusedSimpArgs false
set_option linter.unusedVariables false
namespace Go.Proofs.Ytlpjhpdgjeiioaa.Rep
open Go.RowKit Go.Lib Go.Shelf Go.Proofs.YtlpjhpdgjeiioaaW.PrintWords Go.Proofs.Ytlpjhpdgjeiioaa.U Go.Proofs.Ytlpjhpdgjeiioaa.Sc
theorem RepAt.store {w : World} {r : Nat} (h : RepAt w r) {p : Addr} {x : Value} (hp : w.cell? p = some x) (hr : p.block ≠ r) (h1 : ∀ n, x ≠ .int .u8 n) (h2 : ∀ s, x ≠ .string s) (v : Value) : RepAt (w.setCell p v) r := by
  have k1 : ∀ (a : Addr) n, w.cell? a = some (.int .u8 n) → (w.setCell p v).cell? a = some (.int .u8 n) := fun a n ha => by
    rw [World.cell?_setCell_other _ _ _ _ (fun e => by subst e; rw [hp] at ha; exact h1 _ (Option.some.inj ha))]; exact ha
  have k2 : ∀ (a : Addr) s, w.cell? a = some (.string s) → (w.setCell p v).cell? a = some (.string s) := fun a s ha => by
    rw [World.cell?_setCell_other _ _ _ _ (fun e => by subst e; rw [hp] at ha; exact h2 _ (Option.some.inj ha))]; exact ha
  have k3 : ∀ j, (w.setCell p v).cell? ⟨r, j, none⟩ = w.cell? ⟨r, j, none⟩ := fun j => World.cell?_setCell_other _ _ _ _ (fun e => hr (by rw [e]))
  refine ⟨fun c => ?_, ?_⟩
  · obtain ⟨y, g1, g2⟩ := h.cell c
    refine ⟨y, (k3 _).trans g1, ?_⟩
    unfold RepCell at g2 ⊢
    split
    · rename_i hc
      rw [if_pos hc] at g2
      obtain ⟨a, cap, e0, e1, e2⟩ := g2
      exact ⟨a, cap, e0, k1 _ _ e1, k1 _ _ e2⟩
    · rename_i hc
      rw [if_neg hc] at g2
      exact g2
  · obtain ⟨a, cap, g1, g2⟩ := h.tr
    exact ⟨a, cap, (k3 _).trans g1, fun i hi => k2 _ _ (g2 i hi)⟩
/-- What buildOnce leaves. -/
def Built (B0 : Nat) (w0 : World) (b : Nat) (W : World) : Prop := ∃ r, W.heap[b]? = some (.cells #[.int .u32 0, .int .i32 1, .int .u32 0, .iface 116 (.pointer (some ⟨r, 0, none⟩)), .slice none 0 0] 90 (0, 0)) ∧ RepAt W r ∧ b ≠ r ∧ Below B0 w0 W
theorem blk_cell {w : World} {b : Nat} {cs : Array Value} {t : TypeId} {fr : Nat × Nat} (h : w.heap[b]? = some (.cells cs t fr)) (j : Nat) (v : Value) (hv : cs[j]? = some v) : w.cell? ⟨b, j, none⟩ = some v := by rw [cell_of_heap h]; exact hv
set_option maxRecDepth 100000 in
set_option maxHeartbeats 4000000 in
theorem buildOnce_any (B0 : Nat) (w0 : World) (b g q : Nat) (w : World) (hF : Fresh w b g q 1) (hB : Below B0 w0 w) (hb : B0 ≤ b) :
    Calls Try.prog 39 #[.pointer (some ⟨b, 0, none⟩)] w fun e W => e = .returned (.tuple #[]) ∧ Built B0 w0 b W ∧ Keeps b W := by
  have hBu := Lib.hid (build_any b g q w hF)
  have hlt := (Array.getElem?_eq_some_iff.1 hF.blk).1
  have hblk := Lib.hid hF.blk
  clear hF
  go_enter Try.func39, Try.ntmps39
  go_wp2_with fail
  refine hBu.out.mono ?_
  rintro e w1 ⟨r, rfl, hr, hrep, hb1⟩
  have h1 : w1.heap[b]? = some (.cells #[.int .u32 0, .int .i32 1, .int .u32 0, .nilIface, .slice (some ⟨g, 0, none⟩) 8 q] 90 (0, 0)) := (hb1.block b hlt).trans hblk.out
  have hrb : b ≠ r := by omega
  have c3 := blk_cell h1 3 _ rfl
  have z3 := frozen_of_heap h1 3
  have h2 := heap_set h1 3 (.iface 116 (.pointer (some ⟨r, 0, none⟩)))
  have r2 := RepAt.store hrep c3 hrb (fun _ => by simp) (fun _ => by simp) (.iface 116 (.pointer (some ⟨r, 0, none⟩)))
  have c4 := blk_cell h2 4 (.slice (some ⟨g, 0, none⟩) 8 q) rfl
  have z4 := frozen_of_heap h2 4
  have h3 := heap_set h2 4 (.slice none 0 0)
  have r3 := RepAt.store r2 c4 hrb (fun _ => by simp) (fun _ => by simp) (.slice none 0 0)
  have hb0 : Below B0 w0 w1 := hB.trans (hb1.mono (Nat.le_trans hb (Nat.le_of_lt hlt)))
  have hb3 : Below B0 w0 ((w1.setCell ⟨b, 3, none⟩ (.iface 116 (.pointer (some ⟨r, 0, none⟩)))).setCell ⟨b, 4, none⟩ (.slice none 0 0)) := (hb0.setCell (p := ⟨b, 3, none⟩) hb _).setCell (p := ⟨b, 4, none⟩) hb _
  have hfin : Hid (Built B0 w0 b ((w1.setCell ⟨b, 3, none⟩ (.iface 116 (.pointer (some ⟨r, 0, none⟩)))).setCell ⟨b, 4, none⟩ (.slice none 0 0))) := ⟨r, h3, r3, hrb, hb3⟩
  have hkp : Hid (Keeps b ((w1.setCell ⟨b, 3, none⟩ (.iface 116 (.pointer (some ⟨r, 0, none⟩)))).setCell ⟨b, 4, none⟩ (.slice none 0 0))) := ⟨blk_cell h3 0 _ rfl, blk_cell h3 1 _ rfl, frozen_of_heap h3 0, frozen_of_heap h3 1⟩
  clear hb1 hb0 hb3 r2 r3 hrep h1 h2 h3
  go_wp2_with fail
  go_end0
  exact ⟨rfl, hfin.out, hkp.out⟩
theorem bsr_any (r : Nat) (s : Txt) (hs : s.length ≤ 100000000) (w : World) (hR : RepAt w r) :
    Calls Try.prog 113 #[.pointer (some ⟨r, 0, none⟩), .string (B s)] w fun e w' => e = .returned (.string (B (escL s))) ∧ Below w.heap.size w w' := by
  by_cases h : s.length < 32
  · exact bsr_small r s h w hR
  · exact bsr_big r s (by omega) hs w hR
set_option maxRecDepth 100000 in
set_option maxHeartbeats 4000000 in
theorem Replace_any (B0 : Nat) (w0 : World) (b g q : Nat) (s : Txt) (hs : s.length ≤ 100000000) (w : World) (hF : Fresh w b g q 0) (hB : Below B0 w0 w) (hb : B0 ≤ b) :
    Calls Try.prog 32 #[.pointer (some ⟨b, 0, none⟩), .string (B s)] w fun e w' => e = .returned (.string (B (escL s))) ∧ Below B0 w0 w' := by
  have hF1 : Fresh (w.setCell ⟨b, 1, none⟩ (.int .i32 1)) b g q 1 := ⟨heap_set hF.blk 1 _, hF.row.same (Below.heap_setCell _ _ _ _ hF.ne), hF.ne⟩
  have hDo := Lib.hid (do_any b (.pointer (some ⟨b, 0, none⟩)) (Built B0 w0 b) w (blk_cell hF.blk 0 _ rfl) (blk_cell hF.blk 1 _ rfl) (frozen_of_heap hF.blk 0) (frozen_of_heap hF.blk 1)
    (buildOnce_any B0 w0 b g q _ hF1 (hB.setCell (p := ⟨b, 1, none⟩) hb _) hb))
  clear hF hF1 hB
  go_enter Try.func32, Try.ntmps32
  go_wp2_with fail
  refine hDo.out.mono ?_
  rintro e w1 ⟨rfl, W, ⟨r, g1, g2, g3, g4⟩, ⟨k0, k1, k2, k3⟩, rfl⟩
  have r1 : RepAt W.drew r := g2.same fun _ => rfl
  have h1 : W.drew.heap[b]? = some (.cells #[.int .u32 0, .int .i32 1, .int .u32 0, .iface 116 (.pointer (some ⟨r, 0, none⟩)), .slice none 0 0] 90 (0, 0)) := g1
  have h2 := heap_set h1 0 (.int .u32 1)
  have h3 := heap_set h2 1 (.int .i32 0)
  have r2 := RepAt.store r1 (blk_cell h1 0 _ rfl) g3 (fun _ => by simp) (fun _ => by simp) (.int .u32 1)
  have r3 := RepAt.store r2 (blk_cell h2 1 (.int .i32 1) rfl) g3 (fun _ => by simp) (fun _ => by simp) (.int .i32 0)
  have hb3 : Below B0 w0 ((W.drew.setCell ⟨b, 0, none⟩ (.int .u32 1)).setCell ⟨b, 1, none⟩ (.int .i32 0)) := (g4.drew.setCell (p := ⟨b, 0, none⟩) hb _).setCell (p := ⟨b, 1, none⟩) hb _
  have c3 := blk_cell h3 3 (.iface 116 (.pointer (some ⟨r, 0, none⟩))) rfl
  have hlt3 := (Array.getElem?_eq_some_iff.1 h3).1
  clear g1 g2 g4 k0 k1 k2 k3 r1 r2 h1 h2 h3
  generalize (W.drew.setCell ⟨b, 0, none⟩ (.int .u32 1)).setCell ⟨b, 1, none⟩ (.int .i32 0) = W1 at *
  have hRp := Lib.hid (bsr_any r s hs W1 r3)
  have HB := Lib.hid hb3
  clear r3 hb3
  go_wp2_with fail
  refine hRp.out.mono ?_
  rintro e w2 ⟨rfl, hb2⟩
  go_wp2_with fail
  go_ret
  exact ⟨rfl, HB.out.trans (hb2.mono (by omega))⟩
set_option maxRecDepth 100000 in
set_option maxHeartbeats 4000000 in
theorem Escape_any (s : Txt) (hs : s.length ≤ 100000000) (w : World) :
    Calls Try.prog 19 #[.string (B s)] w fun e w' => e = .returned (.string (B (escL s))) ∧ Below w.heap.size w w' := by
  have hNew : Hid (∀ W, W = w.alloc (.cells #[.string (B [36]), .string (B [36, 36]), .string (B [32]), .string (B [36, 32]), .string (B [58]), .string (B [36, 58]), .string (B [124]), .string (B [36, 124])] 9) →
      Calls Try.prog 31 #[.slice (some ⟨w.heap.size, 0, none⟩) 8 8] W (NewPost W)) := by
    rintro W rfl
    refine NewReplacer_any (some ⟨w.heap.size, 0, none⟩) 8 _ ⟨rfl, by decide, fun _ => ⟨_, rfl, fun j p hj => ?_⟩⟩
    refine ⟨[.string p], rfl, rfl, fun i u hu => ?_⟩
    have hi : i = 0 := by have := (List.getElem?_eq_some_iff.1 hu).1; simp at this; omega
    subst hi
    have ha : ∀ q : Nat, (⟨w.heap.size, 0, none⟩ : Addr).add q = ⟨w.heap.size, q, none⟩ := fun q => by unfold Addr.add; by_cases hq : q = 0 <;> simp [hq]
    rw [ha, show j * Kd.string.sz + 0 = j by show j * 1 + 0 = j; omega, cell_of_heap (heap_alloc_new w _)]
    have hj8 : j < 8 := by have := (List.getElem?_eq_some_iff.1 hj).1; simpa [pairs] using this
    rcases (show j = 0 ∨ j = 1 ∨ j = 2 ∨ j = 3 ∨ j = 4 ∨ j = 5 ∨ j = 6 ∨ j = 7 by omega) with rfl | rfl | rfl | rfl | rfl | rfl | rfl | rfl <;>
      (cases hj; cases hu; rfl)
  go_enter Try.func19, Try.ntmps19
  go_wp2_with fail
  refine (hNew.out _ rfl).mono ?_
  rintro e w1 ⟨b, g, q, rfl, hb, hF, hb1⟩
  have hbw : w.heap.size ≤ b := by simp at hb; omega
  have hB1 : Below w.heap.size w w1 := ((Below.refl _ w).alloc (Nat.le_refl _) _).trans (hb1.mono (by simp))
  have hRe := Lib.hid (Replace_any w.heap.size w b g q s hs w1 hF hB1 hbw)
  clear hF hB1 hb1 hb
  go_wp2_with fail
  refine hRe.out.mono ?_
  rintro e w2 ⟨rfl, hb2⟩
  go_wp2_with fail
  go_ret
  exact ⟨rfl, hb2⟩
end Go.Proofs.Ytlpjhpdgjeiioaa.Rep
