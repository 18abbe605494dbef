/- (*strings.byteStringReplacer).Replace at the four bytes that scope.Escape replaces. -/
import Derived.Test.YtlpjhpdgjeiioaaEscPlain
import Derived.Test.YtlpjhpdgjeiioaaShelf
import Derived.Test.YtlpjhpdgjeiioaaRegG
import Derived.Lib.SlBuf
import Derived.Laws.Cover3
import Derived.Laws.BitsLemmas
import Derived.Deep.OwnRows
import Derived.Laws.BytesArg
set_option linter.unusedSimpArgs false
set_option linter.unusedVariables false
namespace Go.Proofs.Ytlpjhpdgjeiioaa.Sc
open Go.RowKit Go.Lib Go.Shelf Go.Proofs.YtlpjhpdgjeiioaaW.PrintWords Go.Proofs.Ytlpjhpdgjeiioaa.U Go.Proofs.Ytlpjhpdgjeiioaa.Idx

def olds : Txt := [124, 58, 32, 36]
/-- What a cell of the table holds. -/
def RepCell (w : World) (c : UInt8) (v : Value) : Prop :=
  if escB c = true then ∃ a cap, v = .slice (some a) 2 cap ∧ w.cell? a = some (.int .u8 36) ∧ w.cell? (a.add 1) = some (.int .u8 (c.toNat : Int)) else v = .slice none 0 0
structure RepAt (w : World) (r : Nat) : Prop where
  cell : ∀ c : UInt8, ∃ v, w.cell? ⟨r, c.toNat, none⟩ = some v ∧ RepCell w c v
  tr : ∃ a cap, w.cell? ⟨r, 256, none⟩ = some (.slice (some a) 4 cap) ∧ ∀ i, i < 4 → w.cell? (a.add i) = some (.string (B [olds.getD i 0]))
theorem RepAt.yes {w : World} {r : Nat} (h : RepAt w r) {c : UInt8} (hc : escB c = true) : ∃ a cap, w.cell? ⟨r, c.toNat, none⟩ = some (.slice (some a) 2 cap) ∧ HoldsBytes w (.slice (some a) 2 cap) [36, c] := by
  obtain ⟨v, h1, h2⟩ := h.cell c
  unfold RepCell at h2
  rw [if_pos hc] at h2
  obtain ⟨a, cap, rfl, g0, g1⟩ := h2
  refine ⟨a, cap, h1, some a, cap, rfl, fun e => (by cases e), fun a' e i x hx => ?_⟩
  cases e
  match i with
  | 0 => obtain rfl : 36 = x := by simpa using hx
         rw [show a.add 0 = a by simp [Addr.add]]; exact g0
  | 1 => obtain rfl : c = x := by simpa using hx
         exact g1
  | i + 2 => simp at hx
theorem RepAt.no {w : World} {r : Nat} (h : RepAt w r) {c : UInt8} (hc : ¬ escB c = true) : w.cell? ⟨r, c.toNat, none⟩ = some (.slice none 0 0) := by
  obtain ⟨v, h1, h2⟩ := h.cell c
  unfold RepCell at h2
  rw [if_neg hc] at h2
  rw [h1, h2]
theorem RepAt.same {w wr : World} {r : Nat} (h : RepAt w r) (e : ∀ a, wr.cell? a = w.cell? a) : RepAt wr r := by
  refine ⟨fun c => ?_, ?_⟩
  · obtain ⟨v, h1, h2⟩ := h.cell c
    refine ⟨v, (e _).trans h1, ?_⟩
    unfold RepCell at h2 ⊢
    split
    · rename_i hc
      rw [if_pos hc] at h2
      obtain ⟨a, cap, g0, g1, g2⟩ := h2
      exact ⟨a, cap, g0, (e _).trans g1, (e _).trans g2⟩
    · rename_i hc
      rw [if_neg hc] at h2
      exact h2
  · obtain ⟨a, cap, h1, h2⟩ := h.tr
    exact ⟨a, cap, (e _).trans h1, fun i hi => (e _).trans (h2 i hi)⟩
theorem byte_at (s : Txt) (i : Nat) (c : UInt8) (hi : i < s.length) (hc : s[i] = c) : ∀ h : i < (B s).size, (((B s)[i]'h).toNat : Int) = (c.toNat : Int) := by
  intro h; subst hc; rfl
theorem countP_take (s : Txt) (i : Nat) (hi : i < s.length) (c : UInt8) (hc : s[i] = c) : (s.take (i + 1)).countP escB = (s.take i).countP escB + if escB c = true then 1 else 0 := by
  rw [List.take_succ_eq_append_getElem hi, hc, List.countP_append, List.countP_cons, List.countP_nil, Nat.zero_add]
theorem infoU8 : (Try.prog.info? 5).map (fun i => (i.zero, i.size, i.bytes)) = some (some (.int .u8 0), 1, 1) := by kernel_rfl
theorem i64id (x : Int) (h0 : -9223372036854775808 ≤ x) (h1 : x ≤ 9223372036854775807) : IntKind.i64.wrap x = x := by rw [Go.IntKind.wrap_i64]; omega
theorem strNums (l : Txt) : strOfNums (Lib.numsL l) = B l := by
  unfold strOfNums Lib.numsL
  rw [List.map_map]
  have : ((fun n : Int => UInt8.ofNat n.toNat) ∘ fun x : UInt8 => (x.toNat : Int)) = id := by funext x; simp
  rw [this, List.map_id]
theorem cellsU8 : Try.prog.cellsOf 5 = 1 := by kernel_rfl
theorem sizeU8 (w : World) : (Go.sizeOf 5).run Try.prog w = .ok 1 w := by
  cases hq : Try.prog.info? 5 with
  | none => have h := infoU8; rw [hq] at h; cases h
  | some i => rw [run_sizeOf w hq, cellsU8]
theorem Buf.drew {w0 wr : World} {h N : Nat} {acc : List UInt8} (hb : Lib.Buf w0 wr h N acc) : Lib.Buf w0 wr.drew h N acc := ⟨hb.below.drew, hb.there, hb.free, hb.holds, hb.fits⟩
theorem Buf.push {w0 wr : World} {h N : Nat} {acc : List UInt8} (hb : Lib.Buf w0 wr h N acc) (hl : acc.length < N) (x : UInt8) : Lib.Buf w0 (wr.setCell ⟨h, acc.length, none⟩ (.int .u8 (x.toNat : Int))) h N (acc ++ [x]) := by
  obtain ⟨u, hu⟩ := Option.isSome_iff_exists.1 (hb.there acc.length hl)
  refine ⟨hb.below.setCell (p := ⟨h, acc.length, none⟩) (Nat.le_refl _) _, fun j hj => ?_, fun j hj => by rw [World.frozen?_setCell]; exact hb.free j hj, fun j y hy => ?_, by simp; omega⟩
  · by_cases hja : j = acc.length
    · subst hja; rw [World.cell?_setCell_same _ _ _ hu]; rfl
    · rw [World.cell?_setCell_other _ _ _ _ (by first | (simp; done) | (simp; omega))]; exact hb.there j hj
  · by_cases hja : j < acc.length
    · rw [List.getElem?_append_left hja] at hy
      rw [World.cell?_setCell_other _ _ _ _ (by first | (simp; done) | (simp; omega))]; exact hb.holds j y hy
    · have : j = acc.length := by have := (List.getElem?_eq_some_iff.1 hy).1; simp at this; omega
      subst this
      obtain rfl : x = y := by simpa using hy
      rw [World.cell?_setCell_same _ _ _ hu]
set_option maxRecDepth 100000 in
set_option maxHeartbeats 8000000 in
theorem bsr_small (r : Nat) (s : Txt) (hs : s.length < 32) (w : World) (hR : RepAt w r) :
    Calls Try.prog 113 #[.pointer (some ⟨r, 0, none⟩), .string (B s)] w fun e w' => e = .returned (.string (B (escL s))) ∧ Below w.heap.size w w' := by
  obtain ⟨n, hn⟩ : ∃ n, s.length = n := ⟨_, rfl⟩
  have z1 : (B s).size = n := by rw [size_B, hn]
  have hRH := Lib.hid hR
  obtain ⟨ta, tc, htr, -⟩ := hR.tr
  have t1 : decide ((32 : Int) ≤ (n : Int)) = false := by rw [decide_eq_false_iff_not]; omega
  clear hR
  go_enter Try.func113, Try.ntmps113
  go_wp2_with fail
  go_loopg [5, 6, 10] n (fun gk s5 s6 s10 wr => ∃ (i m : Nat) (b : Bool), s10 = .int .i64 (i : Int) ∧ i + gk = n ∧ s5 = .int .i64 ((n + m : Nat) : Int) ∧ s6 = .bool b ∧ Hid (m = (s.take i).countP escB) ∧ Hid (b = decide (0 < m)) ∧ m ≤ i ∧ w = wr)
  case atStart => exact ⟨0, 0, false, rfl, Nat.zero_add _, by simp, rfl, rfl, rfl, Nat.le_refl _, rfl⟩
  case round =>
    obtain ⟨i, m, b, rfl, hik, rfl, rfl, hm, hb, hmi, rfl⟩ := hrel
    cases gk with
    | zero =>
      obtain rfl : n = i := by omega
      have hlt : decide ((n : Int) < (n : Int)) = false := by simp
      have hm' : Hid (m = s.countP escB) := by have := hm.out; rwa [List.take_of_length_le (by omega)] at this
      clear hm
      have hm := hm'
      clear hm'
      have hBel : Hid (Below w.heap.size w w) := Below.refl _ _
      cases b with
      | false =>
        have hz : s.countP escB = 0 := by have := hm.out; have := hb.out; simp at this; omega
        have hes := escL_none s hz
        have hES := Lib.hid hes
        clear hes hz
        go_wp2_with fail
        go_ret
        exact ⟨by rw [hES.out]; rfl, hBel.out⟩
      | true =>
        have hN : (escL s).length = n + m := by rw [escL_len, hn, ← hm.out]
        have hmn : m ≤ n := by have := hm.out; have := List.countP_le_length (p := escB) (l := s); omega
        obtain ⟨N, hNN⟩ : ∃ N : Nat, n + m = N := ⟨_, rfl⟩
        rw [hNN] at hN
        have hc0 : ((n : Int) + (m : Int)) = (N : Int) := by omega
        have hmk : (Instr.makeSlice 44 (.int .i64 (N : Int)) (.int .i64 (N : Int))).run Try.prog w = .ok (.slice (some ⟨w.heap.size, 0, none⟩) N N) (w.alloc (.cells (madeCells #[.int .u8 0] N) 5)) :=
          run_make_row' (P := Try.prog) 44 5 (.int .u8 0) 1 Try.underlying44 infoU8 rfl .i64 .i64 N (by omega) (by omega) w
        have hBuf : Hid (Lib.Buf w (w.alloc (.cells (madeCells #[.int .u8 0] N) 5)) w.heap.size N []) := by
          have := Lib.Buf.start w (madeCells #[.int .u8 0] N) 5 N 0 (by rw [size_madeCells]; simp)
          exact this
        have hNH := Lib.hid hN
        clear hN hb hm
        go_wp2_with fail
        go_loopg [13, 14] n (fun gk s13 s14 wr => ∃ i : Nat, s14 = .int .i64 (i : Int) ∧ i + gk = n ∧ s13 = .int .i64 ((escL (s.take i)).length : Int) ∧ Hid (Lib.Buf w wr w.heap.size N (escL (s.take i))))
        case atStart => exact ⟨0, rfl, Nat.zero_add _, rfl, hBuf⟩
        case round =>
          obtain ⟨i, rfl, hik, rfl, hB⟩ := hrel
          clear hBuf hmk
          cases gk with
          | zero =>
            obtain rfl : i = n := by omega
            have hlt : decide ((i : Int) < (i : Int)) = false := by simp
            rw [List.take_of_length_le (show s.length ≤ i by omega)] at hB ⊢
            have hconv := run_convert_bytes_arg (P := Try.prog) wr 44 5 Try.underlying44 Try.underlying5 w.heap.size 0 N N (Lib.numsL (escL s)) (by rw [Lib.numsL_length, hNH.out])
              (fun j hj => by
                have hj' : j < (escL s).length := by rw [hNH.out]; exact hj
                rw [Nat.zero_add, hB.out.holds j _ (List.getElem?_eq_getElem hj')]
                simp [Lib.numsL, List.getD_eq_getElem?_getD, hj']) 9 Try.underlying9
            rw [show strOfNums (Lib.numsL (escL s)) = B (escL s) from strNums _] at hconv
            go_wp2_with fail
            go_ret
            exact ⟨rfl, hBel.out.next hB.out.below⟩
          | succ gk =>
            have hin : i < s.length := by omega
            have hlt : decide ((i : Int) < (n : Int)) = true := by rw [decide_eq_true_iff]; omega
            obtain ⟨c, hc⟩ : ∃ c, s[i] = c := ⟨_, rfl⟩
            have h0 := byte_at s i c hin hc
            have htk : s.take (i + 1) = s.take i ++ [c] := by rw [List.take_succ_eq_append_getElem hin, hc]
            have hfit : (escL (s.take (i + 1))).length ≤ N := by
              have h1 : escL s = escL (s.take (i + 1)) ++ escL (s.drop (i + 1)) := by rw [← escL_app, List.take_append_drop]
              have h2 := hNH.out
              rw [h1, List.length_append] at h2
              omega
            have hesc : escL (s.take (i + 1)) = escL (s.take i) ++ escL [c] := by rw [htk, escL_app]
            rw [hesc, List.length_append] at hfit
            have hES := Lib.hid hesc
            have hc256 := c.toNat_lt
            clear hesc htk
            obtain ⟨acc, hacc⟩ : ∃ acc, escL (s.take i) = acc := ⟨_, rfl⟩
            rw [hacc] at hfit hB hES ⊢
            clear hacc
            by_cases he : escB c = true
            · obtain ⟨a, cap, g0, g1⟩ := hRH.out.yes he
              rw [escL_one, if_pos he] at hfit hES
              have hne : ∀ W, (binOp .neq 44 (.slice (some a) 2 cap) (.slice none 0 0)).run Try.prog W = .ok (.bool true) W := fun W => Go.run_neq_slice_nil W 44 5 (some a) 2 cap Try.underlying44
              have g2 : wr.cell? ⟨r, c.toNat, none⟩ = some (.slice (some a) 2 cap) := Lib.Below.cellOf hB.out.below g0 (Nat.le_refl _)
              have hsl : ∀ W, (Instr.slice 44 (.slice (some ⟨w.heap.size, 0, none⟩) N N) (some (.int .i64 (acc.length : Int))) none none).run Try.prog W = .ok (Lib.tailV w.heap.size N acc.length) W := fun W => Lib.run_slice_tailV W 44 5 Try.underlying44 sizeU8 _ N acc.length (by omega)
              obtain ⟨w2, hr2, B2⟩ := Lib.copy_part (P := Try.prog) w wr.drew w.heap.size N acc [36, c] (.slice (some a) 2 cap) 44 3 5 Try.underlying44 (by kernel_rfl) (Nat.le_refl _) (Buf.drew hB.out) g1 (by simpa using hfit)
              have g3 : w2.cell? ⟨r, c.toNat, none⟩ = some (.slice (some a) 2 cap) := Lib.Below.cellOf B2.below g0 (Nat.le_refl _)
              have HB2 := Lib.hid B2
              have hb0 : (0 : Int) ≤ (c.toNat : Int) := by omega
              have hb1 : (c.toNat : Int) < 256 := by omega
              have hb2 : (acc.length : Int) ≤ (N : Int) := by omega
              have hwr : IntKind.i64.wrap ((acc.length : Int) + 2) = (acc.length : Int) + 2 := i64id ((acc.length : Int) + 2) (by omega) (by omega)
              have hb3 : (0 : Int) ≤ (acc.length : Int) := by omega
              clear B2 g0
              have hHB := Lib.hid g1
              clear g1
              go_wp2_with fail
              go_region_held3 (fun w' => w'.cell? ⟨r, c.toNat, none⟩ = some (.slice (some a) 2 cap)) (go_keep) (first | (at_builtin; refine Lib.wp_copy_run _ _ _ 44 44 rfl _ _ rfl rfl hr2 ?_) | (refine Lib.wp_copy_run _ _ _ 44 44 rfl _ _ rfl rfl hr2 ?_))
              go_wp2_with fail
              go_roundg gk
              case measure => omega
              case rel => exact ⟨i + 1, by first | rfl | simp, by omega, by rw [hES.out]; simp, by rw [hES.out]; exact HB2⟩
            · have g0 := hRH.out.no he
              rw [escL_one, if_neg he] at hfit hES
              have hne : ∀ W, (binOp .neq 44 (.slice none 0 0) (.slice none 0 0)).run Try.prog W = .ok (.bool false) W := fun W => Go.run_neq_slice_nil W 44 5 none 0 0 Try.underlying44
              have g2 : wr.cell? ⟨r, c.toNat, none⟩ = some (.slice none 0 0) := Lib.Below.cellOf hB.out.below g0 (Nat.le_refl _)
              have hfit' : acc.length < N := by have := hfit; simp at this; omega
              obtain ⟨v0, f0⟩ := Option.isSome_iff_exists.1 (hB.out.there acc.length hfit')
              have f1 := hB.out.free acc.length hfit'
              have hlt2 : decide ((acc.length : Int) < (N : Int)) = true := by rw [decide_eq_true_iff]; omega
              have HB2 := Lib.hid (Buf.push hB.out hfit' c)
              clear g0
              go_wp2_with fail
              go_roundg gk
              case measure => omega
              case rel => exact ⟨i + 1, by first | rfl | simp, by omega, by rw [hES.out]; simp, by rw [hES.out]; exact HB2⟩
    | succ gk =>
      have hin : i < s.length := by omega
      have hlt : decide ((i : Int) < (n : Int)) = true := by rw [decide_eq_true_iff]; omega
      obtain ⟨c, hc⟩ : ∃ c, s[i] = c := ⟨_, rfl⟩
      have h0 := byte_at s i c hin hc
      have hcp := countP_take s i hin c hc
      have hc256 := c.toNat_lt
      by_cases he : escB c = true
      · obtain ⟨a, cap, g0, g1⟩ := hRH.out.yes he
        have hne : ∀ W, (binOp .neq 44 (.slice (some a) 2 cap) (.slice none 0 0)).run Try.prog W = .ok (.bool true) W := fun W => Go.run_neq_slice_nil W 44 5 (some a) 2 cap Try.underlying44
        rw [if_pos he, ← hm.out] at hcp
        have hCP := Lib.hid hcp
        clear hcp g1
        go_wp2_with fail
        go_roundg gk
        case measure => omega
        case rel => exact ⟨i + 1, m + 1, true, by first | rfl | simp, by omega, by first | rfl | (simp; done) | (congr 1; omega), rfl, hCP.out.symm, (by show true = _; simp), by omega, rfl⟩
      · have g0 := hRH.out.no he
        have hne : ∀ W, (binOp .neq 44 (.slice none 0 0) (.slice none 0 0)).run Try.prog W = .ok (.bool false) W := fun W => Go.run_neq_slice_nil W 44 5 none 0 0 Try.underlying44
        rw [if_neg he, ← hm.out] at hcp
        have hCP := Lib.hid hcp
        clear hcp
        go_wp2_with fail
        go_roundg gk
        case measure => omega
        case rel => exact ⟨i + 1, m, b, by first | rfl | simp, by omega, rfl, rfl, hCP.out.symm, hb, by omega, rfl⟩
def cntTo (s : Txt) (i : Nat) : Nat := ((olds.take i).map fun c => s.count c).sum
theorem cntTo_succ (s : Txt) (i : Nat) (hi : i < 4) : cntTo s (i + 1) = cntTo s i + s.count (olds.getD i 0) := by
  rcases (show i = 0 ∨ i = 1 ∨ i = 2 ∨ i = 3 by omega) with rfl | rfl | rfl | rfl <;> simp [cntTo, olds] <;> omega
theorem cntTo_all (s : Txt) : cntTo s 4 = s.countP escB := by rw [count4]; simp [cntTo, olds]; omega
theorem cntTo_le (s : Txt) (i : Nat) (hi : i ≤ 4) : cntTo s i ≤ s.length := by
  have h1 : cntTo s 4 ≤ s.length := by rw [cntTo_all]; exact List.countP_le_length
  have h2 : ∀ j, j < 4 → cntTo s j ≤ cntTo s (j + 1) := fun j hj => by rw [cntTo_succ s j hj]; omega
  have a0 := h2 0 (by omega)
  have a1 := h2 1 (by omega)
  have a2 := h2 2 (by omega)
  have a3 := h2 3 (by omega)
  simp only [Nat.zero_add, Nat.reduceAdd] at a0 a1 a2 a3
  rcases (show i = 0 ∨ i = 1 ∨ i = 2 ∨ i = 3 ∨ i = 4 by omega) with rfl | rfl | rfl | rfl | rfl <;> omega
theorem olds_esc (i : Nat) (hi : i < 4) : escB (olds.getD i 0) = true := by
  rcases (show i = 0 ∨ i = 1 ∨ i = 2 ∨ i = 3 by omega) with rfl | rfl | rfl | rfl <;> decide
set_option maxRecDepth 100000 in
set_option maxHeartbeats 8000000 in
theorem bsr_big (r : Nat) (s : Txt) (hs : 32 ≤ s.length) (hs2 : s.length ≤ 100000000) (w : World) (hR : RepAt w r) :
    Calls Try.prog 113 #[.pointer (some ⟨r, 0, none⟩), .string (B s)] w fun e w' => e = .returned (.string (B (escL s))) ∧ Below w.heap.size w w' := by
  obtain ⟨n, hn⟩ : ∃ n, s.length = n := ⟨_, rfl⟩
  have z1 : (B s).size = n := by rw [size_B, hn]
  have hRH := Lib.hid hR
  obtain ⟨ta, tc, htr, hcell⟩ := hR.tr
  have hTC := Lib.hid hcell
  have t1 : decide ((32 : Int) ≤ (n : Int)) = true := by rw [decide_eq_true_iff]; omega
  clear hR hcell
  go_enter Try.func113, Try.ntmps113
  go_wp2_with fail
  go_loopg [5, 6, 32] 4 (fun gk s5 s6 s32 wo => ∃ (i m : Nat) (b : Bool), s32 = .int .i64 (i : Int) ∧ i + gk = 4 ∧ s5 = .int .i64 ((n + m : Nat) : Int) ∧ s6 = .bool b ∧ Hid (m = cntTo s i) ∧ Hid (b = decide (0 < m)) ∧ m ≤ n ∧ Hid (∀ a, wo.cell? a = w.cell? a) ∧ Hid (Below w.heap.size w wo))
  case atStart => exact ⟨0, 0, false, rfl, rfl, by simp, rfl, rfl, rfl, Nat.zero_le _, fun _ => rfl, Below.refl _ _⟩
  case round =>
    obtain ⟨wo, hwo⟩ : ∃ x, x = wr := ⟨_, rfl⟩
    subst hwo
    obtain ⟨i, m, b, rfl, hik, rfl, rfl, hm, hb, hmi, hE, hBel⟩ := hrel
    have hRW := Lib.hid (hRH.out.same hE.out)
    clear hRH
    have hRH := hRW
    clear hRW
    cases gk with
    | zero =>
      obtain rfl : i = 4 := by omega
      have hm' : Hid (m = s.countP escB) := by have := hm.out; rwa [cntTo_all] at this
      clear hm
      have hm := hm'
      clear hm'
      cases b with
      | false =>
        have hz : s.countP escB = 0 := by have := hm.out; have := hb.out; simp at this; omega
        have hes := escL_none s hz
        have hES := Lib.hid hes
        clear hes hz
        go_wp2_with fail
        go_ret
        exact ⟨by rw [hES.out]; rfl, hBel.out⟩
      | true =>
        have hN : (escL s).length = n + m := by rw [escL_len, hn, ← hm.out]
        have hmn : m ≤ n := by have := hm.out; have := List.countP_le_length (p := escB) (l := s); omega
        obtain ⟨N, hNN⟩ : ∃ N : Nat, n + m = N := ⟨_, rfl⟩
        rw [hNN] at hN
        have hc0 : ((n : Int) + (m : Int)) = (N : Int) := by omega
        have hmk : (Instr.makeSlice 44 (.int .i64 (N : Int)) (.int .i64 (N : Int))).run Try.prog wo = .ok (.slice (some ⟨wo.heap.size, 0, none⟩) N N) (wo.alloc (.cells (madeCells #[.int .u8 0] N) 5)) :=
          run_make_row' (P := Try.prog) 44 5 (.int .u8 0) 1 Try.underlying44 infoU8 rfl .i64 .i64 N (by omega) (by omega) wo
        have hBuf : Hid (Lib.Buf wo (wo.alloc (.cells (madeCells #[.int .u8 0] N) 5)) wo.heap.size N []) := by
          have := Lib.Buf.start wo (madeCells #[.int .u8 0] N) 5 N 0 (by rw [size_madeCells]; simp)
          exact this
        have hNH := Lib.hid hN
        clear hN hb hm
        go_wp2_with fail
        go_loopg [13, 14] n (fun gk s13 s14 wr => ∃ i : Nat, s14 = .int .i64 (i : Int) ∧ i + gk = n ∧ s13 = .int .i64 ((escL (s.take i)).length : Int) ∧ Hid (Lib.Buf wo wr wo.heap.size N (escL (s.take i))))
        case atStart => exact ⟨0, rfl, Nat.zero_add _, rfl, hBuf⟩
        case round =>
          obtain ⟨i, rfl, hik, rfl, hB⟩ := hrel
          clear hBuf hmk
          cases gk with
          | zero =>
            obtain rfl : i = n := by omega
            have hlt : decide ((i : Int) < (i : Int)) = false := by simp
            rw [List.take_of_length_le (show s.length ≤ i by omega)] at hB ⊢
            have hconv := run_convert_bytes_arg (P := Try.prog) wr 44 5 Try.underlying44 Try.underlying5 wo.heap.size 0 N N (Lib.numsL (escL s)) (by rw [Lib.numsL_length, hNH.out])
              (fun j hj => by
                have hj' : j < (escL s).length := by rw [hNH.out]; exact hj
                rw [Nat.zero_add, hB.out.holds j _ (List.getElem?_eq_getElem hj')]
                simp [Lib.numsL, List.getD_eq_getElem?_getD, hj']) 9 Try.underlying9
            rw [show strOfNums (Lib.numsL (escL s)) = B (escL s) from strNums _] at hconv
            go_wp2_with fail
            go_ret
            exact ⟨rfl, hBel.out.next hB.out.below⟩
          | succ gk =>
            have hin : i < s.length := by omega
            have hlt : decide ((i : Int) < (n : Int)) = true := by rw [decide_eq_true_iff]; omega
            obtain ⟨c, hc⟩ : ∃ c, s[i] = c := ⟨_, rfl⟩
            have h0 := byte_at s i c hin hc
            have htk : s.take (i + 1) = s.take i ++ [c] := by rw [List.take_succ_eq_append_getElem hin, hc]
            have hfit : (escL (s.take (i + 1))).length ≤ N := by
              have h1 : escL s = escL (s.take (i + 1)) ++ escL (s.drop (i + 1)) := by rw [← escL_app, List.take_append_drop]
              have h2 := hNH.out
              rw [h1, List.length_append] at h2
              omega
            have hesc : escL (s.take (i + 1)) = escL (s.take i) ++ escL [c] := by rw [htk, escL_app]
            rw [hesc, List.length_append] at hfit
            have hES := Lib.hid hesc
            have hc256 := c.toNat_lt
            clear hesc htk
            obtain ⟨acc, hacc⟩ : ∃ acc, escL (s.take i) = acc := ⟨_, rfl⟩
            rw [hacc] at hfit hB hES ⊢
            clear hacc
            by_cases he : escB c = true
            · obtain ⟨a, cap, g0, g1⟩ := hRH.out.yes he
              rw [escL_one, if_pos he] at hfit hES
              have hne : ∀ W, (binOp .neq 44 (.slice (some a) 2 cap) (.slice none 0 0)).run Try.prog W = .ok (.bool true) W := fun W => Go.run_neq_slice_nil W 44 5 (some a) 2 cap Try.underlying44
              have g2 : wr.cell? ⟨r, c.toNat, none⟩ = some (.slice (some a) 2 cap) := Lib.Below.cellOf hB.out.below g0 (Nat.le_refl _)
              have hsl : ∀ W, (Instr.slice 44 (.slice (some ⟨wo.heap.size, 0, none⟩) N N) (some (.int .i64 (acc.length : Int))) none none).run Try.prog W = .ok (Lib.tailV wo.heap.size N acc.length) W := fun W => Lib.run_slice_tailV W 44 5 Try.underlying44 sizeU8 _ N acc.length (by omega)
              obtain ⟨w2, hr2, B2⟩ := Lib.copy_part (P := Try.prog) wo wr.drew wo.heap.size N acc [36, c] (.slice (some a) 2 cap) 44 3 5 Try.underlying44 (by kernel_rfl) (Nat.le_refl _) (Buf.drew hB.out) g1 (by simpa using hfit)
              have g3 : w2.cell? ⟨r, c.toNat, none⟩ = some (.slice (some a) 2 cap) := Lib.Below.cellOf B2.below g0 (Nat.le_refl _)
              have HB2 := Lib.hid B2
              have hb0 : (0 : Int) ≤ (c.toNat : Int) := by omega
              have hb1 : (c.toNat : Int) < 256 := by omega
              have hb2 : (acc.length : Int) ≤ (N : Int) := by omega
              have hwr : IntKind.i64.wrap ((acc.length : Int) + 2) = (acc.length : Int) + 2 := i64id ((acc.length : Int) + 2) (by omega) (by omega)
              have hb3 : (0 : Int) ≤ (acc.length : Int) := by omega
              clear B2 g0
              have hHB := Lib.hid g1
              clear g1
              go_wp2_with fail
              go_region_held3 (fun wo' => wo'.cell? ⟨r, c.toNat, none⟩ = some (.slice (some a) 2 cap)) (go_keep) (first | (at_builtin; refine Lib.wp_copy_run _ _ _ 44 44 rfl _ _ rfl rfl hr2 ?_) | (refine Lib.wp_copy_run _ _ _ 44 44 rfl _ _ rfl rfl hr2 ?_))
              go_wp2_with fail
              go_roundg gk
              case measure => omega
              case rel => exact ⟨i + 1, by first | rfl | simp, by omega, by rw [hES.out]; simp, by rw [hES.out]; exact HB2⟩
            · have g0 := hRH.out.no he
              rw [escL_one, if_neg he] at hfit hES
              have hne : ∀ W, (binOp .neq 44 (.slice none 0 0) (.slice none 0 0)).run Try.prog W = .ok (.bool false) W := fun W => Go.run_neq_slice_nil W 44 5 none 0 0 Try.underlying44
              have g2 : wr.cell? ⟨r, c.toNat, none⟩ = some (.slice none 0 0) := Lib.Below.cellOf hB.out.below g0 (Nat.le_refl _)
              have hfit' : acc.length < N := by have := hfit; simp at this; omega
              obtain ⟨v0, f0⟩ := Option.isSome_iff_exists.1 (hB.out.there acc.length hfit')
              have f1 := hB.out.free acc.length hfit'
              have hlt2 : decide ((acc.length : Int) < (N : Int)) = true := by rw [decide_eq_true_iff]; omega
              have HB2 := Lib.hid (Buf.push hB.out hfit' c)
              clear g0
              go_wp2_with fail
              go_roundg gk
              case measure => omega
              case rel => exact ⟨i + 1, by first | rfl | simp, by omega, by rw [hES.out]; simp, by rw [hES.out]; exact HB2⟩
    | succ gk =>
      have hi4 : i < 4 := by omega
      have hlt : decide ((i : Int) < 4) = true := by rw [decide_eq_true_iff]; omega
      have hi0 : (0 : Int) ≤ (i : Int) := by omega
      have hi1 : (i : Int) < 4 := by omega
      obtain ⟨c, hc⟩ : ∃ c, olds.getD i 0 = c := ⟨_, rfl⟩
      have he := olds_esc i hi4
      have hcell := (hE.out _).trans (hTC.out i hi4)
      have hcn := cntTo_succ s i hi4
      have hle := cntTo_le s (i + 1) hi4
      rw [hc] at he hcell hcn
      rw [hcn, ← hm.out, hn] at hle
      rw [← hm.out] at hcn
      have hCN := Lib.hid hcn
      have hCt := Lib.hid (fun W => Try.strings_Count_one (B s) c W)
      have ecb : Lib.countByte (B s).data.toList c = s.count c := rfl
      rw [ecb] at hCt
      have hbc : (⟨#[c]⟩ : ByteArray) = B [c] := rfl
      rw [hbc] at hCt
      obtain ⟨q, hq⟩ : ∃ q, s.count c = q := ⟨_, rfl⟩
      rw [hq] at hCt hCN hle
      obtain ⟨a, cap, g0, g1⟩ := hRH.out.yes he
      have hc256 := c.toNat_lt
      have hb0 : (0 : Int) ≤ (c.toNat : Int) := by omega
      have hb1 : (c.toNat : Int) < 256 := by omega
      have h0 : ∀ h : 0 < (B [c]).size, (((B [c])[0]'h).toNat : Int) = (c.toNat : Int) := fun h => rfl
      have hsz1 : (B [c]).size = 1 := rfl
      have htr2 := (hE.out _).trans htr
      clear hcn ecb hbc hc he hq g1
      go_wp2_with fail
      refine (hCt.out _).mono ?_
      rintro e w1 ⟨rfl, rfl⟩
      cases q with
      | zero =>
        go_wp2_with fail
        go_roundg gk
        case measure => omega
        case rel => exact ⟨i + 1, m, b, by first | rfl | simp, by omega, rfl, rfl, hCN.out.symm, hb, by omega, hE, hBel⟩
      | succ q =>
        have hq0 : ((((q + 1 : Nat) : Int)) == 0) = false := by rw [beq_eq_false_iff_ne]; omega
        have hq1 : ((((q + 1 : Nat) : Int)) != 0) = true := by rw [bne_iff_ne]; omega
        have hw0 : IntKind.i64.wrap 1 = 1 := i64id 1 (by decide) (by decide)
        have hw1 : IntKind.i64.wrap ((q : Int) + 1) = (q : Int) + 1 := i64id ((q : Int) + 1) (by omega) (by omega)
        have hw2 : IntKind.i64.wrap ((n : Int) + (m : Int) + ((q : Int) + 1)) = (n : Int) + (m : Int) + ((q : Int) + 1) := i64id ((n : Int) + (m : Int) + ((q : Int) + 1)) (by omega) (by omega)
        go_wp2_with fail
        go_region_held3 (fun w' => w'.cell? ⟨r, c.toNat, none⟩ = some (.slice (some a) 2 cap)) (go_keep) (fail)
        go_wp2_with fail
        go_roundg gk
        case measure => omega
        case rel => exact ⟨i + 1, m + (q + 1), true, by first | rfl | simp, by omega, by first | rfl | (simp; done) | (congr 1; omega) | (congr 1; push_cast; omega), rfl, hCN.out.symm, (by show true = _; symm; rw [decide_eq_true_iff]; omega), by omega, hE, hBel.out.drew⟩
end Go.Proofs.Ytlpjhpdgjeiioaa.Sc
