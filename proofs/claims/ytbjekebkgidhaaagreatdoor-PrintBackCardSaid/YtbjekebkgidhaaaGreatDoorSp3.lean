/- Laid together by wip/tools/shake.py from texts of this claim: RepF, NewRep, RepBuild, Escape, PrEscape, PrItoa, PPrintEdge0, PrEdgeL, PrPrint, LinesA, LinesB, LinesC, Lex, MfSpec, MfGood, MfMany, MfBack, MfBackB, MfBackC, MfBackD, MfOk, MfExp, MapV, MfRead, MfPaths, MfSet. -/
import Derived.Test.YtbjekebkgidhaaaGreatDoorSp2
import Derived.Lib.SlBuf
import Derived.Laws.Cover3
import Derived.Laws.BitsLemmas
import Derived.Deep.OwnRows
import Derived.Laws.BytesArg
import Derived.OwnWalk
import Derived.Laws.AppendOwn
import Derived.Deep.AppendLies
import Derived.Laws.Tables
import Derived.Laws.CopyOwn
import Derived.Lib.BufferMore
import Derived.Lib.ConvBytes
import Derived.WalkSmall
import Derived.WalkKit
import Derived.Lib.Hide
import Derived.Lib.TrimByte
import Derived.Lib.Split
import Derived.Lib.SplitLaws
import Derived.Lib.IndexBytes
import Derived.Lib.ItoaNum
import Derived.WideKeyEntry
import Derived.WalkLawsBesides
section
set_option linter.unusedSimpArgs false
set_option linter.unusedVariables false
namespace Go.Proofs.YtbjekebkgidhaaaGreatDoor.Sc
open Go.RowKit Go.Lib Go.Shelf Go.Proofs.YtbjekebkgidhaaaGreatDoorW.PrintWords Go.Proofs.YtbjekebkgidhaaaGreatDoor.U Go.Proofs.YtbjekebkgidhaaaGreatDoor.Idx
def olds : Txt := [124, 58, 32, 36]
def RepCell (w : World) (c : UInt8) (v : Value) : Prop :=
  if escB c = true then ∃ a cap, v = .slice (some a) 2 cap ∧ w.cell? a = some (.int .u8 36) ∧ w.cell? (a.add 1) = some (.int .u8 (c.toNat : Int)) else v = .slice none 0 0
structure RepAt (w : World) (r : Nat) : Prop where
  cell : ∀ c : UInt8, ∃ v, w.cell? ⟨r, c.toNat, none⟩ = some v ∧ RepCell w c v
  tr : ∃ a cap, w.cell? ⟨r, 256, none⟩ = some (.slice (some a) 4 cap) ∧ ∀ i, i < 4 → w.cell? (a.add i) = some (.string (B [olds.getD i 0]))
theorem RepAt.yes {w : World} {r : Nat} (h : RepAt w r) {c : UInt8} (hc : escB c = true) : ∃ a cap, w.cell? ⟨r, c.toNat, none⟩ = some (.slice (some a) 2 cap) ∧ HoldsBytes w (.slice (some a) 2 cap) [36, c] := by
  obtain ⟨v, h1, h2⟩ := h.cell c
  unfold RepCell at h2
  rw [if_pos hc] at h2
  obtain ⟨a, cap, rfl, g0, g1⟩ := h2
  refine ⟨a, cap, h1, some a, cap, rfl, fun e => (by cases e), fun a' e i x hx => ?_⟩
  cases e
  match i with
  | 0 => obtain rfl : 36 = x := by simpa using hx
         rw [show a.add 0 = a by simp [Addr.add]]; exact g0
  | 1 => obtain rfl : c = x := by simpa using hx
         exact g1
  | i + 2 => simp at hx
theorem RepAt.no {w : World} {r : Nat} (h : RepAt w r) {c : UInt8} (hc : ¬ escB c = true) : w.cell? ⟨r, c.toNat, none⟩ = some (.slice none 0 0) := by
  obtain ⟨v, h1, h2⟩ := h.cell c
  unfold RepCell at h2
  rw [if_neg hc] at h2
  rw [h1, h2]
theorem RepAt.same {w wr : World} {r : Nat} (h : RepAt w r) (e : ∀ a, wr.cell? a = w.cell? a) : RepAt wr r := by
  refine ⟨fun c => ?_, ?_⟩
  · obtain ⟨v, h1, h2⟩ := h.cell c
    refine ⟨v, (e _).trans h1, ?_⟩
    unfold RepCell at h2 ⊢
    split
    · rename_i hc
      rw [if_pos hc] at h2
      obtain ⟨a, cap, g0, g1, g2⟩ := h2
      exact ⟨a, cap, g0, (e _).trans g1, (e _).trans g2⟩
    · rename_i hc
      rw [if_neg hc] at h2
      exact h2
  · obtain ⟨a, cap, h1, h2⟩ := h.tr
    exact ⟨a, cap, (e _).trans h1, fun i hi => (e _).trans (h2 i hi)⟩
theorem byte_at (s : Txt) (i : Nat) (c : UInt8) (hi : i < s.length) (hc : s[i] = c) : ∀ h : i < (B s).size, (((B s)[i]'h).toNat : Int) = (c.toNat : Int) := by
  intro h; subst hc; rfl
theorem countP_take (s : Txt) (i : Nat) (hi : i < s.length) (c : UInt8) (hc : s[i] = c) : (s.take (i + 1)).countP escB = (s.take i).countP escB + if escB c = true then 1 else 0 := by
  rw [List.take_succ_eq_append_getElem hi, hc, List.countP_append, List.countP_cons, List.countP_nil, Nat.zero_add]
theorem infoU8 : (Tryz.prog.info? 5).map (fun i => (i.zero, i.size, i.bytes)) = some (some (.int .u8 0), 1, 1) := by kernel_rfl
theorem i64id (x : Int) (h0 : -9223372036854775808 ≤ x) (h1 : x ≤ 9223372036854775807) : IntKind.i64.wrap x = x := by rw [Go.IntKind.wrap_i64]; omega
theorem strNums (l : Txt) : strOfNums (Lib.numsL l) = B l := by
  unfold strOfNums Lib.numsL
  rw [List.map_map]
  have : ((fun n : Int => UInt8.ofNat n.toNat) ∘ fun x : UInt8 => (x.toNat : Int)) = id := by funext x; simp
  rw [this, List.map_id]
theorem cellsU8 : Tryz.prog.cellsOf 5 = 1 := by kernel_rfl
theorem sizeU8 (w : World) : (Go.sizeOf 5).run Tryz.prog w = .ok 1 w := by
  cases hq : Tryz.prog.info? 5 with
  | none => have h := infoU8; rw [hq] at h; cases h
  | some i => rw [run_sizeOf w hq, cellsU8]
theorem Buf.drew {w0 wr : World} {h N : Nat} {acc : List UInt8} (hb : Lib.Buf w0 wr h N acc) : Lib.Buf w0 wr.drew h N acc := ⟨hb.below.drew, hb.there, hb.free, hb.holds, hb.fits⟩
theorem Buf.push {w0 wr : World} {h N : Nat} {acc : List UInt8} (hb : Lib.Buf w0 wr h N acc) (hl : acc.length < N) (x : UInt8) : Lib.Buf w0 (wr.setCell ⟨h, acc.length, none⟩ (.int .u8 (x.toNat : Int))) h N (acc ++ [x]) := by
  obtain ⟨u, hu⟩ := Option.isSome_iff_exists.1 (hb.there acc.length hl)
  refine ⟨hb.below.setCell (p := ⟨h, acc.length, none⟩) (Nat.le_refl _) _, fun j hj => ?_, fun j hj => by rw [World.frozen?_setCell]; exact hb.free j hj, fun j y hy => ?_, by simp; omega⟩
  · by_cases hja : j = acc.length
    · subst hja; rw [World.cell?_setCell_same _ _ _ hu]; rfl
    · rw [World.cell?_setCell_other _ _ _ _ (by first | (simp; done) | (simp; omega))]; exact hb.there j hj
  · by_cases hja : j < acc.length
    · rw [List.getElem?_append_left hja] at hy
      rw [World.cell?_setCell_other _ _ _ _ (by first | (simp; done) | (simp; omega))]; exact hb.holds j y hy
    · have : j = acc.length := by have := (List.getElem?_eq_some_iff.1 hy).1; simp at this; omega
      subst this
      obtain rfl : x = y := by simpa using hy
      rw [World.cell?_setCell_same _ _ _ hu]
set_option maxRecDepth 100000 in
set_option maxHeartbeats 8000000 in
theorem bsr_small (r : Nat) (s : Txt) (hs : s.length < 32) (w : World) (hR : RepAt w r) :
    Calls Tryz.prog 194 #[.pointer (some ⟨r, 0, none⟩), .string (B s)] w fun e w' => e = .returned (.string (B (escL s))) ∧ Below w.heap.size w w' := by
  obtain ⟨n, hn⟩ : ∃ n, s.length = n := ⟨_, rfl⟩
  have z1 : (B s).size = n := by rw [size_B, hn]
  have hRH := Lib.hid hR
  obtain ⟨ta, tc, htr, -⟩ := hR.tr
  have t1 : decide ((32 : Int) ≤ (n : Int)) = false := by rw [decide_eq_false_iff_not]; omega
  clear hR
  go_enter Tryz.func194, Tryz.ntmps194
  go_wp2_with fail
  go_loopg [5, 6, 10] n (fun gk s5 s6 s10 wr => ∃ (i m : Nat) (b : Bool), s10 = .int .i64 (i : Int) ∧ i + gk = n ∧ s5 = .int .i64 ((n + m : Nat) : Int) ∧ s6 = .bool b ∧ Hid (m = (s.take i).countP escB) ∧ Hid (b = decide (0 < m)) ∧ m ≤ i ∧ w = wr)
  case atStart => exact ⟨0, 0, false, rfl, Nat.zero_add _, by simp, rfl, rfl, rfl, Nat.le_refl _, rfl⟩
  case round =>
    obtain ⟨i, m, b, rfl, hik, rfl, rfl, hm, hb, hmi, rfl⟩ := hrel
    cases gk with
    | zero =>
      obtain rfl : n = i := by omega
      have hlt : decide ((n : Int) < (n : Int)) = false := by simp
      have hm' : Hid (m = s.countP escB) := by have := hm.out; rwa [List.take_of_length_le (by omega)] at this
      clear hm
      have hm := hm'
      clear hm'
      have hBel : Hid (Below w.heap.size w w) := Below.refl _ _
      cases b with
      | false =>
        have hz : s.countP escB = 0 := by have := hm.out; have := hb.out; simp at this; omega
        have hes := escL_none s hz
        have hES := Lib.hid hes
        clear hes hz
        go_wp2_with fail
        go_ret
        exact ⟨by rw [hES.out]; rfl, hBel.out⟩
      | true =>
        have hN : (escL s).length = n + m := by rw [escL_len, hn, ← hm.out]
        have hmn : m ≤ n := by have := hm.out; have := List.countP_le_length (p := escB) (l := s); omega
        obtain ⟨N, hNN⟩ : ∃ N : Nat, n + m = N := ⟨_, rfl⟩
        rw [hNN] at hN
        have hc0 : ((n : Int) + (m : Int)) = (N : Int) := by omega
        have hmk : (Instr.makeSlice 44 (.int .i64 (N : Int)) (.int .i64 (N : Int))).run Tryz.prog w = .ok (.slice (some ⟨w.heap.size, 0, none⟩) N N) (w.alloc (.cells (madeCells #[.int .u8 0] N) 5)) :=
          run_make_row' (P := Tryz.prog) 44 5 (.int .u8 0) 1 Tryz.underlying44 infoU8 rfl .i64 .i64 N (by omega) (by omega) w
        have hBuf : Hid (Lib.Buf w (w.alloc (.cells (madeCells #[.int .u8 0] N) 5)) w.heap.size N []) := by
          have := Lib.Buf.start w (madeCells #[.int .u8 0] N) 5 N 0 (by rw [size_madeCells]; simp)
          exact this
        have hNH := Lib.hid hN
        clear hN hb hm
        go_wp2_with fail
        go_loopg [13, 14] n (fun gk s13 s14 wr => ∃ i : Nat, s14 = .int .i64 (i : Int) ∧ i + gk = n ∧ s13 = .int .i64 ((escL (s.take i)).length : Int) ∧ Hid (Lib.Buf w wr w.heap.size N (escL (s.take i))))
        case atStart => exact ⟨0, rfl, Nat.zero_add _, rfl, hBuf⟩
        case round =>
          obtain ⟨i, rfl, hik, rfl, hB⟩ := hrel
          clear hBuf hmk
          cases gk with
          | zero =>
            obtain rfl : i = n := by omega
            have hlt : decide ((i : Int) < (i : Int)) = false := by simp
            rw [List.take_of_length_le (show s.length ≤ i by omega)] at hB ⊢
            have hconv := run_convert_bytes_arg (P := Tryz.prog) wr 44 5 Tryz.underlying44 Tryz.underlying5 w.heap.size 0 N N (Lib.numsL (escL s)) (by rw [Lib.numsL_length, hNH.out])
              (fun j hj => by
                have hj' : j < (escL s).length := by rw [hNH.out]; exact hj
                rw [Nat.zero_add, hB.out.holds j _ (List.getElem?_eq_getElem hj')]
                simp [Lib.numsL, List.getD_eq_getElem?_getD, hj']) 9 Tryz.underlying9
            rw [show strOfNums (Lib.numsL (escL s)) = B (escL s) from strNums _] at hconv
            go_wp2_with fail
            go_ret
            exact ⟨rfl, hBel.out.next hB.out.below⟩
          | succ gk =>
            have hin : i < s.length := by omega
            have hlt : decide ((i : Int) < (n : Int)) = true := by rw [decide_eq_true_iff]; omega
            obtain ⟨c, hc⟩ : ∃ c, s[i] = c := ⟨_, rfl⟩
            have h0 := byte_at s i c hin hc
            have htk : s.take (i + 1) = s.take i ++ [c] := by rw [List.take_succ_eq_append_getElem hin, hc]
            have hfit : (escL (s.take (i + 1))).length ≤ N := by
              have h1 : escL s = escL (s.take (i + 1)) ++ escL (s.drop (i + 1)) := by rw [← escL_app, List.take_append_drop]
              have h2 := hNH.out
              rw [h1, List.length_append] at h2
              omega
            have hesc : escL (s.take (i + 1)) = escL (s.take i) ++ escL [c] := by rw [htk, escL_app]
            rw [hesc, List.length_append] at hfit
            have hES := Lib.hid hesc
            have hc256 := c.toNat_lt
            clear hesc htk
            obtain ⟨acc, hacc⟩ : ∃ acc, escL (s.take i) = acc := ⟨_, rfl⟩
            rw [hacc] at hfit hB hES ⊢
            clear hacc
            by_cases he : escB c = true
            · obtain ⟨a, cap, g0, g1⟩ := hRH.out.yes he
              rw [escL_one, if_pos he] at hfit hES
              have hne : ∀ W, (binOp .neq 44 (.slice (some a) 2 cap) (.slice none 0 0)).run Tryz.prog W = .ok (.bool true) W := fun W => Go.run_neq_slice_nil W 44 5 (some a) 2 cap Tryz.underlying44
              have g2 : wr.cell? ⟨r, c.toNat, none⟩ = some (.slice (some a) 2 cap) := Lib.Below.cellOf hB.out.below g0 (Nat.le_refl _)
              have hsl : ∀ W, (Instr.slice 44 (.slice (some ⟨w.heap.size, 0, none⟩) N N) (some (.int .i64 (acc.length : Int))) none none).run Tryz.prog W = .ok (Lib.tailV w.heap.size N acc.length) W := fun W => Lib.run_slice_tailV W 44 5 Tryz.underlying44 sizeU8 _ N acc.length (by omega)
              obtain ⟨w2, hr2, B2⟩ := Lib.copy_part (P := Tryz.prog) w wr.drew w.heap.size N acc [36, c] (.slice (some a) 2 cap) 44 3 5 Tryz.underlying44 (by kernel_rfl) (Nat.le_refl _) (Buf.drew hB.out) g1 (by simpa using hfit)
              have g3 : w2.cell? ⟨r, c.toNat, none⟩ = some (.slice (some a) 2 cap) := Lib.Below.cellOf B2.below g0 (Nat.le_refl _)
              have HB2 := Lib.hid B2
              have hb0 : (0 : Int) ≤ (c.toNat : Int) := by omega
              have hb1 : (c.toNat : Int) < 256 := by omega
              have hb2 : (acc.length : Int) ≤ (N : Int) := by omega
              have hwr : IntKind.i64.wrap ((acc.length : Int) + 2) = (acc.length : Int) + 2 := i64id ((acc.length : Int) + 2) (by omega) (by omega)
              have hb3 : (0 : Int) ≤ (acc.length : Int) := by omega
              clear B2 g0
              have hHB := Lib.hid g1
              clear g1
              go_wp2_with fail
              go_region_held3 (fun w' => w'.cell? ⟨r, c.toNat, none⟩ = some (.slice (some a) 2 cap)) (go_keep) (first | (at_builtin; refine Lib.wp_copy_run _ _ _ 44 44 rfl _ _ rfl rfl hr2 ?_) | (refine Lib.wp_copy_run _ _ _ 44 44 rfl _ _ rfl rfl hr2 ?_))
              go_wp2_with fail
              go_roundg gk
              case measure => omega
              case rel => exact ⟨i + 1, by first | rfl | simp, by omega, by rw [hES.out]; simp, by rw [hES.out]; exact HB2⟩
            · have g0 := hRH.out.no he
              rw [escL_one, if_neg he] at hfit hES
              have hne : ∀ W, (binOp .neq 44 (.slice none 0 0) (.slice none 0 0)).run Tryz.prog W = .ok (.bool false) W := fun W => Go.run_neq_slice_nil W 44 5 none 0 0 Tryz.underlying44
              have g2 : wr.cell? ⟨r, c.toNat, none⟩ = some (.slice none 0 0) := Lib.Below.cellOf hB.out.below g0 (Nat.le_refl _)
              have hfit' : acc.length < N := by have := hfit; simp at this; omega
              obtain ⟨v0, f0⟩ := Option.isSome_iff_exists.1 (hB.out.there acc.length hfit')
              have f1 := hB.out.free acc.length hfit'
              have hlt2 : decide ((acc.length : Int) < (N : Int)) = true := by rw [decide_eq_true_iff]; omega
              have HB2 := Lib.hid (Buf.push hB.out hfit' c)
              clear g0
              go_wp2_with fail
              go_roundg gk
              case measure => omega
              case rel => exact ⟨i + 1, by first | rfl | simp, by omega, by rw [hES.out]; simp, by rw [hES.out]; exact HB2⟩
    | succ gk =>
      have hin : i < s.length := by omega
      have hlt : decide ((i : Int) < (n : Int)) = true := by rw [decide_eq_true_iff]; omega
      obtain ⟨c, hc⟩ : ∃ c, s[i] = c := ⟨_, rfl⟩
      have h0 := byte_at s i c hin hc
      have hcp := countP_take s i hin c hc
      have hc256 := c.toNat_lt
      by_cases he : escB c = true
      · obtain ⟨a, cap, g0, g1⟩ := hRH.out.yes he
        have hne : ∀ W, (binOp .neq 44 (.slice (some a) 2 cap) (.slice none 0 0)).run Tryz.prog W = .ok (.bool true) W := fun W => Go.run_neq_slice_nil W 44 5 (some a) 2 cap Tryz.underlying44
        rw [if_pos he, ← hm.out] at hcp
        have hCP := Lib.hid hcp
        clear hcp g1
        go_wp2_with fail
        go_roundg gk
        case measure => omega
        case rel => exact ⟨i + 1, m + 1, true, by first | rfl | simp, by omega, by first | rfl | (simp; done) | (congr 1; omega), rfl, hCP.out.symm, (by show true = _; simp), by omega, rfl⟩
      · have g0 := hRH.out.no he
        have hne : ∀ W, (binOp .neq 44 (.slice none 0 0) (.slice none 0 0)).run Tryz.prog W = .ok (.bool false) W := fun W => Go.run_neq_slice_nil W 44 5 none 0 0 Tryz.underlying44
        rw [if_neg he, ← hm.out] at hcp
        have hCP := Lib.hid hcp
        clear hcp
        go_wp2_with fail
        go_roundg gk
        case measure => omega
        case rel => exact ⟨i + 1, m, b, by first | rfl | simp, by omega, rfl, rfl, hCP.out.symm, hb, by omega, rfl⟩
def cntTo (s : Txt) (i : Nat) : Nat := ((olds.take i).map fun c => s.count c).sum
theorem cntTo_succ (s : Txt) (i : Nat) (hi : i < 4) : cntTo s (i + 1) = cntTo s i + s.count (olds.getD i 0) := by
  rcases (show i = 0 ∨ i = 1 ∨ i = 2 ∨ i = 3 by omega) with rfl | rfl | rfl | rfl <;> simp [cntTo, olds] <;> omega
theorem cntTo_all (s : Txt) : cntTo s 4 = s.countP escB := by rw [count4]; simp [cntTo, olds]; omega
theorem cntTo_le (s : Txt) (i : Nat) (hi : i ≤ 4) : cntTo s i ≤ s.length := by
  have h1 : cntTo s 4 ≤ s.length := by rw [cntTo_all]; exact List.countP_le_length
  have h2 : ∀ j, j < 4 → cntTo s j ≤ cntTo s (j + 1) := fun j hj => by rw [cntTo_succ s j hj]; omega
  have a0 := h2 0 (by omega)
  have a1 := h2 1 (by omega)
  have a2 := h2 2 (by omega)
  have a3 := h2 3 (by omega)
  simp only [Nat.zero_add, Nat.reduceAdd] at a0 a1 a2 a3
  rcases (show i = 0 ∨ i = 1 ∨ i = 2 ∨ i = 3 ∨ i = 4 by omega) with rfl | rfl | rfl | rfl | rfl <;> omega
theorem olds_esc (i : Nat) (hi : i < 4) : escB (olds.getD i 0) = true := by
  rcases (show i = 0 ∨ i = 1 ∨ i = 2 ∨ i = 3 by omega) with rfl | rfl | rfl | rfl <;> decide
set_option maxRecDepth 100000 in
set_option maxHeartbeats 8000000 in
theorem bsr_big (r : Nat) (s : Txt) (hs : 32 ≤ s.length) (hs2 : s.length ≤ 100000000) (w : World) (hR : RepAt w r) :
    Calls Tryz.prog 194 #[.pointer (some ⟨r, 0, none⟩), .string (B s)] w fun e w' => e = .returned (.string (B (escL s))) ∧ Below w.heap.size w w' := by
  obtain ⟨n, hn⟩ : ∃ n, s.length = n := ⟨_, rfl⟩
  have z1 : (B s).size = n := by rw [size_B, hn]
  have hRH := Lib.hid hR
  obtain ⟨ta, tc, htr, hcell⟩ := hR.tr
  have hTC := Lib.hid hcell
  have t1 : decide ((32 : Int) ≤ (n : Int)) = true := by rw [decide_eq_true_iff]; omega
  clear hR hcell
  go_enter Tryz.func194, Tryz.ntmps194
  go_wp2_with fail
  go_loopg [5, 6, 32] 4 (fun gk s5 s6 s32 wo => ∃ (i m : Nat) (b : Bool), s32 = .int .i64 (i : Int) ∧ i + gk = 4 ∧ s5 = .int .i64 ((n + m : Nat) : Int) ∧ s6 = .bool b ∧ Hid (m = cntTo s i) ∧ Hid (b = decide (0 < m)) ∧ m ≤ n ∧ Hid (∀ a, wo.cell? a = w.cell? a) ∧ Hid (Below w.heap.size w wo))
  case atStart => exact ⟨0, 0, false, rfl, rfl, by simp, rfl, rfl, rfl, Nat.zero_le _, fun _ => rfl, Below.refl _ _⟩
  case round =>
    obtain ⟨wo, hwo⟩ : ∃ x, x = wr := ⟨_, rfl⟩
    subst hwo
    obtain ⟨i, m, b, rfl, hik, rfl, rfl, hm, hb, hmi, hE, hBel⟩ := hrel
    have hRW := Lib.hid (hRH.out.same hE.out)
    clear hRH
    have hRH := hRW
    clear hRW
    cases gk with
    | zero =>
      obtain rfl : i = 4 := by omega
      have hm' : Hid (m = s.countP escB) := by have := hm.out; rwa [cntTo_all] at this
      clear hm
      have hm := hm'
      clear hm'
      cases b with
      | false =>
        have hz : s.countP escB = 0 := by have := hm.out; have := hb.out; simp at this; omega
        have hes := escL_none s hz
        have hES := Lib.hid hes
        clear hes hz
        go_wp2_with fail
        go_ret
        exact ⟨by rw [hES.out]; rfl, hBel.out⟩
      | true =>
        have hN : (escL s).length = n + m := by rw [escL_len, hn, ← hm.out]
        have hmn : m ≤ n := by have := hm.out; have := List.countP_le_length (p := escB) (l := s); omega
        obtain ⟨N, hNN⟩ : ∃ N : Nat, n + m = N := ⟨_, rfl⟩
        rw [hNN] at hN
        have hc0 : ((n : Int) + (m : Int)) = (N : Int) := by omega
        have hmk : (Instr.makeSlice 44 (.int .i64 (N : Int)) (.int .i64 (N : Int))).run Tryz.prog wo = .ok (.slice (some ⟨wo.heap.size, 0, none⟩) N N) (wo.alloc (.cells (madeCells #[.int .u8 0] N) 5)) :=
          run_make_row' (P := Tryz.prog) 44 5 (.int .u8 0) 1 Tryz.underlying44 infoU8 rfl .i64 .i64 N (by omega) (by omega) wo
        have hBuf : Hid (Lib.Buf wo (wo.alloc (.cells (madeCells #[.int .u8 0] N) 5)) wo.heap.size N []) := by
          have := Lib.Buf.start wo (madeCells #[.int .u8 0] N) 5 N 0 (by rw [size_madeCells]; simp)
          exact this
        have hNH := Lib.hid hN
        clear hN hb hm
        go_wp2_with fail
        go_loopg [13, 14] n (fun gk s13 s14 wr => ∃ i : Nat, s14 = .int .i64 (i : Int) ∧ i + gk = n ∧ s13 = .int .i64 ((escL (s.take i)).length : Int) ∧ Hid (Lib.Buf wo wr wo.heap.size N (escL (s.take i))))
        case atStart => exact ⟨0, rfl, Nat.zero_add _, rfl, hBuf⟩
        case round =>
          obtain ⟨i, rfl, hik, rfl, hB⟩ := hrel
          clear hBuf hmk
          cases gk with
          | zero =>
            obtain rfl : i = n := by omega
            have hlt : decide ((i : Int) < (i : Int)) = false := by simp
            rw [List.take_of_length_le (show s.length ≤ i by omega)] at hB ⊢
            have hconv := run_convert_bytes_arg (P := Tryz.prog) wr 44 5 Tryz.underlying44 Tryz.underlying5 wo.heap.size 0 N N (Lib.numsL (escL s)) (by rw [Lib.numsL_length, hNH.out])
              (fun j hj => by
                have hj' : j < (escL s).length := by rw [hNH.out]; exact hj
                rw [Nat.zero_add, hB.out.holds j _ (List.getElem?_eq_getElem hj')]
                simp [Lib.numsL, List.getD_eq_getElem?_getD, hj']) 9 Tryz.underlying9
            rw [show strOfNums (Lib.numsL (escL s)) = B (escL s) from strNums _] at hconv
            go_wp2_with fail
            go_ret
            exact ⟨rfl, hBel.out.next hB.out.below⟩
          | succ gk =>
            have hin : i < s.length := by omega
            have hlt : decide ((i : Int) < (n : Int)) = true := by rw [decide_eq_true_iff]; omega
            obtain ⟨c, hc⟩ : ∃ c, s[i] = c := ⟨_, rfl⟩
            have h0 := byte_at s i c hin hc
            have htk : s.take (i + 1) = s.take i ++ [c] := by rw [List.take_succ_eq_append_getElem hin, hc]
            have hfit : (escL (s.take (i + 1))).length ≤ N := by
              have h1 : escL s = escL (s.take (i + 1)) ++ escL (s.drop (i + 1)) := by rw [← escL_app, List.take_append_drop]
              have h2 := hNH.out
              rw [h1, List.length_append] at h2
              omega
            have hesc : escL (s.take (i + 1)) = escL (s.take i) ++ escL [c] := by rw [htk, escL_app]
            rw [hesc, List.length_append] at hfit
            have hES := Lib.hid hesc
            have hc256 := c.toNat_lt
            clear hesc htk
            obtain ⟨acc, hacc⟩ : ∃ acc, escL (s.take i) = acc := ⟨_, rfl⟩
            rw [hacc] at hfit hB hES ⊢
            clear hacc
            by_cases he : escB c = true
            · obtain ⟨a, cap, g0, g1⟩ := hRH.out.yes he
              rw [escL_one, if_pos he] at hfit hES
              have hne : ∀ W, (binOp .neq 44 (.slice (some a) 2 cap) (.slice none 0 0)).run Tryz.prog W = .ok (.bool true) W := fun W => Go.run_neq_slice_nil W 44 5 (some a) 2 cap Tryz.underlying44
              have g2 : wr.cell? ⟨r, c.toNat, none⟩ = some (.slice (some a) 2 cap) := Lib.Below.cellOf hB.out.below g0 (Nat.le_refl _)
              have hsl : ∀ W, (Instr.slice 44 (.slice (some ⟨wo.heap.size, 0, none⟩) N N) (some (.int .i64 (acc.length : Int))) none none).run Tryz.prog W = .ok (Lib.tailV wo.heap.size N acc.length) W := fun W => Lib.run_slice_tailV W 44 5 Tryz.underlying44 sizeU8 _ N acc.length (by omega)
              obtain ⟨w2, hr2, B2⟩ := Lib.copy_part (P := Tryz.prog) wo wr.drew wo.heap.size N acc [36, c] (.slice (some a) 2 cap) 44 3 5 Tryz.underlying44 (by kernel_rfl) (Nat.le_refl _) (Buf.drew hB.out) g1 (by simpa using hfit)
              have g3 : w2.cell? ⟨r, c.toNat, none⟩ = some (.slice (some a) 2 cap) := Lib.Below.cellOf B2.below g0 (Nat.le_refl _)
              have HB2 := Lib.hid B2
              have hb0 : (0 : Int) ≤ (c.toNat : Int) := by omega
              have hb1 : (c.toNat : Int) < 256 := by omega
              have hb2 : (acc.length : Int) ≤ (N : Int) := by omega
              have hwr : IntKind.i64.wrap ((acc.length : Int) + 2) = (acc.length : Int) + 2 := i64id ((acc.length : Int) + 2) (by omega) (by omega)
              have hb3 : (0 : Int) ≤ (acc.length : Int) := by omega
              clear B2 g0
              have hHB := Lib.hid g1
              clear g1
              go_wp2_with fail
              go_region_held3 (fun wo' => wo'.cell? ⟨r, c.toNat, none⟩ = some (.slice (some a) 2 cap)) (go_keep) (first | (at_builtin; refine Lib.wp_copy_run _ _ _ 44 44 rfl _ _ rfl rfl hr2 ?_) | (refine Lib.wp_copy_run _ _ _ 44 44 rfl _ _ rfl rfl hr2 ?_))
              go_wp2_with fail
              go_roundg gk
              case measure => omega
              case rel => exact ⟨i + 1, by first | rfl | simp, by omega, by rw [hES.out]; simp, by rw [hES.out]; exact HB2⟩
            · have g0 := hRH.out.no he
              rw [escL_one, if_neg he] at hfit hES
              have hne : ∀ W, (binOp .neq 44 (.slice none 0 0) (.slice none 0 0)).run Tryz.prog W = .ok (.bool false) W := fun W => Go.run_neq_slice_nil W 44 5 none 0 0 Tryz.underlying44
              have g2 : wr.cell? ⟨r, c.toNat, none⟩ = some (.slice none 0 0) := Lib.Below.cellOf hB.out.below g0 (Nat.le_refl _)
              have hfit' : acc.length < N := by have := hfit; simp at this; omega
              obtain ⟨v0, f0⟩ := Option.isSome_iff_exists.1 (hB.out.there acc.length hfit')
              have f1 := hB.out.free acc.length hfit'
              have hlt2 : decide ((acc.length : Int) < (N : Int)) = true := by rw [decide_eq_true_iff]; omega
              have HB2 := Lib.hid (Buf.push hB.out hfit' c)
              clear g0
              go_wp2_with fail
              go_roundg gk
              case measure => omega
              case rel => exact ⟨i + 1, by first | rfl | simp, by omega, by rw [hES.out]; simp, by rw [hES.out]; exact HB2⟩
    | succ gk =>
      have hi4 : i < 4 := by omega
      have hlt : decide ((i : Int) < 4) = true := by rw [decide_eq_true_iff]; omega
      have hi0 : (0 : Int) ≤ (i : Int) := by omega
      have hi1 : (i : Int) < 4 := by omega
      obtain ⟨c, hc⟩ : ∃ c, olds.getD i 0 = c := ⟨_, rfl⟩
      have he := olds_esc i hi4
      have hcell := (hE.out _).trans (hTC.out i hi4)
      have hcn := cntTo_succ s i hi4
      have hle := cntTo_le s (i + 1) hi4
      rw [hc] at he hcell hcn
      rw [hcn, ← hm.out, hn] at hle
      rw [← hm.out] at hcn
      have hCN := Lib.hid hcn
      have hCt := Lib.hid (fun W => Tryz.strings_Count_one (B s) c W)
      have ecb : Lib.countByte (B s).data.toList c = s.count c := rfl
      rw [ecb] at hCt
      have hbc : (⟨#[c]⟩ : ByteArray) = B [c] := rfl
      rw [hbc] at hCt
      obtain ⟨q, hq⟩ : ∃ q, s.count c = q := ⟨_, rfl⟩
      rw [hq] at hCt hCN hle
      obtain ⟨a, cap, g0, g1⟩ := hRH.out.yes he
      have hc256 := c.toNat_lt
      have hb0 : (0 : Int) ≤ (c.toNat : Int) := by omega
      have hb1 : (c.toNat : Int) < 256 := by omega
      have h0 : ∀ h : 0 < (B [c]).size, (((B [c])[0]'h).toNat : Int) = (c.toNat : Int) := fun h => rfl
      have hsz1 : (B [c]).size = 1 := rfl
      have htr2 := (hE.out _).trans htr
      clear hcn ecb hbc hc he hq g1
      go_wp2_with fail
      refine (hCt.out _).mono ?_
      rintro e w1 ⟨rfl, rfl⟩
      cases q with
      | zero =>
        go_wp2_with fail
        go_roundg gk
        case measure => omega
        case rel => exact ⟨i + 1, m, b, by first | rfl | simp, by omega, rfl, rfl, hCN.out.symm, hb, by omega, hE, hBel⟩
      | succ q =>
        have hq0 : ((((q + 1 : Nat) : Int)) == 0) = false := by rw [beq_eq_false_iff_ne]; omega
        have hq1 : ((((q + 1 : Nat) : Int)) != 0) = true := by rw [bne_iff_ne]; omega
        have hw0 : IntKind.i64.wrap 1 = 1 := i64id 1 (by decide) (by decide)
        have hw1 : IntKind.i64.wrap ((q : Int) + 1) = (q : Int) + 1 := i64id ((q : Int) + 1) (by omega) (by omega)
        have hw2 : IntKind.i64.wrap ((n : Int) + (m : Int) + ((q : Int) + 1)) = (n : Int) + (m : Int) + ((q : Int) + 1) := i64id ((n : Int) + (m : Int) + ((q : Int) + 1)) (by omega) (by omega)
        go_wp2_with fail
        go_region_held3 (fun w' => w'.cell? ⟨r, c.toNat, none⟩ = some (.slice (some a) 2 cap)) (go_keep) (fail)
        go_wp2_with fail
        go_roundg gk
        case measure => omega
        case rel => exact ⟨i + 1, m + (q + 1), true, by first | rfl | simp, by omega, by first | rfl | (simp; done) | (congr 1; omega) | (congr 1; push_cast; omega), rfl, hCN.out.symm, (by show true = _; symm; rw [decide_eq_true_iff]; omega), by omega, hE, hBel.out.drew⟩
end Go.Proofs.YtbjekebkgidhaaaGreatDoor.Sc
end
section
set_option linter.unusedSimpArgs false
set_option linter.unusedVariables false
namespace Go.Proofs.YtbjekebkgidhaaaGreatDoor.Rep
open Go.RowKit Go.Lib Go.Shelf Go.Proofs.YtbjekebkgidhaaaGreatDoorW.PrintWords Go.Proofs.YtbjekebkgidhaaaGreatDoor.U
abbrev Txt := List UInt8
def pairs : List Txt := [[36], [36, 36], [32], [36, 32], [58], [36, 58], [124], [36, 124]]
theorem infoStr : (Tryz.prog.info? 9).map (fun i => (i.zero, i.size, i.bytes)) = some (some (.string ⟨#[]⟩), 1, 16) := by kernel_rfl
def RowAt (w : World) (g : Nat) : Prop := ∃ cur, w.heap[g]? = some (.cells cur 9 (0, 0)) ∧ cur.toList.take 8 = pairs.map fun t => Value.string (B t)
theorem RowAt.same {w w' : World} {g : Nat} (h : RowAt w g) (e : w'.heap[g]? = w.heap[g]?) : RowAt w' g := by
  obtain ⟨cur, h1, h2⟩ := h
  exact ⟨cur, e.trans h1, h2⟩
theorem RowAt.lt {w : World} {g : Nat} (h : RowAt w g) : g < w.heap.size := by
  obtain ⟨cur, h1, h2⟩ := h
  exact (Array.getElem?_eq_some_iff.1 h1).1
theorem RowAt.cell {w : World} {g : Nat} (h : RowAt w g) (i : Nat) (hi : i < 8) : w.cell? ⟨g, i, none⟩ = some (.string (B (pairs.getD i []))) := by
  obtain ⟨cur, h1, h2⟩ := h
  rw [cell_of_heap h1]
  have h3 : (cur.toList.take 8)[i]? = some (.string (B (pairs.getD i []))) := by
    rw [h2, List.getElem?_map, List.getD_eq_getElem?_getD, List.getElem?_eq_getElem (show i < pairs.length from hi)]; rfl
  rw [List.getElem?_take_of_lt hi] at h3
  simpa using h3
theorem reps_str {R : ByteArray → List Value → Prop} (hR : ∀ x c, R x c → c = [Value.string x]) : ∀ (ps : List ByteArray) (cs : List Value), Reps R 1 ps cs → cs = ps.map Value.string := by
  intro ps cs h
  refine List.ext_getElem? fun j => ?_
  have hl := h.1
  rw [Nat.mul_one] at hl
  by_cases hj : j < ps.length
  · have h1 := hR _ _ (h.2 j _ (List.getElem?_eq_getElem hj))
    rw [Nat.mul_one] at h1
    have h2 : ((cs.drop j).take 1)[0]? = some (.string ps[j]) := by rw [h1]; rfl
    rw [List.getElem?_take_of_lt (by omega), List.getElem?_drop, Nat.add_zero] at h2
    rw [h2, List.getElem?_map, List.getElem?_eq_getElem hj]; rfl
  · rw [List.getElem?_eq_none (by omega), List.getElem?_eq_none (by simp; omega)]
structure Fresh (w : World) (b g q n : Nat) : Prop where
  blk : w.heap[b]? = some (.cells #[.int .u32 0, .int .i32 n, .int .u32 0, .nilIface, .slice (some ⟨g, 0, none⟩) 8 q] 147 (0, 0))
  row : RowAt w g
  ne : g ≠ b
def NewPost (w : World) (e : Ending) (w' : World) : Prop := ∃ b g q, e = .returned (.pointer (some ⟨b, 0, none⟩)) ∧ w.heap.size ≤ b ∧ Fresh w' b g q 0 ∧ Below w.heap.size w w'
set_option maxRecDepth 100000 in
set_option maxHeartbeats 4000000 in
theorem NewReplacer_any (A : Option Addr) (c : Nat) (w : World) (hC : Kd.C Kd.string w A 8 (pairs.map B)) :
    Calls Tryz.prog 57 #[.slice A 8 c] w (NewPost w) := by
  have hCH := Lib.hid hC
  clear hC
  go_enter Tryz.func57, Tryz.ntmps57
  go_wp2_with (at_builtin; refine Kd.R_append_row (w0 := w) Value.string ByteArray.empty (h1 := fun _ => rfl) w.heap.size rfl _ _ 23 9 (.string ⟨#[]⟩) 16 rfl Tryz.underlying23 infoStr rfl (by decide) _ [] (pairs.map B) A 8 c (fun _ => True) rfl rfl (fun _ _ => trivial) (Kd.R_nil _ _ _ _ _) hCH.out (Below.refl _ w) (Nat.le_refl _) (by decide) ?_)
  intro v1 w1 hR hb1 _ _
  have hR1 := hR
  obtain ⟨_, inner, hown, hreps⟩ := hR1
  have hin := reps_str (fun _ _ h => h) _ _ hreps
  rcases hown.2 with ⟨_, h0⟩ | ⟨g, cap, cur, rfl, hg, hh, _, _, _, htk⟩
  · exact absurd h0 (by simp [pairs])
  have hrow : Hid (RowAt w1 g) := ⟨cur, hh, by
    rw [hin] at htk
    exact htk⟩
  have hB1 := Lib.hid hb1
  have hG := Lib.hid hg
  clear hR hb1 hown hreps hin hh htk hg
  go_wp2_with fail
  go_ret
  have hsz := hB1.out.size
  have hgl := hrow.out.lt
  exact ⟨w1.heap.size, g, cap, rfl, hsz, ⟨heap_alloc_new w1 _, hrow.out.same (Below.heap_alloc _ _ _ hgl), by omega⟩, hB1.out.alloc hsz _⟩
end Go.Proofs.YtbjekebkgidhaaaGreatDoor.Rep
end
section
set_option linter.unusedSimpArgs false
set_option linter.unusedVariables false
namespace Go.Proofs.YtbjekebkgidhaaaGreatDoor.Rep
open Go.RowKit Go.Lib Go.Shelf Go.Proofs.YtbjekebkgidhaaaGreatDoorW.PrintWords Go.Proofs.YtbjekebkgidhaaaGreatDoor.U Go.Proofs.YtbjekebkgidhaaaGreatDoor.Sc
def BuildPost (w : World) (e : Ending) (w' : World) : Prop := ∃ r, e = .returned (.iface 196 (.pointer (some ⟨r, 0, none⟩))) ∧ w.heap.size ≤ r ∧ RepAt w' r ∧ Below w.heap.size w w'
theorem four {i : Nat} (h : i < 4) : i = 0 ∨ i = 1 ∨ i = 2 ∨ i = 3 := by omega
theorem make4 (w : World) : (Instr.makeSlice 23 (.int .i64 0) (.int .i64 4)).run Tryz.prog w = .ok (.slice (some ⟨w.heap.size, 0, none⟩) 0 4) (w.alloc (.cells (madeCells #[.string ⟨#[]⟩] 4) 9)) := by
  obtain ⟨i, hi, hzz⟩ := Option.map_eq_some_iff.1 infoStr
  simp only [Prod.mk.injEq] at hzz
  obtain ⟨hz, hs, hb⟩ := hzz
  have h := run_make (P := Tryz.prog) w 23 9 i (.string ⟨#[]⟩) Tryz.underlying23 hi hz .i64 .i64 0 4 (by decide) (by decide) (by rw [hb]; decide) (by decide)
  rw [hs] at h
  exact h
theorem zero115 : Tryz.zeroCells195 = Array.replicate 257 (.slice none 0 0) := by kernel_rfl
def RepYes (W : World) (c : UInt8) (v : Value) : Prop := ∃ x cap xs fr, v = .slice (some ⟨x, 0, none⟩) 2 cap ∧ W.heap[x]? = some (.cells xs 5 fr) ∧ xs[0]? = some (.int .u8 36) ∧ xs[1]? = some (.int .u8 (c.toNat : Int))
theorem RepYes.same {W W' : World} {c : UInt8} {v : Value} (h : RepYes W c v) (e : ∀ (x : Nat) (xs : Array Value) (fr : Nat × Nat), W.heap[x]? = some (Obj.cells xs 5 fr) → W'.heap[x]? = W.heap[x]?) : RepYes W' c v := by
  obtain ⟨x, cap, xs, fr, h1, h2, h3, h4⟩ := h
  exact ⟨x, cap, xs, fr, h1, (e x xs fr h2).trans h2, h3, h4⟩
structure BInv (w0 : World) (k : Nat) (cs : Array Value) (T : Value) (W : World) : Prop where
  bel : Below w0.heap.size w0 W
  blk : W.heap[w0.heap.size + 1]? = some (.cells cs 195 (0, 0))
  size : cs.size = 257
  tr : cs[256]? = some T
  own : W.ownsRow w0.heap.size 9 1 T k ((olds.take k).map fun c => .string (B [c]))
  yes : ∀ c : UInt8, c ∈ olds.take k → ∃ v, cs[c.toNat]? = some v ∧ RepYes W c v
  no : ∀ c : UInt8, c ∉ olds.take k → cs[c.toNat]? = some (.slice none 0 0)
theorem ne_type {W : World} {x y : Nat} {xs ys : Array Value} {t u : TypeId} {fr fr' : Nat × Nat} (h : W.heap[x]? = some (.cells xs t fr)) (h' : W.heap[y]? = some (.cells ys u fr')) (hne : t ≠ u) : x ≠ y := by
  rintro rfl
  rw [h] at h'
  injection h' with h'
  injection h' with _ h2 _
  exact hne h2
theorem first (w : World) (m4 : Array Value) (hm : m4.size = 4) :
    ∃ W cs, (storeCells ⟨w.heap.size + 1, 0, none⟩ (Tryz.zeroCells195.toList.set 256 (.slice (some ⟨w.heap.size, 0, none⟩) 0 4))).run Tryz.prog ((w.alloc (.cells m4 9)).alloc (.cells Tryz.zeroCells195 195)) = .ok () W ∧
      BInv w 0 cs (.slice (some ⟨w.heap.size, 0, none⟩) 0 4) W := by
  rw [zero115]
  obtain ⟨n, hn⟩ : ∃ n, n = 257 := ⟨_, rfl⟩
  rw [← hn]
  have h0 : ((w.alloc (.cells m4 9)).alloc (.cells (Array.replicate n (.slice none 0 0)) 195)).heap[w.heap.size + 1]? = some (.cells (Array.replicate n (.slice none 0 0)) 195 (0, 0)) := by
    have := heap_alloc_new (w.alloc (.cells m4 9)) (.cells (Array.replicate n (.slice none 0 0)) 195)
    rwa [show (w.alloc (.cells m4 9)).heap.size = w.heap.size + 1 by simp] at this
  have hr := run_storeCells_from (P := Tryz.prog) (w.heap.size + 1) 195 ((Array.replicate n (Value.slice none 0 0)).toList.set 256 (.slice (some ⟨w.heap.size, 0, none⟩) 0 4)) 0 _ _ h0 (by simp)
    (fun v hv => by
      rcases List.mem_or_eq_of_mem_set hv with h | h
      · have : v = .slice none 0 0 := by
          rw [Array.toList_replicate] at h
          exact List.eq_of_mem_replicate h
        rw [this]; rfl
      · rw [h]; rfl)
  rw [List.take_zero, List.nil_append] at hr
  refine ⟨_, _, hr, ?_, setRow_heap _ _ _ _ _ _ h0, by rw [List.size_toArray, List.length_set, Array.length_toList, Array.size_replicate, hn], ?_, ?_, fun c hc => by simp at hc, fun c _ => ?_⟩
  · exact below_setRow (((Below.refl _ w).alloc (Nat.le_refl _) _).alloc (by simp) _) (by omega) _
  · rw [List.getElem?_toArray, List.getElem?_set_self (by rw [Array.length_toList, Array.size_replicate]; omega)]
  · refine ⟨by simp, .inr ⟨w.heap.size, 4, m4, rfl, Nat.le_refl _, ?_, by decide, by decide, by rw [hm], by simp⟩⟩
    rw [setRow_other _ _ _ _ (by omega)]
    exact (Below.heap_alloc _ _ _ (by simp)).trans (heap_alloc_new w _)
  · have hc := c.toNat_lt
    rw [List.getElem?_toArray, List.getElem?_set_ne (by omega), Array.toList_replicate, List.getElem?_replicate, if_pos (by omega)]
theorem pairs_at (k : Nat) (hk : k < 4) : pairs.getD (6 - 2 * k) [] = [olds.getD k 0] ∧ pairs.getD (6 - 2 * k + 1) [] = [36, olds.getD k 0] := by
  rcases four hk with rfl | rfl | rfl | rfl <;> exact ⟨rfl, rfl⟩
theorem olds_new (k : Nat) (hk : k < 4) : olds.getD k 0 ∉ olds.take k := by
  rcases four hk with rfl | rfl | rfl | rfl <;> decide
theorem heap_set {w : World} {b : Nat} {cs : Array Value} {t : TypeId} (h : w.heap[b]? = some (.cells cs t (0, 0))) (j : Nat) (v : Value) : (w.setCell ⟨b, j, none⟩ v).heap[b]? = some (.cells (cs.setIfInBounds j v) t (0, 0)) := by
  have hlt := (Array.getElem?_eq_some_iff.1 h).1
  have h' : w.heap[b] = .cells cs t (0, 0) := by simpa [Array.getElem?_eq_getElem hlt] using h
  show (w.heap.modify b _)[b]? = _
  rw [Array.getElem?_eq_getElem (by simpa using hlt), Array.getElem_modify_self, h']
  rfl
theorem bytes_below (w : World) (e : TypeId) (s : ByteArray) : Below w.heap.size w (Lib.bytesWorld w e s) :=
  ⟨rfl, rfl, rfl, by rw [Lib.bytesWorld_size]; omega, fun k hk => Lib.bytesWorld_at_old w e s k hk⟩
theorem BInv.next {w0 : World} {k : Nat} {cs : Array Value} {T : Value} {W : World} (h : BInv w0 k cs T W) (hk : k < 4) {c : UInt8} (hc : olds.getD k 0 = c) {o : Obj} {v1 : Value} {w1 : World}
    (hown : w1.ownsRow w0.heap.size 9 1 v1 (k + 1) ((olds.take k).map (fun c => Value.string (B [c])) ++ [.string (B [c])])) (hb : Below w0.heap.size w0 w1) (hg : (W.alloc o).grownBy w1 T.ownBlock) :
    w1.heap[w0.heap.size + 1]? = some (.cells cs 195 (0, 0)) ∧
    ∀ w2 w3, w2 = w1.setCell ⟨w0.heap.size + 1, 256, none⟩ v1 → w3 = Lib.bytesWorld w2 5 (B [36, c]) →
      w3.heap[w0.heap.size + 1]? = some (.cells (cs.setIfInBounds 256 v1) 195 (0, 0)) ∧
      ∀ cap, BInv w0 (k + 1) ((cs.setIfInBounds 256 v1).setIfInBounds c.toNat (.slice (some ⟨w2.heap.size, 0, none⟩) 2 cap)) v1 (w3.setCell ⟨w0.heap.size + 1, c.toNat, none⟩ (.slice (some ⟨w2.heap.size, 0, none⟩) 2 cap)) := by
  have hlt : w0.heap.size + 1 < W.heap.size := (Array.getElem?_eq_some_iff.1 h.blk).1
  have hne : some (w0.heap.size + 1) ≠ T.ownBlock := by
    intro e
    obtain ⟨cells, hcl⟩ := own_typed h.own _ e.symm
    exact ne_type h.blk hcl (by decide) rfl
  have hW1 : w1.heap[w0.heap.size + 1]? = some (.cells cs 195 (0, 0)) :=
    (hg.block _ (by simp; omega) hne).trans ((Below.heap_alloc _ _ _ hlt).trans h.blk)
  refine ⟨hW1, ?_⟩
  intro w2 w3 e2 e3
  have hlt1 := (Array.getElem?_eq_some_iff.1 hW1).1
  have hs2 : w2.heap.size = w1.heap.size := by rw [e2]; exact World.size_setCell _ _ _
  have hW2 : w2.heap[w0.heap.size + 1]? = some (.cells (cs.setIfInBounds 256 v1) 195 (0, 0)) := by rw [e2]; exact heap_set hW1 256 v1
  have hb23 : Below w2.heap.size w2 w3 := by rw [e3]; exact bytes_below _ _ _
  have hW3 : w3.heap[w0.heap.size + 1]? = some (.cells (cs.setIfInBounds 256 v1) 195 (0, 0)) := (hb23.block _ (by omega)).trans hW2
  refine ⟨hW3, ?_⟩
  intro cap
  have hc256 := c.toNat_lt
  have htk : olds.take (k + 1) = olds.take k ++ [c] := by rcases four hk with rfl | rfl | rfl | rfl <;> (subst hc; rfl)
  have hnew : c ∉ olds.take k := by rw [← hc]; exact olds_new k hk
  have own2 : w2.ownsRow w0.heap.size 9 1 v1 (k + 1) ((olds.take (k + 1)).map fun c => .string (B [c])) := by
    rw [htk, List.map_append, e2]
    exact own_setCell hown (own_ne hown hW1 (by decide)) v1
  have own3 := pw_own_below own2 hb23
  have keep : ∀ (x : Nat) (xs : Array Value) (fr : Nat × Nat), W.heap[x]? = some (Obj.cells xs 5 fr) → (w3.setCell ⟨w0.heap.size + 1, c.toNat, none⟩ (.slice (some ⟨w2.heap.size, 0, none⟩) 2 cap)).heap[x]? = W.heap[x]? := by
    intro x xs fr hx
    have hxl := (Array.getElem?_eq_some_iff.1 hx).1
    have hx1 : x ≠ w0.heap.size + 1 := ne_type hx h.blk (by decide)
    have hxT : some x ≠ T.ownBlock := by
      intro e
      obtain ⟨cells, hcl⟩ := own_typed h.own _ e.symm
      exact ne_type hx hcl (by decide) rfl
    have hx2 : x < w2.heap.size := by
      have := hg.size
      simp at this
      omega
    rw [Below.heap_setCell _ _ _ _ hx1, hb23.block _ hx2, e2, Below.heap_setCell _ _ _ _ hx1]
    exact (hg.block _ (by simp; omega) hxT).trans (Below.heap_alloc _ _ _ hxl)
  refine ⟨?_, heap_set hW3 _ _, by simp [h.size], ?_, own_setCell own3 (own_ne own3 hW3 (by decide)) _, fun c' hc' => ?_, fun c' hc' => ?_⟩
  · have hb2 : Below w0.heap.size w0 w2 := by rw [e2]; exact hb.setCell (p := ⟨w0.heap.size + 1, 256, none⟩) (by show w0.heap.size ≤ w0.heap.size + 1; omega) v1
    exact (hb2.next hb23).setCell (p := ⟨w0.heap.size + 1, c.toNat, none⟩) (by show w0.heap.size ≤ w0.heap.size + 1; omega) _
  · rw [Array.getElem?_setIfInBounds_ne (by omega), Array.getElem?_setIfInBounds_self_of_lt (by rw [h.size]; omega)]
  · rw [htk, List.mem_append] at hc'
    by_cases hcc : c' = c
    · subst hcc
      refine ⟨_, Array.getElem?_setIfInBounds_self_of_lt (by simp [h.size]; omega), w2.heap.size, cap, Lib.bytesCells w2 5 (B [36, c']), ((Lib.bytesCells w2 5 (B [36, c'])).size, (Lib.bytesCells w2 5 (B [36, c'])).size + 1), rfl, ?_, ?_, ?_⟩
      · rw [Below.heap_setCell _ _ _ _ (show w2.heap.size ≠ w0.heap.size + 1 by omega), e3]
        exact Lib.bytesWorld_at_new w2 5 (B [36, c'])
      · unfold Lib.bytesCells; rw [Array.getElem?_append_left (by simp [B]), Array.getElem?_map]; rfl
      · unfold Lib.bytesCells; rw [Array.getElem?_append_left (by simp [B]), Array.getElem?_map]; rfl
    · have hin : c' ∈ olds.take k := hc'.resolve_right (fun h1 => hcc (by simpa using h1))
      obtain ⟨v, g1, g2⟩ := h.yes c' hin
      have hc'256 := c'.toNat_lt
      refine ⟨v, ?_, g2.same keep⟩
      rw [Array.getElem?_setIfInBounds_ne (fun e => hcc (UInt8.toNat_inj.1 e.symm)), Array.getElem?_setIfInBounds_ne (by omega)]
      exact g1
  · rw [htk, List.mem_append, not_or] at hc'
    have hcc : c' ≠ c := by simpa using hc'.2
    have hc'256 := c'.toNat_lt
    rw [Array.getElem?_setIfInBounds_ne (fun e => hcc (UInt8.toNat_inj.1 e.symm)), Array.getElem?_setIfInBounds_ne (by omega)]
    exact h.no c' hc'.1
theorem BInv.done {w0 : World} {cs : Array Value} {T : Value} {W : World} (h : BInv w0 4 cs T W) : RepAt W (w0.heap.size + 1) := by
  refine ⟨fun c => ?_, ?_⟩
  · have hmem : escB c = true ↔ c ∈ olds.take 4 := by rw [escB_iff]; simp [olds]
    by_cases he : escB c = true
    · obtain ⟨v, g1, x, cap, xs, fr, rfl, g2, g3, g4⟩ := h.yes c (hmem.1 he)
      refine ⟨_, (cell_of_heap h.blk _).trans g1, ?_⟩
      unfold RepCell
      rw [if_pos he]
      exact ⟨⟨x, 0, none⟩, cap, rfl, by simp [World.cell?, g2, g3], by simp [World.cell?, Addr.add, g2, g4]⟩
    · refine ⟨_, (cell_of_heap h.blk _).trans (h.no c (fun e => he (hmem.2 e))), ?_⟩
      unfold RepCell
      rw [if_neg he]
  · rcases h.own.2 with ⟨_, h0⟩ | ⟨x, cap, cur, hT, _, hh, _, _, _, htk⟩
    · exact absurd h0 (by decide)
    · refine ⟨⟨x, 0, none⟩, cap, by rw [cell_of_heap h.blk, h.tr, hT], fun i hi => ?_⟩
      have ha : (⟨x, 0, none⟩ : Addr).add i = ⟨x, i, none⟩ := by unfold Addr.add; by_cases hq : i = 0 <;> simp [hq]
      rw [ha, cell_of_heap hh]
      have h3 : (cur.toList.take (4 * 1))[i]? = some (.string (B [olds.getD i 0])) := by
        rw [htk]; rcases four hi with rfl | rfl | rfl | rfl <;> rfl
      rw [List.getElem?_take_of_lt (by omega)] at h3
      simpa using h3
set_option maxRecDepth 100000 in
set_option maxHeartbeats 4000000 in
theorem build_any (b g q : Nat) (w : World) (hF : Fresh w b g q 1) :
    Calls Tryz.prog 112 #[.pointer (some ⟨b, 0, none⟩)] w (BuildPost w) := by
  obtain ⟨hblk, hrow, hne⟩ := hF
  have hR := Lib.hid hrow
  have b2 : w.cell? ⟨b, 4, none⟩ = some (.slice (some ⟨g, 0, none⟩) 8 q) := by rw [cell_of_heap hblk]; rfl
  clear hrow hblk hne
  go_enter Tryz.func112, Tryz.ntmps112
  go_wp2_with fail
  go_loopg [4, 5] 4 (fun gk s4 s5 wr => ∃ i : Nat, s5 = .int .i64 ((2 * i : Nat) : Int) ∧ i + gk = 4 ∧ s4 = .bool (decide (i = 0)) ∧ w = wr)
  case atStart => exact ⟨0, rfl, rfl, rfl, rfl⟩
  case round =>
    obtain ⟨i, rfl, hik, rfl, rfl⟩ := hrel
    cases gk with
    | zero =>
      obtain rfl : i = 4 := by omega
      have hmk := make4 w
      have hm4 : (madeCells #[.string ⟨#[]⟩] 4).size = 4 := by rw [size_madeCells]
      generalize madeCells #[.string ⟨#[]⟩] 4 = m4 at hmk hm4
      obtain ⟨W2, cs2, hst, hI2⟩ := first w m4 hm4
      have HI2 := Lib.hid hI2
      clear hI2 hm4
      go_wp2_with fail
      go_loopg [12] 4 (fun gk s12 wr => ∃ (k : Nat) (cs : Array Value) (T : Value), s12 = .int .i64 (6 - 2 * (k : Int)) ∧ k + gk = 4 ∧ Hid (BInv w k cs T wr))
      case atStart => exact ⟨0, cs2, _, rfl, rfl, HI2⟩
      case round =>
        obtain ⟨k, cs, T, rfl, hk4, hI⟩ := hrel
        clear hmk hst HI2
        cases gk with
        | zero =>
          obtain rfl : k = 4 := by omega
          go_wp2_with fail
          go_ret
          exact ⟨w.heap.size + 1, rfl, by omega, hI.out.done, hI.out.bel⟩
        | succ gk =>
          have hk : k < 4 := by omega
          obtain ⟨p, hp⟩ : ∃ p, 6 - 2 * k = p := ⟨_, rfl⟩
          have hpk : (6 - 2 * (k : Int)) = (p : Int) := by omega
          have hp8 : p + 1 < 8 := by omega
          obtain ⟨e0, e1⟩ := pairs_at k hk
          obtain ⟨c, hc⟩ : ∃ c, olds.getD k 0 = c := ⟨_, rfl⟩
          rw [hp, hc] at e0 e1
          have hnew := olds_new k hk
          rw [hc] at hnew
          have hgl := hR.out.lt
          have c0 : wr.cell? ⟨g, p, none⟩ = some (.string (B [c])) := by rw [hI.out.bel.cell hgl, hR.out.cell p (by omega), e0]
          have c1 : wr.cell? ⟨g, p + 1, none⟩ = some (.string (B [36, c])) := by rw [hI.out.bel.cell hgl, hR.out.cell (p + 1) hp8, e1]
          have hc256 := c.toNat_lt
          have c2 : wr.cell? ⟨w.heap.size + 1, c.toNat, none⟩ = some (.slice none 0 0) := by rw [cell_of_heap hI.out.blk]; exact hI.out.no c hnew
          have c3 : wr.cell? ⟨w.heap.size + 1, 256, none⟩ = some T := by rw [cell_of_heap hI.out.blk]; exact hI.out.tr
          have hpi : decide ((0 : Int) ≤ (p : Int)) = true := by rw [decide_eq_true_iff]; omega
          have z0 : (B [c]).size = 1 := rfl
          have h0 : ∀ h : 0 < (B [c]).size, (((B [c])[0]'h).toNat : Int) = (c.toNat : Int) := fun h => rfl
          have heq : ∀ W, (binOp .eql 44 (.slice none 0 0) (.slice none 0 0)).run Tryz.prog W = .ok (.bool true) W := fun W => Lib.run_eql_slice_nil_nil W _ _ Tryz.underlying44
          have hce := Lib.hid hc
          clear hc e0 e1 hnew hgl hk
          have hcv : (convert 44 9 (.slice (some ⟨wr.heap.size, 0, none⟩) 1 1)).run Tryz.prog (wr.alloc (.cells #[.int .u8 (c.toNat : Int)] 5)) = .ok (.string (B [c])) (wr.alloc (.cells #[.int .u8 (c.toNat : Int)] 5)) := by
            have h := run_convert_bytes_arg (P := Tryz.prog) (wr.alloc (.cells #[.int .u8 (c.toNat : Int)] 5)) 44 5 Tryz.underlying44 Tryz.underlying5 wr.heap.size 0 1 1 (Lib.numsL [c]) rfl
              (fun i hi => by
                obtain rfl : i = 0 := by omega
                rw [cell_of_heap (heap_alloc_new wr _)]; rfl) 9 Tryz.underlying9
            rwa [strNums] at h
          have HO := (hI.out.own.alloc (.cells #[.int .u8 (c.toNat : Int)] 5))
          have HB : Below w.heap.size w (wr.alloc (.cells #[.int .u8 (c.toNat : Int)] 5)) := hI.out.bel.alloc hI.out.bel.size _
          have hbs := HB.size
          rw [hpk]
          go_wp2_with (at_builtin; refine print_append_cells (w0 := w) (W := wr.alloc (.cells #[.int .u8 (c.toNat : Int)] 5)) w.heap.size rfl _ _ 23 9 (.string ⟨#[]⟩) 1 16 rfl Tryz.underlying23 infoStr rfl (by decide) (by decide) T k _ [.string (B [c])] rfl (by rw [show (wr.alloc (.cells #[.int .u8 (c.toNat : Int)] 5)).heap.size = wr.heap.size + 1 by simp]; rfl) rfl (by intro u hu; rw [List.mem_singleton.1 hu]; rfl) HO HB hbs (by omega) ?_)
          intro v1 w1 hown hb1 hg1 _
          rw [← List.map_take] at hown
          obtain ⟨A1, cp1, rfl⟩ := own_slice hown
          obtain ⟨q1, q2⟩ := hI.out.next (show k < 4 by omega) hce.out hown hb1 hg1
          have f1 : w1.cell? ⟨w.heap.size + 1, 256, none⟩ = some T := by rw [cell_of_heap q1]; exact hI.out.tr
          have f2 : w1.frozen? ⟨w.heap.size + 1, 256, none⟩ = false := frozen_of_heap q1 256
          obtain ⟨w2, hw2⟩ : ∃ w2, w1.setCell ⟨w.heap.size + 1, 256, none⟩ (.slice A1 (k + 1) cp1) = w2 := ⟨_, rfl⟩
          obtain ⟨w3, hw3⟩ : ∃ w3, Lib.bytesWorld w2 5 (B [36, c]) = w3 := ⟨_, rfl⟩
          obtain ⟨q3, q4⟩ := q2 w2 w3 hw2.symm hw3.symm
          have hcv2 := Lib.run_convert_string_bytes (P := Tryz.prog) w2 9 44 5 (B [36, c]) Tryz.underlying9 Tryz.underlying44 Tryz.underlying5
          rw [hw3] at hcv2
          have hIn := Lib.hid (q4 (grownCap w2 (B [36, c]).size 0 5))
          have hcsz : (cs.setIfInBounds 256 (.slice A1 (k + 1) cp1)).size = 257 := by rw [Array.size_setIfInBounds]; exact hI.out.size
          obtain ⟨v3, f3⟩ : ∃ v, w3.cell? ⟨w.heap.size + 1, c.toNat, none⟩ = some v := ⟨_, by rw [cell_of_heap q3, Array.getElem?_eq_getElem (by rw [hcsz]; omega)]⟩
          have f4 : w3.frozen? ⟨w.heap.size + 1, c.toNat, none⟩ = false := frozen_of_heap q3 c.toNat
          generalize grownCap w2 (B [36, c]).size 0 5 = cap at *
          clear hown hb1 hg1 q1 q2 q3 q4 hcv HO HB hbs c0 c1 c2 c3 hw3 hcsz
          have hb0 : (0 : Int) ≤ (c.toNat : Int) := by omega
          have hb1 : (c.toNat : Int) < 256 := by omega
          go_wp2_with fail
          go_roundg gk
          case measure => omega
          case rel => exact ⟨k + 1, _, _, by congr 1; omega, by omega, hIn⟩
    | succ gk =>
      rcases four (show i < 4 by omega) with rfl | rfl | rfl | rfl
      · have c0 : w.cell? ⟨g, 0, none⟩ = some (.string (B [36])) := hR.out.cell 0 (by omega)
        have c1 : w.cell? ⟨g, 1, none⟩ = some (.string (B [36, 36])) := hR.out.cell 1 (by omega)
        have z0 : (B [36]).size = 1 := rfl
        have z1 : (B [36, 36]).size = 2 := rfl
        go_wp2_with fail
        go_roundg gk
        case measure => omega
        case rel => exact ⟨1, rfl, by omega, rfl, rfl⟩
      · have c0 : w.cell? ⟨g, 2, none⟩ = some (.string (B [32])) := hR.out.cell 2 (by omega)
        have c1 : w.cell? ⟨g, 3, none⟩ = some (.string (B [36, 32])) := hR.out.cell 3 (by omega)
        have z0 : (B [32]).size = 1 := rfl
        have z1 : (B [36, 32]).size = 2 := rfl
        go_wp2_with fail
        go_roundg gk
        case measure => omega
        case rel => exact ⟨2, rfl, by omega, rfl, rfl⟩
      · have c0 : w.cell? ⟨g, 4, none⟩ = some (.string (B [58])) := hR.out.cell 4 (by omega)
        have c1 : w.cell? ⟨g, 5, none⟩ = some (.string (B [36, 58])) := hR.out.cell 5 (by omega)
        have z0 : (B [58]).size = 1 := rfl
        have z1 : (B [36, 58]).size = 2 := rfl
        go_wp2_with fail
        go_roundg gk
        case measure => omega
        case rel => exact ⟨3, rfl, by omega, rfl, rfl⟩
      · have c0 : w.cell? ⟨g, 6, none⟩ = some (.string (B [124])) := hR.out.cell 6 (by omega)
        have c1 : w.cell? ⟨g, 7, none⟩ = some (.string (B [36, 124])) := hR.out.cell 7 (by omega)
        have z0 : (B [124]).size = 1 := rfl
        have z1 : (B [36, 124]).size = 2 := rfl
        go_wp2_with fail
        go_roundg gk
        case measure => omega
        case rel => exact ⟨4, rfl, by omega, rfl, rfl⟩
end Go.Proofs.YtbjekebkgidhaaaGreatDoor.Rep
end
section
set_option linter.unusedSimpArgs false
set_option linter.unusedVariables false
namespace Go.Proofs.YtbjekebkgidhaaaGreatDoor.Rep
open Go.RowKit Go.Lib Go.Shelf Go.Proofs.YtbjekebkgidhaaaGreatDoorW.PrintWords Go.Proofs.YtbjekebkgidhaaaGreatDoor.U Go.Proofs.YtbjekebkgidhaaaGreatDoor.Sc
theorem RepAt.store {w : World} {r : Nat} (h : RepAt w r) {p : Addr} {x : Value} (hp : w.cell? p = some x) (hr : p.block ≠ r) (h1 : ∀ n, x ≠ .int .u8 n) (h2 : ∀ s, x ≠ .string s) (v : Value) : RepAt (w.setCell p v) r := by
  have k1 : ∀ (a : Addr) n, w.cell? a = some (.int .u8 n) → (w.setCell p v).cell? a = some (.int .u8 n) := fun a n ha => by
    rw [World.cell?_setCell_other _ _ _ _ (fun e => by subst e; rw [hp] at ha; exact h1 _ (Option.some.inj ha))]; exact ha
  have k2 : ∀ (a : Addr) s, w.cell? a = some (.string s) → (w.setCell p v).cell? a = some (.string s) := fun a s ha => by
    rw [World.cell?_setCell_other _ _ _ _ (fun e => by subst e; rw [hp] at ha; exact h2 _ (Option.some.inj ha))]; exact ha
  have k3 : ∀ j, (w.setCell p v).cell? ⟨r, j, none⟩ = w.cell? ⟨r, j, none⟩ := fun j => World.cell?_setCell_other _ _ _ _ (fun e => hr (by rw [e]))
  refine ⟨fun c => ?_, ?_⟩
  · obtain ⟨y, g1, g2⟩ := h.cell c
    refine ⟨y, (k3 _).trans g1, ?_⟩
    unfold RepCell at g2 ⊢
    split
    · rename_i hc
      rw [if_pos hc] at g2
      obtain ⟨a, cap, e0, e1, e2⟩ := g2
      exact ⟨a, cap, e0, k1 _ _ e1, k1 _ _ e2⟩
    · rename_i hc
      rw [if_neg hc] at g2
      exact g2
  · obtain ⟨a, cap, g1, g2⟩ := h.tr
    exact ⟨a, cap, (k3 _).trans g1, fun i hi => k2 _ _ (g2 i hi)⟩
def Built (B0 : Nat) (w0 : World) (b : Nat) (W : World) : Prop := ∃ r, W.heap[b]? = some (.cells #[.int .u32 0, .int .i32 1, .int .u32 0, .iface 196 (.pointer (some ⟨r, 0, none⟩)), .slice none 0 0] 147 (0, 0)) ∧ RepAt W r ∧ b ≠ r ∧ Below B0 w0 W
theorem blk_cell {w : World} {b : Nat} {cs : Array Value} {t : TypeId} {fr : Nat × Nat} (h : w.heap[b]? = some (.cells cs t fr)) (j : Nat) (v : Value) (hv : cs[j]? = some v) : w.cell? ⟨b, j, none⟩ = some v := by rw [cell_of_heap h]; exact hv
set_option maxRecDepth 100000 in
set_option maxHeartbeats 4000000 in
theorem buildOnce_any (B0 : Nat) (w0 : World) (b g q : Nat) (w : World) (hF : Fresh w b g q 1) (hB : Below B0 w0 w) (hb : B0 ≤ b) :
    Calls Tryz.prog 84 #[.pointer (some ⟨b, 0, none⟩)] w fun e W => e = .returned (.tuple #[]) ∧ Built B0 w0 b W ∧ Keeps b W := by
  have hBu := Lib.hid (build_any b g q w hF)
  have hlt := (Array.getElem?_eq_some_iff.1 hF.blk).1
  have hblk := Lib.hid hF.blk
  clear hF
  go_enter Tryz.func84, Tryz.ntmps84
  go_wp2_with fail
  refine hBu.out.mono ?_
  rintro e w1 ⟨r, rfl, hr, hrep, hb1⟩
  have h1 : w1.heap[b]? = some (.cells #[.int .u32 0, .int .i32 1, .int .u32 0, .nilIface, .slice (some ⟨g, 0, none⟩) 8 q] 147 (0, 0)) := (hb1.block b hlt).trans hblk.out
  have hrb : b ≠ r := by omega
  have c3 := blk_cell h1 3 _ rfl
  have z3 := frozen_of_heap h1 3
  have h2 := heap_set h1 3 (.iface 196 (.pointer (some ⟨r, 0, none⟩)))
  have r2 := RepAt.store hrep c3 hrb (fun _ => by simp) (fun _ => by simp) (.iface 196 (.pointer (some ⟨r, 0, none⟩)))
  have c4 := blk_cell h2 4 (.slice (some ⟨g, 0, none⟩) 8 q) rfl
  have z4 := frozen_of_heap h2 4
  have h3 := heap_set h2 4 (.slice none 0 0)
  have r3 := RepAt.store r2 c4 hrb (fun _ => by simp) (fun _ => by simp) (.slice none 0 0)
  have hb0 : Below B0 w0 w1 := hB.trans (hb1.mono (Nat.le_trans hb (Nat.le_of_lt hlt)))
  have hb3 : Below B0 w0 ((w1.setCell ⟨b, 3, none⟩ (.iface 196 (.pointer (some ⟨r, 0, none⟩)))).setCell ⟨b, 4, none⟩ (.slice none 0 0)) := (hb0.setCell (p := ⟨b, 3, none⟩) hb _).setCell (p := ⟨b, 4, none⟩) hb _
  have hfin : Hid (Built B0 w0 b ((w1.setCell ⟨b, 3, none⟩ (.iface 196 (.pointer (some ⟨r, 0, none⟩)))).setCell ⟨b, 4, none⟩ (.slice none 0 0))) := ⟨r, h3, r3, hrb, hb3⟩
  have hkp : Hid (Keeps b ((w1.setCell ⟨b, 3, none⟩ (.iface 196 (.pointer (some ⟨r, 0, none⟩)))).setCell ⟨b, 4, none⟩ (.slice none 0 0))) := ⟨blk_cell h3 0 _ rfl, blk_cell h3 1 _ rfl, frozen_of_heap h3 0, frozen_of_heap h3 1⟩
  clear hb1 hb0 hb3 r2 r3 hrep h1 h2 h3
  go_wp2_with fail
  go_end0
  exact ⟨rfl, hfin.out, hkp.out⟩
theorem bsr_any (r : Nat) (s : Txt) (hs : s.length ≤ 100000000) (w : World) (hR : RepAt w r) :
    Calls Tryz.prog 194 #[.pointer (some ⟨r, 0, none⟩), .string (B s)] w fun e w' => e = .returned (.string (B (escL s))) ∧ Below w.heap.size w w' := by
  by_cases h : s.length < 32
  · exact bsr_small r s h w hR
  · exact bsr_big r s (by omega) hs w hR
set_option maxRecDepth 100000 in
set_option maxHeartbeats 4000000 in
theorem Replace_any (B0 : Nat) (w0 : World) (b g q : Nat) (s : Txt) (hs : s.length ≤ 100000000) (w : World) (hF : Fresh w b g q 0) (hB : Below B0 w0 w) (hb : B0 ≤ b) :
    Calls Tryz.prog 58 #[.pointer (some ⟨b, 0, none⟩), .string (B s)] w fun e w' => e = .returned (.string (B (escL s))) ∧ Below B0 w0 w' := by
  have hF1 : Fresh (w.setCell ⟨b, 1, none⟩ (.int .i32 1)) b g q 1 := ⟨heap_set hF.blk 1 _, hF.row.same (Below.heap_setCell _ _ _ _ hF.ne), hF.ne⟩
  have hDo := Lib.hid (do_any b (.pointer (some ⟨b, 0, none⟩)) (Built B0 w0 b) w (blk_cell hF.blk 0 _ rfl) (blk_cell hF.blk 1 _ rfl) (frozen_of_heap hF.blk 0) (frozen_of_heap hF.blk 1)
    (buildOnce_any B0 w0 b g q _ hF1 (hB.setCell (p := ⟨b, 1, none⟩) hb _) hb))
  clear hF hF1 hB
  go_enter Tryz.func58, Tryz.ntmps58
  go_wp2_with fail
  refine hDo.out.mono ?_
  rintro e w1 ⟨rfl, W, ⟨r, g1, g2, g3, g4⟩, ⟨k0, k1, k2, k3⟩, rfl⟩
  have r1 : RepAt W.drew r := g2.same fun _ => rfl
  have h1 : W.drew.heap[b]? = some (.cells #[.int .u32 0, .int .i32 1, .int .u32 0, .iface 196 (.pointer (some ⟨r, 0, none⟩)), .slice none 0 0] 147 (0, 0)) := g1
  have h2 := heap_set h1 0 (.int .u32 1)
  have h3 := heap_set h2 1 (.int .i32 0)
  have r2 := RepAt.store r1 (blk_cell h1 0 _ rfl) g3 (fun _ => by simp) (fun _ => by simp) (.int .u32 1)
  have r3 := RepAt.store r2 (blk_cell h2 1 (.int .i32 1) rfl) g3 (fun _ => by simp) (fun _ => by simp) (.int .i32 0)
  have hb3 : Below B0 w0 ((W.drew.setCell ⟨b, 0, none⟩ (.int .u32 1)).setCell ⟨b, 1, none⟩ (.int .i32 0)) := (g4.drew.setCell (p := ⟨b, 0, none⟩) hb _).setCell (p := ⟨b, 1, none⟩) hb _
  have c3 := blk_cell h3 3 (.iface 196 (.pointer (some ⟨r, 0, none⟩))) rfl
  have hlt3 := (Array.getElem?_eq_some_iff.1 h3).1
  clear g1 g2 g4 k0 k1 k2 k3 r1 r2 h1 h2 h3
  generalize (W.drew.setCell ⟨b, 0, none⟩ (.int .u32 1)).setCell ⟨b, 1, none⟩ (.int .i32 0) = W1 at *
  have hRp := Lib.hid (bsr_any r s hs W1 r3)
  have HB := Lib.hid hb3
  clear r3 hb3
  go_wp2_with fail
  refine hRp.out.mono ?_
  rintro e w2 ⟨rfl, hb2⟩
  go_wp2_with fail
  go_ret
  exact ⟨rfl, HB.out.trans (hb2.mono (by omega))⟩
set_option maxRecDepth 100000 in
set_option maxHeartbeats 4000000 in
theorem Escape_any (s : Txt) (hs : s.length ≤ 100000000) (w : World) :
    Calls Tryz.prog 31 #[.string (B s)] w fun e w' => e = .returned (.string (B (escL s))) ∧ Below w.heap.size w w' := by
  have hNew : Hid (∀ W, W = w.alloc (.cells #[.string (B [36]), .string (B [36, 36]), .string (B [32]), .string (B [36, 32]), .string (B [58]), .string (B [36, 58]), .string (B [124]), .string (B [36, 124])] 9) →
      Calls Tryz.prog 57 #[.slice (some ⟨w.heap.size, 0, none⟩) 8 8] W (NewPost W)) := by
    rintro W rfl
    refine NewReplacer_any (some ⟨w.heap.size, 0, none⟩) 8 _ ⟨rfl, by decide, fun _ => ⟨_, rfl, fun j p hj => ?_⟩⟩
    refine ⟨[.string p], rfl, rfl, fun i u hu => ?_⟩
    have hi : i = 0 := by have := (List.getElem?_eq_some_iff.1 hu).1; simp at this; omega
    subst hi
    have ha : ∀ q : Nat, (⟨w.heap.size, 0, none⟩ : Addr).add q = ⟨w.heap.size, q, none⟩ := fun q => by unfold Addr.add; by_cases hq : q = 0 <;> simp [hq]
    rw [ha, show j * Kd.string.sz + 0 = j by show j * 1 + 0 = j; omega, cell_of_heap (heap_alloc_new w _)]
    have hj8 : j < 8 := by have := (List.getElem?_eq_some_iff.1 hj).1; simpa [pairs] using this
    rcases (show j = 0 ∨ j = 1 ∨ j = 2 ∨ j = 3 ∨ j = 4 ∨ j = 5 ∨ j = 6 ∨ j = 7 by omega) with rfl | rfl | rfl | rfl | rfl | rfl | rfl | rfl <;>
      (cases hj; cases hu; rfl)
  go_enter Tryz.func31, Tryz.ntmps31
  go_wp2_with fail
  refine (hNew.out _ rfl).mono ?_
  rintro e w1 ⟨b, g, q, rfl, hb, hF, hb1⟩
  have hbw : w.heap.size ≤ b := by simp at hb; omega
  have hB1 : Below w.heap.size w w1 := ((Below.refl _ w).alloc (Nat.le_refl _) _).trans (hb1.mono (by simp))
  have hRe := Lib.hid (Replace_any w.heap.size w b g q s hs w1 hF hB1 hbw)
  clear hF hB1 hb1 hb
  go_wp2_with fail
  refine hRe.out.mono ?_
  rintro e w2 ⟨rfl, hb2⟩
  go_wp2_with fail
  go_ret
  exact ⟨rfl, hb2⟩
end Go.Proofs.YtbjekebkgidhaaaGreatDoor.Rep
end
section
set_option linter.unusedVariables false
namespace Go.Proofs.YtbjekebkgidhaaaGreatDoor.P
open Go.RowKit Go.Proofs.YtbjekebkgidhaaaGreatDoor.U Go.Proofs.YtbjekebkgidhaaaGreatDoorW.PrintWords Go.Proofs.YtbjekebkgidhaaaGreatDoorW.PrintLast Go.Proofs.YtbjekebkgidhaaaGreatDoorW.PrintMore
def scope_Escape.f (a0 : ByteArray) : Option ByteArray := if a0.data.toList.length ≤ 100000000 then some (B (Sc.escL a0.data.toList)) else none
theorem scope_Escape.calls (a0 : ByteArray) (r : ByteArray) (w : World) (h : scope_Escape.f a0 = some r) :
    Calls Tryz.prog 31 #[.string a0] w fun e w' => e = .returned (.string r) ∧ Below w.heap.size w w' := by
  unfold scope_Escape.f at h
  split at h
  · rename_i hc
    have h' := Option.some.inj h
    subst h'
    have := Rep.Escape_any a0.data.toList hc w
    rw [← B_of] at this
    exact this
  · cases h
end Go.Proofs.YtbjekebkgidhaaaGreatDoor.P
end
section
set_option linter.unusedVariables false
namespace Go.Proofs.YtbjekebkgidhaaaGreatDoor.P
open Go.RowKit Go.Proofs.YtbjekebkgidhaaaGreatDoorW.PrintWords Go.Proofs.YtbjekebkgidhaaaGreatDoorW.PrintLast Go.Proofs.YtbjekebkgidhaaaGreatDoorW.PrintMore
def strconv_Itoa_30.f (a0 : Int) : Option ByteArray := if 0 ≤ a0 ∧ a0 < 100 then some ⟨(Lib.decDigits a0.toNat).toArray⟩ else none
theorem strconv_Itoa_30.calls (a0 : Int) (r : ByteArray) (w : World) (h : strconv_Itoa_30.f a0 = some r) :
    Calls Tryz.prog 30 #[.int .i64 a0] w fun e w' => e = .returned (.string r) ∧ Below w.heap.size w w' := by
  unfold strconv_Itoa_30.f at h
  split at h
  · rename_i hc
    obtain ⟨i, rfl⟩ : ∃ i : Nat, a0 = (i : Int) := ⟨a0.toNat, by omega⟩
    rw [Int.toNat_natCast] at h
    have h' := Option.some.inj h
    subst h'
    exact (Tryz.strconv_Itoa_small i (by omega) w).mono fun e w' ⟨he, hw⟩ => ⟨he, hw ▸ Below.refl _ _⟩
  · cases h
end Go.Proofs.YtbjekebkgidhaaaGreatDoor.P
end
section
namespace Go.Proofs.YtbjekebkgidhaaaGreatDoor.P
open Go.RowKit Go.Proofs.YtbjekebkgidhaaaGreatDoorW.PrintWords Go.Proofs.YtbjekebkgidhaaaGreatDoorW.PrintLast Go.Proofs.YtbjekebkgidhaaaGreatDoorW.PrintMore
attribute [local go_sem] max2_int min2_int max_two min_two max_three min_three max_four min_four
set_option linter.unusedVariables false
set_option linter.unusedSimpArgs false
theorem wrap_two_YtbjekebkgidhaaaGreatDoorPPrintEdge0 (a b : Nat) (h : a + b ≤ 9223372036854775807) : wrap64 ((a : Int) + (b : Int)) = (a : Int) + (b : Int) := by unfold wrap64; omega
def print_edge.j0 : Nat → ByteArray → ByteArray → List ByteArray → List ByteArray → List ByteArray → List ByteArray → ByteArray → ByteArray → Option (ByteArray)
  | 0, _, _, _, _, _, _, _, _ => none
  | k + 1, x5, x6, x146000, x146001, x146002, x146003, x146004, x146005 => (print_row.f (⟨#[98, 117, 105, 108, 100]⟩ : ByteArray) x146000).bind fun t149 => (if x6.size + t149.size ≤ 9223372036854775807 then (if (x6 ++ t149).size + 2 ≤ 9223372036854775807 then (if ((x6 ++ t149) ++ (⟨#[58, 32]⟩ : ByteArray)).size + x5.size ≤ 9223372036854775807 then ((print_row.f (⟨#[]⟩ : ByteArray) x146001).bind fun t150 => (if (((x6 ++ t149) ++ (⟨#[58, 32]⟩ : ByteArray)) ++ x5).size + t150.size ≤ 9223372036854775807 then ((print_row.f (⟨#[32, 124]⟩ : ByteArray) x146002).bind fun t151 => (if ((((x6 ++ t149) ++ (⟨#[58, 32]⟩ : ByteArray)) ++ x5) ++ t150).size + t151.size ≤ 9223372036854775807 then ((print_row.f (⟨#[32, 124, 124]⟩ : ByteArray) x146003).bind fun t152 => (if (((((x6 ++ t149) ++ (⟨#[58, 32]⟩ : ByteArray)) ++ x5) ++ t150) ++ t151).size + t152.size ≤ 9223372036854775807 then (if ((((((x6 ++ t149) ++ (⟨#[58, 32]⟩ : ByteArray)) ++ x5) ++ t150) ++ t151) ++ t152).size + 1 ≤ 9223372036854775807 then (some (((((((x6 ++ t149) ++ (⟨#[58, 32]⟩ : ByteArray)) ++ x5) ++ t150) ++ t151) ++ t152) ++ (⟨#[10]⟩ : ByteArray))) else (none)) else (none))) else (none))) else (none))) else (none)) else (none)) else (none))
def print_edge.f (k : Nat) (a0 : Int) (l1_0 : List ByteArray) (l1_1 : List ByteArray) (l1_2 : List ByteArray) (l1_3 : List ByteArray) (a1_4 : ByteArray) (a1_5 : ByteArray) : Option (ByteArray) := (strconv_Itoa_30.f a0).bind fun t146 => (if 1 + t146.size ≤ 9223372036854775807 then (if 5 + ((⟨#[114]⟩ : ByteArray) ++ t146).size ≤ 9223372036854775807 then (if ((⟨#[114, 117, 108, 101, 32]⟩ : ByteArray) ++ ((⟨#[114]⟩ : ByteArray) ++ t146)).size + 13 ≤ 9223372036854775807 then ((scope_Escape.f a1_4).bind fun t147 => (if (((⟨#[114, 117, 108, 101, 32]⟩ : ByteArray) ++ ((⟨#[114]⟩ : ByteArray) ++ t146)) ++ (⟨#[10, 32, 32, 99, 111, 109, 109, 97, 110, 100, 32, 61, 32]⟩ : ByteArray)).size + t147.size ≤ 9223372036854775807 then (if ((((⟨#[114, 117, 108, 101, 32]⟩ : ByteArray) ++ ((⟨#[114]⟩ : ByteArray) ++ t146)) ++ (⟨#[10, 32, 32, 99, 111, 109, 109, 97, 110, 100, 32, 61, 32]⟩ : ByteArray)) ++ t147).size + 1 ≤ 9223372036854775807 then (if a1_5.toList = ([] : List UInt8) then (print_edge.j0 k ((⟨#[114]⟩ : ByteArray) ++ t146) (((((⟨#[114, 117, 108, 101, 32]⟩ : ByteArray) ++ ((⟨#[114]⟩ : ByteArray) ++ t146)) ++ (⟨#[10, 32, 32, 99, 111, 109, 109, 97, 110, 100, 32, 61, 32]⟩ : ByteArray)) ++ t147) ++ (⟨#[10]⟩ : ByteArray)) l1_0 l1_1 l1_2 l1_3 a1_4 a1_5) else ((scope_Escape.f a1_5).bind fun t148 => (if 12 + t148.size ≤ 9223372036854775807 then (if ((⟨#[32, 32, 100, 101, 112, 102, 105, 108, 101, 32, 61, 32]⟩ : ByteArray) ++ t148).size + 1 ≤ 9223372036854775807 then (if (((((⟨#[114, 117, 108, 101, 32]⟩ : ByteArray) ++ ((⟨#[114]⟩ : ByteArray) ++ t146)) ++ (⟨#[10, 32, 32, 99, 111, 109, 109, 97, 110, 100, 32, 61, 32]⟩ : ByteArray)) ++ t147) ++ (⟨#[10]⟩ : ByteArray)).size + (((⟨#[32, 32, 100, 101, 112, 102, 105, 108, 101, 32, 61, 32]⟩ : ByteArray) ++ t148) ++ (⟨#[10]⟩ : ByteArray)).size ≤ 9223372036854775807 then (print_edge.j0 k ((⟨#[114]⟩ : ByteArray) ++ t146) ((((((⟨#[114, 117, 108, 101, 32]⟩ : ByteArray) ++ ((⟨#[114]⟩ : ByteArray) ++ t146)) ++ (⟨#[10, 32, 32, 99, 111, 109, 109, 97, 110, 100, 32, 61, 32]⟩ : ByteArray)) ++ t147) ++ (⟨#[10]⟩ : ByteArray)) ++ (((⟨#[32, 32, 100, 101, 112, 102, 105, 108, 101, 32, 61, 32]⟩ : ByteArray) ++ t148) ++ (⟨#[10]⟩ : ByteArray))) l1_0 l1_1 l1_2 l1_3 a1_4 a1_5) else (none)) else (none)) else (none)))) else (none)) else (none))) else (none)) else (none)) else (none))
theorem print_edge.mono_l : ∀ k, (∀ y0 y1 y2 y3 y4 y5 y6 y7, LeO (print_edge.j0 k y0 y1 y2 y3 y4 y5 y6 y7) (print_edge.j0 (k + 1) y0 y1 y2 y3 y4 y5 y6 y7))
  | 0 => fun _ _ _ _ _ _ _ _ r h => by simp [print_edge.j0] at h
  | k + 1 => by
    have ih0 := print_edge.mono_l k
    · intro y0 y1 y2 y3 y4 y5 y6 y7
      unfold print_edge.j0
      repeat' first
      | (with_reducible exact ih0 _ _ _ _ _ _ _ _)
      | (with_reducible exact LeO.refl _)
      | (with_reducible exact LeO.none _)
      | (with_reducible refine LeO.ite ?_ ?_)
      | (with_reducible refine LeO.bind ?_ (fun _ => ?_))
      | exact ih0 _ _ _ _ _ _ _ _
      | exact LeO.none _
      | refine LeO.ite ?_ ?_
      | refine LeO.bind ?_ (fun _ => ?_)
theorem print_edge.mono : ∀ a0 a1 a2 a3 a4 a5 a6 k, LeO (print_edge.f k a0 a1 a2 a3 a4 a5 a6) (print_edge.f (k + 1) a0 a1 a2 a3 a4 a5 a6) := by
  intro a0 a1 a2 a3 a4 a5 a6 k
  have ih0 := print_edge.mono_l k
  unfold print_edge.f
  repeat' first
      | (with_reducible exact ih0 _ _ _ _ _ _ _ _)
      | (with_reducible exact LeO.refl _)
      | (with_reducible exact LeO.none _)
      | (with_reducible refine LeO.ite ?_ ?_)
      | (with_reducible refine LeO.bind ?_ (fun _ => ?_))
      | exact ih0 _ _ _ _ _ _ _ _
      | exact LeO.none _
      | refine LeO.ite ?_ ?_
      | refine LeO.bind ?_ (fun _ => ?_)
def print_edge.T5 : Bool × List (List Nat × List Nat) := (true, [([], []), ([], []), ([1], [1]), ([2], [2]), ([0, 3], [0, 3]), ([4], [4]), ([], []), ([5, 6], [5, 6]), ([], []), ([8], [8]), ([9, 3], [9]), ([7, 10], [7, 10]), ([], []), ([12], [12]), ([13, 10], [13]), ([11, 14], [11, 14]), ([], []), ([16], [16]), ([17, 14], [17]), ([15, 18], [15, 18]), ([19], [19]), ([20, 18, 0, 1, 2, 3, 4, 5, 6, 7, 8, 9, 10, 11, 12, 13, 14, 15, 16, 17, 18, 19, 20], [20])])
def print_edge.B5 : List Nat := [0, 0, 2, 6, 15, 31, 0, 127, 0, 256, 782, 2047, 0, 4096, 14094, 32767, 0, 65536, 227086, 524287, 1048575, 2097151]
theorem print_edge.tab5 : rtab .any (opsOf Tryz.f14 5) = print_edge.T5 := by kernel_rfl
theorem print_edge.bits5 : waitsOk print_edge.T5.2 print_edge.B5 = true := by kernel_rfl
set_option maxHeartbeats 8000000 in
set_option maxRecDepth 100000 in
theorem print_edge.calls (k : Nat) (a0 : Int) (A1_0 : Option Addr) (c1_0 : Nat) (l1_0 : List ByteArray) (A1_1 : Option Addr) (c1_1 : Nat) (l1_1 : List ByteArray) (A1_2 : Option Addr) (c1_2 : Nat) (l1_2 : List ByteArray) (A1_3 : Option Addr) (c1_3 : Nat) (l1_3 : List ByteArray) (a1_4 : ByteArray) (a1_5 : ByteArray) (r : ByteArray) (w : World) (hr1_0 : Kd.C Kd.string w A1_0 l1_0.length l1_0) (hc1_0 : l1_0.length ≤ c1_0) (hr1_1 : Kd.C Kd.string w A1_1 l1_1.length l1_1) (hc1_1 : l1_1.length ≤ c1_1) (hr1_2 : Kd.C Kd.string w A1_2 l1_2.length l1_2) (hc1_2 : l1_2.length ≤ c1_2) (hr1_3 : Kd.C Kd.string w A1_3 l1_3.length l1_3) (hc1_3 : l1_3.length ≤ c1_3) (h : print_edge.f k a0 l1_0 l1_1 l1_2 l1_3 a1_4 a1_5 = some r) :
    Calls Tryz.prog 14 #[.int .i64 a0, .agg #[.slice A1_0 l1_0.length c1_0, .slice A1_1 l1_1.length c1_1, .slice A1_2 l1_2.length c1_2, .slice A1_3 l1_3.length c1_3, .string a1_4, .string a1_5]] w fun e w' => e = .returned (.string r) ∧ Below w.heap.size w w' := by
  have hu47 := Tryz.underlying47
  have HR1_0 := Aside0.mk hr1_0
  have HC1_0 := Aside0.mk hc1_0
  clear hr1_0 hc1_0
  have HR1_1 := Aside0.mk hr1_1
  have HC1_1 := Aside0.mk hc1_1
  clear hr1_1 hc1_1
  have HR1_2 := Aside0.mk hr1_2
  have HC1_2 := Aside0.mk hc1_2
  clear hr1_2 hc1_2
  have HR1_3 := Aside0.mk hr1_3
  have HC1_3 := Aside0.mk hc1_3
  clear hr1_3 hc1_3
  have HB := Aside0.mk (Below.refl w.heap.size w)
  have H : ((strconv_Itoa_30.f a0).bind fun t146 => (if 1 + t146.size ≤ 9223372036854775807 then (if 5 + ((⟨#[114]⟩ : ByteArray) ++ t146).size ≤ 9223372036854775807 then (if ((⟨#[114, 117, 108, 101, 32]⟩ : ByteArray) ++ ((⟨#[114]⟩ : ByteArray) ++ t146)).size + 13 ≤ 9223372036854775807 then ((scope_Escape.f a1_4).bind fun t147 => (if (((⟨#[114, 117, 108, 101, 32]⟩ : ByteArray) ++ ((⟨#[114]⟩ : ByteArray) ++ t146)) ++ (⟨#[10, 32, 32, 99, 111, 109, 109, 97, 110, 100, 32, 61, 32]⟩ : ByteArray)).size + t147.size ≤ 9223372036854775807 then (if ((((⟨#[114, 117, 108, 101, 32]⟩ : ByteArray) ++ ((⟨#[114]⟩ : ByteArray) ++ t146)) ++ (⟨#[10, 32, 32, 99, 111, 109, 109, 97, 110, 100, 32, 61, 32]⟩ : ByteArray)) ++ t147).size + 1 ≤ 9223372036854775807 then (if a1_5.toList = ([] : List UInt8) then (print_edge.j0 k ((⟨#[114]⟩ : ByteArray) ++ t146) (((((⟨#[114, 117, 108, 101, 32]⟩ : ByteArray) ++ ((⟨#[114]⟩ : ByteArray) ++ t146)) ++ (⟨#[10, 32, 32, 99, 111, 109, 109, 97, 110, 100, 32, 61, 32]⟩ : ByteArray)) ++ t147) ++ (⟨#[10]⟩ : ByteArray)) l1_0 l1_1 l1_2 l1_3 a1_4 a1_5) else ((scope_Escape.f a1_5).bind fun t148 => (if 12 + t148.size ≤ 9223372036854775807 then (if ((⟨#[32, 32, 100, 101, 112, 102, 105, 108, 101, 32, 61, 32]⟩ : ByteArray) ++ t148).size + 1 ≤ 9223372036854775807 then (if (((((⟨#[114, 117, 108, 101, 32]⟩ : ByteArray) ++ ((⟨#[114]⟩ : ByteArray) ++ t146)) ++ (⟨#[10, 32, 32, 99, 111, 109, 109, 97, 110, 100, 32, 61, 32]⟩ : ByteArray)) ++ t147) ++ (⟨#[10]⟩ : ByteArray)).size + (((⟨#[32, 32, 100, 101, 112, 102, 105, 108, 101, 32, 61, 32]⟩ : ByteArray) ++ t148) ++ (⟨#[10]⟩ : ByteArray)).size ≤ 9223372036854775807 then (print_edge.j0 k ((⟨#[114]⟩ : ByteArray) ++ t146) ((((((⟨#[114, 117, 108, 101, 32]⟩ : ByteArray) ++ ((⟨#[114]⟩ : ByteArray) ++ t146)) ++ (⟨#[10, 32, 32, 99, 111, 109, 109, 97, 110, 100, 32, 61, 32]⟩ : ByteArray)) ++ t147) ++ (⟨#[10]⟩ : ByteArray)) ++ (((⟨#[32, 32, 100, 101, 112, 102, 105, 108, 101, 32, 61, 32]⟩ : ByteArray) ++ t148) ++ (⟨#[10]⟩ : ByteArray))) l1_0 l1_1 l1_2 l1_3 a1_4 a1_5) else (none)) else (none)) else (none)))) else (none)) else (none))) else (none)) else (none)) else (none))) = some r := h
  clear h
  replace H := Option.bind_eq_some_iff.mp H
  obtain ⟨t146, A30, H⟩ := H
  replace H : (if 1 + t146.size ≤ 9223372036854775807 then (if 5 + ((⟨#[114]⟩ : ByteArray) ++ t146).size ≤ 9223372036854775807 then (if ((⟨#[114, 117, 108, 101, 32]⟩ : ByteArray) ++ ((⟨#[114]⟩ : ByteArray) ++ t146)).size + 13 ≤ 9223372036854775807 then ((scope_Escape.f a1_4).bind fun t147 => (if (((⟨#[114, 117, 108, 101, 32]⟩ : ByteArray) ++ ((⟨#[114]⟩ : ByteArray) ++ t146)) ++ (⟨#[10, 32, 32, 99, 111, 109, 109, 97, 110, 100, 32, 61, 32]⟩ : ByteArray)).size + t147.size ≤ 9223372036854775807 then (if ((((⟨#[114, 117, 108, 101, 32]⟩ : ByteArray) ++ ((⟨#[114]⟩ : ByteArray) ++ t146)) ++ (⟨#[10, 32, 32, 99, 111, 109, 109, 97, 110, 100, 32, 61, 32]⟩ : ByteArray)) ++ t147).size + 1 ≤ 9223372036854775807 then (if a1_5.toList = ([] : List UInt8) then (print_edge.j0 k ((⟨#[114]⟩ : ByteArray) ++ t146) (((((⟨#[114, 117, 108, 101, 32]⟩ : ByteArray) ++ ((⟨#[114]⟩ : ByteArray) ++ t146)) ++ (⟨#[10, 32, 32, 99, 111, 109, 109, 97, 110, 100, 32, 61, 32]⟩ : ByteArray)) ++ t147) ++ (⟨#[10]⟩ : ByteArray)) l1_0 l1_1 l1_2 l1_3 a1_4 a1_5) else ((scope_Escape.f a1_5).bind fun t148 => (if 12 + t148.size ≤ 9223372036854775807 then (if ((⟨#[32, 32, 100, 101, 112, 102, 105, 108, 101, 32, 61, 32]⟩ : ByteArray) ++ t148).size + 1 ≤ 9223372036854775807 then (if (((((⟨#[114, 117, 108, 101, 32]⟩ : ByteArray) ++ ((⟨#[114]⟩ : ByteArray) ++ t146)) ++ (⟨#[10, 32, 32, 99, 111, 109, 109, 97, 110, 100, 32, 61, 32]⟩ : ByteArray)) ++ t147) ++ (⟨#[10]⟩ : ByteArray)).size + (((⟨#[32, 32, 100, 101, 112, 102, 105, 108, 101, 32, 61, 32]⟩ : ByteArray) ++ t148) ++ (⟨#[10]⟩ : ByteArray)).size ≤ 9223372036854775807 then (print_edge.j0 k ((⟨#[114]⟩ : ByteArray) ++ t146) ((((((⟨#[114, 117, 108, 101, 32]⟩ : ByteArray) ++ ((⟨#[114]⟩ : ByteArray) ++ t146)) ++ (⟨#[10, 32, 32, 99, 111, 109, 109, 97, 110, 100, 32, 61, 32]⟩ : ByteArray)) ++ t147) ++ (⟨#[10]⟩ : ByteArray)) ++ (((⟨#[32, 32, 100, 101, 112, 102, 105, 108, 101, 32, 61, 32]⟩ : ByteArray) ++ t148) ++ (⟨#[10]⟩ : ByteArray))) l1_0 l1_1 l1_2 l1_3 a1_4 a1_5) else (none)) else (none)) else (none)))) else (none)) else (none))) else (none)) else (none)) else (none)) = some r := H
  have A3 := Aside0.mk A30
  clear A30
  by_cases c4 : 1 + t146.size ≤ 9223372036854775807
  · rw [if_pos c4] at H
    have c4b0 := eq_true c4
    have c4b1 : decide (1 + t146.size ≤ 9223372036854775807) = true := decide_eq_true c4
    try have c4b2 : (9223372036854775807 < 1 + t146.size) = False := eq_false (Nat.not_lt.2 c4)
    have c4x : 1 + t146.size ≤ 9223372036854775807 := by have hh_ := c4; (try simp only [ByteArray.size_append] at hh_); exact hh_
    try have c4x0 : (9223372036854775807 < 1 + t146.size) = False := eq_false (by omega)
    by_cases c5 : 5 + ((⟨#[114]⟩ : ByteArray) ++ t146).size ≤ 9223372036854775807
    · rw [if_pos c5] at H
      have c5b0 := eq_true c5
      have c5b1 : decide (5 + ((⟨#[114]⟩ : ByteArray) ++ t146).size ≤ 9223372036854775807) = true := decide_eq_true c5
      try have c5b2 : (9223372036854775807 < 5 + ((⟨#[114]⟩ : ByteArray) ++ t146).size) = False := eq_false (Nat.not_lt.2 c5)
      have c5x : 5 + (1 + t146.size) ≤ 9223372036854775807 := by have hh_ := c5; (try simp only [ByteArray.size_append] at hh_); exact hh_
      try have c5x0 : (9223372036854775807 < 5 + (1 + t146.size)) = False := eq_false (by omega)
      by_cases c6 : ((⟨#[114, 117, 108, 101, 32]⟩ : ByteArray) ++ ((⟨#[114]⟩ : ByteArray) ++ t146)).size + 13 ≤ 9223372036854775807
      · rw [if_pos c6] at H
        have c6b0 := eq_true c6
        have c6b1 : decide (((⟨#[114, 117, 108, 101, 32]⟩ : ByteArray) ++ ((⟨#[114]⟩ : ByteArray) ++ t146)).size + 13 ≤ 9223372036854775807) = true := decide_eq_true c6
        try have c6b2 : (9223372036854775807 < ((⟨#[114, 117, 108, 101, 32]⟩ : ByteArray) ++ ((⟨#[114]⟩ : ByteArray) ++ t146)).size + 13) = False := eq_false (Nat.not_lt.2 c6)
        have c6x : 5 + (1 + t146.size) + 13 ≤ 9223372036854775807 := by have hh_ := c6; (try simp only [ByteArray.size_append] at hh_); exact hh_
        try have c6x0 : (9223372036854775807 < 5 + (1 + t146.size) + 13) = False := eq_false (by omega)
        try have c6x1 : (9223372036854775794 < 5 + (1 + t146.size)) = False := eq_false (by omega)
        try have c6b7 : (9223372036854775794 < ((⟨#[114, 117, 108, 101, 32]⟩ : ByteArray) ++ ((⟨#[114]⟩ : ByteArray) ++ t146)).size) = False := eq_false (by omega)
        replace H := Option.bind_eq_some_iff.mp H
        obtain ⟨t147, A70, H⟩ := H
        replace H : (if (((⟨#[114, 117, 108, 101, 32]⟩ : ByteArray) ++ ((⟨#[114]⟩ : ByteArray) ++ t146)) ++ (⟨#[10, 32, 32, 99, 111, 109, 109, 97, 110, 100, 32, 61, 32]⟩ : ByteArray)).size + t147.size ≤ 9223372036854775807 then (if ((((⟨#[114, 117, 108, 101, 32]⟩ : ByteArray) ++ ((⟨#[114]⟩ : ByteArray) ++ t146)) ++ (⟨#[10, 32, 32, 99, 111, 109, 109, 97, 110, 100, 32, 61, 32]⟩ : ByteArray)) ++ t147).size + 1 ≤ 9223372036854775807 then (if a1_5.toList = ([] : List UInt8) then (print_edge.j0 k ((⟨#[114]⟩ : ByteArray) ++ t146) (((((⟨#[114, 117, 108, 101, 32]⟩ : ByteArray) ++ ((⟨#[114]⟩ : ByteArray) ++ t146)) ++ (⟨#[10, 32, 32, 99, 111, 109, 109, 97, 110, 100, 32, 61, 32]⟩ : ByteArray)) ++ t147) ++ (⟨#[10]⟩ : ByteArray)) l1_0 l1_1 l1_2 l1_3 a1_4 a1_5) else ((scope_Escape.f a1_5).bind fun t148 => (if 12 + t148.size ≤ 9223372036854775807 then (if ((⟨#[32, 32, 100, 101, 112, 102, 105, 108, 101, 32, 61, 32]⟩ : ByteArray) ++ t148).size + 1 ≤ 9223372036854775807 then (if (((((⟨#[114, 117, 108, 101, 32]⟩ : ByteArray) ++ ((⟨#[114]⟩ : ByteArray) ++ t146)) ++ (⟨#[10, 32, 32, 99, 111, 109, 109, 97, 110, 100, 32, 61, 32]⟩ : ByteArray)) ++ t147) ++ (⟨#[10]⟩ : ByteArray)).size + (((⟨#[32, 32, 100, 101, 112, 102, 105, 108, 101, 32, 61, 32]⟩ : ByteArray) ++ t148) ++ (⟨#[10]⟩ : ByteArray)).size ≤ 9223372036854775807 then (print_edge.j0 k ((⟨#[114]⟩ : ByteArray) ++ t146) ((((((⟨#[114, 117, 108, 101, 32]⟩ : ByteArray) ++ ((⟨#[114]⟩ : ByteArray) ++ t146)) ++ (⟨#[10, 32, 32, 99, 111, 109, 109, 97, 110, 100, 32, 61, 32]⟩ : ByteArray)) ++ t147) ++ (⟨#[10]⟩ : ByteArray)) ++ (((⟨#[32, 32, 100, 101, 112, 102, 105, 108, 101, 32, 61, 32]⟩ : ByteArray) ++ t148) ++ (⟨#[10]⟩ : ByteArray))) l1_0 l1_1 l1_2 l1_3 a1_4 a1_5) else (none)) else (none)) else (none)))) else (none)) else (none)) = some r := H
        have A7 := Aside0.mk A70
        clear A70
        by_cases c8 : (((⟨#[114, 117, 108, 101, 32]⟩ : ByteArray) ++ ((⟨#[114]⟩ : ByteArray) ++ t146)) ++ (⟨#[10, 32, 32, 99, 111, 109, 109, 97, 110, 100, 32, 61, 32]⟩ : ByteArray)).size + t147.size ≤ 9223372036854775807
        · rw [if_pos c8] at H
          have c8b0 := eq_true c8
          have c8b1 : decide ((((⟨#[114, 117, 108, 101, 32]⟩ : ByteArray) ++ ((⟨#[114]⟩ : ByteArray) ++ t146)) ++ (⟨#[10, 32, 32, 99, 111, 109, 109, 97, 110, 100, 32, 61, 32]⟩ : ByteArray)).size + t147.size ≤ 9223372036854775807) = true := decide_eq_true c8
          try have c8b2 : (9223372036854775807 < (((⟨#[114, 117, 108, 101, 32]⟩ : ByteArray) ++ ((⟨#[114]⟩ : ByteArray) ++ t146)) ++ (⟨#[10, 32, 32, 99, 111, 109, 109, 97, 110, 100, 32, 61, 32]⟩ : ByteArray)).size + t147.size) = False := eq_false (Nat.not_lt.2 c8)
          have c8x : 5 + (1 + t146.size) + 13 + t147.size ≤ 9223372036854775807 := by have hh_ := c8; (try simp only [ByteArray.size_append] at hh_); exact hh_
          try have c8x0 : (9223372036854775807 < 5 + (1 + t146.size) + 13 + t147.size) = False := eq_false (by omega)
          by_cases c9 : ((((⟨#[114, 117, 108, 101, 32]⟩ : ByteArray) ++ ((⟨#[114]⟩ : ByteArray) ++ t146)) ++ (⟨#[10, 32, 32, 99, 111, 109, 109, 97, 110, 100, 32, 61, 32]⟩ : ByteArray)) ++ t147).size + 1 ≤ 9223372036854775807
          · rw [if_pos c9] at H
            have c9b0 := eq_true c9
            have c9b1 : decide (((((⟨#[114, 117, 108, 101, 32]⟩ : ByteArray) ++ ((⟨#[114]⟩ : ByteArray) ++ t146)) ++ (⟨#[10, 32, 32, 99, 111, 109, 109, 97, 110, 100, 32, 61, 32]⟩ : ByteArray)) ++ t147).size + 1 ≤ 9223372036854775807) = true := decide_eq_true c9
            try have c9b2 : (9223372036854775807 < ((((⟨#[114, 117, 108, 101, 32]⟩ : ByteArray) ++ ((⟨#[114]⟩ : ByteArray) ++ t146)) ++ (⟨#[10, 32, 32, 99, 111, 109, 109, 97, 110, 100, 32, 61, 32]⟩ : ByteArray)) ++ t147).size + 1) = False := eq_false (Nat.not_lt.2 c9)
            have c9x : 5 + (1 + t146.size) + 13 + t147.size + 1 ≤ 9223372036854775807 := by have hh_ := c9; (try simp only [ByteArray.size_append] at hh_); exact hh_
            try have c9x0 : (9223372036854775807 < 5 + (1 + t146.size) + 13 + t147.size + 1) = False := eq_false (by omega)
            try have c9x1 : (9223372036854775806 < 5 + (1 + t146.size) + 13 + t147.size) = False := eq_false (by omega)
            try have c9b7 : (9223372036854775806 < ((((⟨#[114, 117, 108, 101, 32]⟩ : ByteArray) ++ ((⟨#[114]⟩ : ByteArray) ++ t146)) ++ (⟨#[10, 32, 32, 99, 111, 109, 109, 97, 110, 100, 32, 61, 32]⟩ : ByteArray)) ++ t147).size) = False := eq_false (by omega)
            have HC10 := Aside0.mk H
            clear H
            go_enter Tryz.func14, Tryz.ntmps14
            go_upto_if 20 with (first | ((with_reducible refine gate_dst (N := 3) rfl ?_); refine box_event ?hg (N := 3) ?hd (cs := #[.slice A1_0 l1_0.length c1_0, .slice A1_1 l1_1.length c1_1, .slice A1_2 l1_2.length c1_2, .slice A1_3 l1_3.length c1_3, .string a1_4, .string a1_5]) (t := 47) ?hr ?_; (case hd => rfl); (case hg => rfl); (case hr => first | (go_simp; done) | (go_simp; rfl)); intro gb145 hg w11 hbox hb; have n0_ := Aside0.mk (below_step (by repeat (first | (with_reducible first | exact HB.out | apply below_alloc | apply pw_below_drewN | apply below_drew1) | exact HB.out)) hb); have n1_ := Aside0.mk (hbox); have n2_ := Aside0.mk ((by rw [hg]; exact (below_size (by repeat (first | (with_reducible first | exact HB.out | apply below_alloc | apply pw_below_drewN | apply below_drew1) | exact HB.out))) : w.heap.size ≤ gb145)); have n3_ := Aside0.mk ((by rw [hg]; exact (below_size (by repeat (first | (with_reducible first | exact HB.out | apply below_alloc | apply pw_below_drewN | apply below_drew1) | exact HB.out))) : w.heap.size ≤ gb145)); clear HB; have HB := n0_; have BK145 := n1_; have GW145 := n2_; have GE145 := n3_; clear n0_ n1_ n2_ n3_; clear hb hbox hg) | ((with_reducible refine gate_callee (f := 30) rfl ?_); refine goesL_ (some 8) rfl rfl Tryz.func30 (by kernel_rfl) rfl #[.int .i64 a0] rfl (by (try simp only [List.map_toArray, List.map_cons, List.map_nil]); first | done | rfl | (simp only [List.length_drop, List.length_take]; rfl)) ?_; (with_reducible refine (strconv_Itoa_30.calls a0 t146 _ A3.out).mono ?_); rintro e w12 ⟨rfl, hb⟩; refine ⟨_, rfl, ?_⟩; have n0_ := Aside0.mk (blk_below (g := gb145) (o := .cells #[.slice A1_0 l1_0.length c1_0, .slice A1_1 l1_1.length c1_1, .slice A1_2 l1_2.length c1_2, .slice A1_3 l1_3.length c1_3, .string a1_4, .string a1_5] 47 (0, 0)) (by (with_reducible repeat (first | refine blk_drewN ?_ _ | refine blk_drew ?_ | refine blk_alloc ?_ _)); exact BK145.out) hb); have n1_ := Aside0.mk (below_step (by repeat (first | (with_reducible first | exact HB.out | apply below_alloc | apply pw_below_drewN | apply below_drew1 | refine below_set ?_ GE145.out) | exact HB.out)) hb); clear BK145; clear HB; have BK145 := n0_; have HB := n1_; clear n0_ n1_; (try clear hb); (try clear hb2); (try clear hk); (try clear hi); have hcz13_0 : w12.cell? ⟨gb145, 0, none⟩ = some (.slice A1_0 l1_0.length c1_0) := (blk_cell BK145.out 0).trans rfl; have hcz13_1 : w12.cell? ⟨gb145, 1, none⟩ = some (.slice A1_1 l1_1.length c1_1) := (blk_cell BK145.out 1).trans rfl; have hcz13_2 : w12.cell? ⟨gb145, 2, none⟩ = some (.slice A1_2 l1_2.length c1_2) := (blk_cell BK145.out 2).trans rfl; have hcz13_3 : w12.cell? ⟨gb145, 3, none⟩ = some (.slice A1_3 l1_3.length c1_3) := (blk_cell BK145.out 3).trans rfl; have hcz13_4 : w12.cell? ⟨gb145, 4, none⟩ = some (.string a1_4) := (blk_cell BK145.out 4).trans rfl; have hcz13_5 : w12.cell? ⟨gb145, 5, none⟩ = some (.string a1_5) := (blk_cell BK145.out 5).trans rfl; have hfz13_0 := blk_frozen BK145.out 0; have hfz13_1 := blk_frozen BK145.out 1; have hfz13_2 := blk_frozen BK145.out 2; have hfz13_3 := blk_frozen BK145.out 3; have hfz13_4 := blk_frozen BK145.out 4; have hfz13_5 := blk_frozen BK145.out 5) | ((with_reducible refine gate_callee (f := 31) rfl ?_); refine goesL_ (some 15) rfl rfl Tryz.func31 (by kernel_rfl) rfl #[.string a1_4] rfl (by (try simp only [List.map_toArray, List.map_cons, List.map_nil]); first | done | rfl | (simp only [List.length_drop, List.length_take]; rfl)) ?_; (with_reducible refine (scope_Escape.calls a1_4 t147 _ A7.out).mono ?_); rintro e w14 ⟨rfl, hb⟩; refine ⟨_, rfl, ?_⟩; have n0_ := Aside0.mk (blk_below (g := gb145) (o := .cells #[.slice A1_0 l1_0.length c1_0, .slice A1_1 l1_1.length c1_1, .slice A1_2 l1_2.length c1_2, .slice A1_3 l1_3.length c1_3, .string a1_4, .string a1_5] 47 (0, 0)) (by (with_reducible repeat (first | refine blk_drewN ?_ _ | refine blk_drew ?_ | refine blk_alloc ?_ _)); exact BK145.out) hb); have n1_ := Aside0.mk (below_step (by repeat (first | (with_reducible first | exact HB.out | apply below_alloc | apply pw_below_drewN | apply below_drew1 | refine below_set ?_ GE145.out) | exact HB.out)) hb); clear BK145; clear HB; have BK145 := n0_; have HB := n1_; clear n0_ n1_; (try clear hb); (try clear hb2); (try clear hk); (try clear hi); have hcz15_0 : w14.cell? ⟨gb145, 0, none⟩ = some (.slice A1_0 l1_0.length c1_0) := (blk_cell BK145.out 0).trans rfl; have hcz15_1 : w14.cell? ⟨gb145, 1, none⟩ = some (.slice A1_1 l1_1.length c1_1) := (blk_cell BK145.out 1).trans rfl; have hcz15_2 : w14.cell? ⟨gb145, 2, none⟩ = some (.slice A1_2 l1_2.length c1_2) := (blk_cell BK145.out 2).trans rfl; have hcz15_3 : w14.cell? ⟨gb145, 3, none⟩ = some (.slice A1_3 l1_3.length c1_3) := (blk_cell BK145.out 3).trans rfl; have hcz15_4 : w14.cell? ⟨gb145, 4, none⟩ = some (.string a1_4) := (blk_cell BK145.out 4).trans rfl; have hcz15_5 : w14.cell? ⟨gb145, 5, none⟩ = some (.string a1_5) := (blk_cell BK145.out 5).trans rfl; have hfz15_0 := blk_frozen BK145.out 0; have hfz15_1 := blk_frozen BK145.out 1; have hfz15_2 := blk_frozen BK145.out 2; have hfz15_3 := blk_frozen BK145.out 3; have hfz15_4 := blk_frozen BK145.out 4; have hfz15_5 := blk_frozen BK145.out 5))
            (try simp only [Act.put, pA,pB,pC])
            go_cut [6] (fun v6 wc => ∃ (kq : Nat) (x6_9 : ByteArray), v6 = .string x6_9 ∧ Aside0 (print_edge.j0 kq ((⟨#[114]⟩ : ByteArray) ++ t146) x6_9 l1_0 l1_1 l1_2 l1_3 a1_4 a1_5 = some r) ∧ Aside0 (kq ≤ k) ∧ Aside0 (wc.heap[gb145]? = some (.cells #[(.slice A1_0 l1_0.length c1_0), (.slice A1_1 l1_1.length c1_1), (.slice A1_2 l1_2.length c1_2), (.slice A1_3 l1_3.length c1_3), .string a1_4, .string a1_5] 47 (0, 0))) ∧ Aside0 (Below w.heap.size w wc))
            case first =>
              have H := HC10.out
              clear HC10
              by_cases c16 : a1_5.toList = ([] : List UInt8)
              · rw [if_pos c16] at H
                have c16b0 : (a1_5.toList == ([] : List UInt8)) = true := beq_iff_eq.mpr c16
                try have c16b7 : a1_5.toList.isEmpty = true := List.isEmpty_iff.2 (beq_iff_eq.1 c16b0)
                try have c16b8 : (!a1_5.toList.isEmpty) = false := by rw [c16b7]; rfl
                have c16b1 : (a1_5.toList != ([] : List UInt8)) = false := bne_eq_false_iff_eq.mpr c16
                clear c16
                (first | rw [c16b8] | rw [c16b0] | (simp only [i64_w, i32_w]; rw [c16b0]) | skip)
                have H' := Aside0.mk H
                clear H
                go_wp2
                go_meet
                case rel => exact ⟨_, (((((⟨#[114, 117, 108, 101, 32]⟩ : ByteArray) ++ ((⟨#[114]⟩ : ByteArray) ++ t146)) ++ (⟨#[10, 32, 32, 99, 111, 109, 109, 97, 110, 100, 32, 61, 32]⟩ : ByteArray)) ++ t147) ++ (⟨#[10]⟩ : ByteArray)), (by first | rfl | (simp; done) | (simp [*]; done)), H', ⟨by first | omega | exact Nat.le_refl _⟩, ⟨by (with_reducible repeat (first | refine blk_drewN ?_ _ | refine blk_drew ?_ | refine blk_alloc ?_ _)); exact BK145.out⟩, ⟨by repeat (first | (with_reducible first | exact HB.out | apply below_alloc | apply pw_below_drewN | apply below_drew1 | refine below_set ?_ GE145.out) | exact HB.out)⟩⟩
              · rw [if_neg c16] at H
                have c16b0 : (a1_5.toList == ([] : List UInt8)) = false := beq_eq_false_iff_ne.mpr c16
                try have c16b7 : a1_5.toList.isEmpty = false := by have hh_ := beq_eq_false_iff_ne.1 c16b0; cases hq_ : a1_5.toList with | nil => exact absurd hq_ hh_ | cons _ _ => rfl
                try have c16b8 : (!a1_5.toList.isEmpty) = true := by rw [c16b7]; rfl
                have c16b1 : (a1_5.toList != ([] : List UInt8)) = true := bne_iff_ne.mpr c16
                (first | rw [c16b8] | rw [c16b0] | (simp only [i64_w, i32_w]; rw [c16b0]) | skip)
                replace H := Option.bind_eq_some_iff.mp H
                obtain ⟨t148, A170, H⟩ := H
                replace H : (if 12 + t148.size ≤ 9223372036854775807 then (if ((⟨#[32, 32, 100, 101, 112, 102, 105, 108, 101, 32, 61, 32]⟩ : ByteArray) ++ t148).size + 1 ≤ 9223372036854775807 then (if (((((⟨#[114, 117, 108, 101, 32]⟩ : ByteArray) ++ ((⟨#[114]⟩ : ByteArray) ++ t146)) ++ (⟨#[10, 32, 32, 99, 111, 109, 109, 97, 110, 100, 32, 61, 32]⟩ : ByteArray)) ++ t147) ++ (⟨#[10]⟩ : ByteArray)).size + (((⟨#[32, 32, 100, 101, 112, 102, 105, 108, 101, 32, 61, 32]⟩ : ByteArray) ++ t148) ++ (⟨#[10]⟩ : ByteArray)).size ≤ 9223372036854775807 then (print_edge.j0 k ((⟨#[114]⟩ : ByteArray) ++ t146) ((((((⟨#[114, 117, 108, 101, 32]⟩ : ByteArray) ++ ((⟨#[114]⟩ : ByteArray) ++ t146)) ++ (⟨#[10, 32, 32, 99, 111, 109, 109, 97, 110, 100, 32, 61, 32]⟩ : ByteArray)) ++ t147) ++ (⟨#[10]⟩ : ByteArray)) ++ (((⟨#[32, 32, 100, 101, 112, 102, 105, 108, 101, 32, 61, 32]⟩ : ByteArray) ++ t148) ++ (⟨#[10]⟩ : ByteArray))) l1_0 l1_1 l1_2 l1_3 a1_4 a1_5) else (none)) else (none)) else (none)) = some r := H
                have A17 := Aside0.mk A170
                clear A170
                by_cases c18 : 12 + t148.size ≤ 9223372036854775807
                · rw [if_pos c18] at H
                  have c18b0 := eq_true c18
                  have c18b1 : decide (12 + t148.size ≤ 9223372036854775807) = true := decide_eq_true c18
                  try have c18b2 : (9223372036854775807 < 12 + t148.size) = False := eq_false (Nat.not_lt.2 c18)
                  have c18x : 12 + t148.size ≤ 9223372036854775807 := by have hh_ := c18; (try simp only [ByteArray.size_append] at hh_); exact hh_
                  try have c18x0 : (9223372036854775807 < 12 + t148.size) = False := eq_false (by omega)
                  by_cases c19 : ((⟨#[32, 32, 100, 101, 112, 102, 105, 108, 101, 32, 61, 32]⟩ : ByteArray) ++ t148).size + 1 ≤ 9223372036854775807
                  · rw [if_pos c19] at H
                    have c19b0 := eq_true c19
                    have c19b1 : decide (((⟨#[32, 32, 100, 101, 112, 102, 105, 108, 101, 32, 61, 32]⟩ : ByteArray) ++ t148).size + 1 ≤ 9223372036854775807) = true := decide_eq_true c19
                    try have c19b2 : (9223372036854775807 < ((⟨#[32, 32, 100, 101, 112, 102, 105, 108, 101, 32, 61, 32]⟩ : ByteArray) ++ t148).size + 1) = False := eq_false (Nat.not_lt.2 c19)
                    have c19x : 12 + t148.size + 1 ≤ 9223372036854775807 := by have hh_ := c19; (try simp only [ByteArray.size_append] at hh_); exact hh_
                    try have c19x0 : (9223372036854775807 < 12 + t148.size + 1) = False := eq_false (by omega)
                    try have c19x1 : (9223372036854775806 < 12 + t148.size) = False := eq_false (by omega)
                    try have c19b7 : (9223372036854775806 < ((⟨#[32, 32, 100, 101, 112, 102, 105, 108, 101, 32, 61, 32]⟩ : ByteArray) ++ t148).size) = False := eq_false (by omega)
                    have c19e : 12 + t148.size + 1 ≤ 9223372036854775807 := by have hh_ := c19; rw [ByteArray.size_append] at hh_; exact hh_
                    try have c19e0 : (9223372036854775806 < 12 + t148.size) = False := eq_false (by omega)
                    try have c19e1 : (9223372036854775794 < t148.size) = False := eq_false (by omega)
                    try have c19e2 : (9223372036854775807 < 12 + t148.size + 1) = False := eq_false (by omega)
                    try have c19e3 : (9223372036854775806 < t148.size + 12) = False := eq_false (by omega)
                    try have c19e4 : (9223372036854775807 < t148.size + 12 + 1) = False := eq_false (by omega)
                    by_cases c20 : (((((⟨#[114, 117, 108, 101, 32]⟩ : ByteArray) ++ ((⟨#[114]⟩ : ByteArray) ++ t146)) ++ (⟨#[10, 32, 32, 99, 111, 109, 109, 97, 110, 100, 32, 61, 32]⟩ : ByteArray)) ++ t147) ++ (⟨#[10]⟩ : ByteArray)).size + (((⟨#[32, 32, 100, 101, 112, 102, 105, 108, 101, 32, 61, 32]⟩ : ByteArray) ++ t148) ++ (⟨#[10]⟩ : ByteArray)).size ≤ 9223372036854775807
                    · rw [if_pos c20] at H
                      have c20b0 := eq_true c20
                      have c20b1 : decide ((((((⟨#[114, 117, 108, 101, 32]⟩ : ByteArray) ++ ((⟨#[114]⟩ : ByteArray) ++ t146)) ++ (⟨#[10, 32, 32, 99, 111, 109, 109, 97, 110, 100, 32, 61, 32]⟩ : ByteArray)) ++ t147) ++ (⟨#[10]⟩ : ByteArray)).size + (((⟨#[32, 32, 100, 101, 112, 102, 105, 108, 101, 32, 61, 32]⟩ : ByteArray) ++ t148) ++ (⟨#[10]⟩ : ByteArray)).size ≤ 9223372036854775807) = true := decide_eq_true c20
                      try have c20b2 : (9223372036854775807 < (((((⟨#[114, 117, 108, 101, 32]⟩ : ByteArray) ++ ((⟨#[114]⟩ : ByteArray) ++ t146)) ++ (⟨#[10, 32, 32, 99, 111, 109, 109, 97, 110, 100, 32, 61, 32]⟩ : ByteArray)) ++ t147) ++ (⟨#[10]⟩ : ByteArray)).size + (((⟨#[32, 32, 100, 101, 112, 102, 105, 108, 101, 32, 61, 32]⟩ : ByteArray) ++ t148) ++ (⟨#[10]⟩ : ByteArray)).size) = False := eq_false (Nat.not_lt.2 c20)
                      have c20x : 5 + (1 + t146.size) + 13 + t147.size + 1 + (12 + t148.size + 1) ≤ 9223372036854775807 := by have hh_ := c20; (try simp only [ByteArray.size_append] at hh_); exact hh_
                      try have c20x0 : (9223372036854775807 < 5 + (1 + t146.size) + 13 + t147.size + 1 + (12 + t148.size + 1)) = False := eq_false (by omega)
                      try have c20x1 : (9223372036854775806 < 5 + (1 + t146.size) + 13 + t147.size + 1 + (12 + t148.size)) = False := eq_false (by omega)
                      have H' := Aside0.mk H
                      clear H
                      have hcz21_0 : w14.cell? ⟨gb145, 0, none⟩ = some (.slice A1_0 l1_0.length c1_0) := (blk_cell BK145.out 0).trans rfl
                      have hcz21_1 : w14.cell? ⟨gb145, 1, none⟩ = some (.slice A1_1 l1_1.length c1_1) := (blk_cell BK145.out 1).trans rfl
                      have hcz21_2 : w14.cell? ⟨gb145, 2, none⟩ = some (.slice A1_2 l1_2.length c1_2) := (blk_cell BK145.out 2).trans rfl
                      have hcz21_3 : w14.cell? ⟨gb145, 3, none⟩ = some (.slice A1_3 l1_3.length c1_3) := (blk_cell BK145.out 3).trans rfl
                      have hcz21_4 : w14.cell? ⟨gb145, 4, none⟩ = some (.string a1_4) := (blk_cell BK145.out 4).trans rfl
                      have hcz21_5 : w14.cell? ⟨gb145, 5, none⟩ = some (.string a1_5) := (blk_cell BK145.out 5).trans rfl
                      have hfz21_0 := blk_frozen BK145.out 0
                      have hfz21_1 := blk_frozen BK145.out 1
                      have hfz21_2 := blk_frozen BK145.out 2
                      have hfz21_3 := blk_frozen BK145.out 3
                      have hfz21_4 := blk_frozen BK145.out 4
                      have hfz21_5 := blk_frozen BK145.out 5
                      go_wp2_with (first | ((with_reducible refine gate_callee (f := 31) rfl ?_); refine goesL_ (some 24) rfl rfl Tryz.func31 (by kernel_rfl) rfl #[.string a1_5] rfl (by (try simp only [List.map_toArray, List.map_cons, List.map_nil]); first | done | rfl | (simp only [List.length_drop, List.length_take]; rfl)) ?_; (with_reducible refine (scope_Escape.calls a1_5 t148 _ A17.out).mono ?_); rintro e w22 ⟨rfl, hb⟩; refine ⟨_, rfl, ?_⟩; have n0_ := Aside0.mk (blk_below (g := gb145) (o := .cells #[.slice A1_0 l1_0.length c1_0, .slice A1_1 l1_1.length c1_1, .slice A1_2 l1_2.length c1_2, .slice A1_3 l1_3.length c1_3, .string a1_4, .string a1_5] 47 (0, 0)) (by (with_reducible repeat (first | refine blk_drewN ?_ _ | refine blk_drew ?_ | refine blk_alloc ?_ _)); exact BK145.out) hb); have n1_ := Aside0.mk (below_step (by repeat (first | (with_reducible first | exact HB.out | apply below_alloc | apply pw_below_drewN | apply below_drew1 | refine below_set ?_ GE145.out) | exact HB.out)) hb); clear BK145; clear HB; have BK145 := n0_; have HB := n1_; clear n0_ n1_; (try clear hb); (try clear hb2); (try clear hk); (try clear hi)))
                      go_meet
                      case rel => exact ⟨_, ((((((⟨#[114, 117, 108, 101, 32]⟩ : ByteArray) ++ ((⟨#[114]⟩ : ByteArray) ++ t146)) ++ (⟨#[10, 32, 32, 99, 111, 109, 109, 97, 110, 100, 32, 61, 32]⟩ : ByteArray)) ++ t147) ++ (⟨#[10]⟩ : ByteArray)) ++ (((⟨#[32, 32, 100, 101, 112, 102, 105, 108, 101, 32, 61, 32]⟩ : ByteArray) ++ t148) ++ (⟨#[10]⟩ : ByteArray))), (by first | rfl | (simp; done) | (simp [*]; done)), H', ⟨by first | omega | exact Nat.le_refl _⟩, ⟨by (with_reducible repeat (first | refine blk_drewN ?_ _ | refine blk_drew ?_ | refine blk_alloc ?_ _)); exact BK145.out⟩, ⟨by repeat (first | (with_reducible first | exact HB.out | apply below_alloc | apply pw_below_drewN | apply below_drew1 | refine below_set ?_ GE145.out) | exact HB.out)⟩⟩
                    · rw [if_neg c20] at H
                      exact absurd H (by simp)
                  · rw [if_neg c19] at H
                    exact absurd H (by simp)
                · rw [if_neg c18] at H
                  exact absurd H (by simp)
            case rest =>
              clear HC10
              try clear c1
              try clear c2
              try clear p2
              try clear c3
              try clear c4
              try clear c4b0
              try clear c4b1
              try clear c4b2
              try clear c5
              try clear c5b0
              try clear c5b1
              try clear c5b2
              try clear c6
              try clear c6b0
              try clear c6b1
              try clear c6b2
              try clear c8
              try clear c8b0
              try clear c8b1
              try clear c8b2
              try clear c9
              try clear c9b0
              try clear c9b1
              try clear c9b2
              try clear c14
              try clear c16
              try clear c16b0
              try clear c16b1
              try clear c18
              try clear c18b0
              try clear c18b1
              try clear c18b2
              try clear c19
              try clear c19b0
              try clear c19b1
              try clear c19b2
              try clear c20
              try clear c20b0
              try clear c20b1
              try clear c20b2
              try clear hcz13_0
              try clear hcz13_1
              try clear hcz13_2
              try clear hcz13_3
              try clear hcz13_4
              try clear hcz13_5
              try clear hcz15_0
              try clear hcz15_1
              try clear hcz15_2
              try clear hcz15_3
              try clear hcz15_4
              try clear hcz15_5
              try clear hcz21_0
              try clear hcz21_1
              try clear hcz21_2
              try clear hcz21_3
              try clear hcz21_4
              try clear hcz21_5
              try clear hfz13_0
              try clear hfz13_1
              try clear hfz13_2
              try clear hfz13_3
              try clear hfz13_4
              try clear hfz13_5
              try clear hfz15_0
              try clear hfz15_1
              try clear hfz15_2
              try clear hfz15_3
              try clear hfz15_4
              try clear hfz15_5
              try clear hfz21_0
              try clear hfz21_1
              try clear hfz21_2
              try clear hfz21_3
              try clear hfz21_4
              try clear hfz21_5
              obtain ⟨kq, x6_9, rfl, HA, HJ9, BK145, HB⟩ := hcut
              cases kq with
              | zero => exact absurd HA.out (by simp [print_edge.j0])
              | succ kj9 =>
                have H := HA.out
                clear HA
                simp only [print_edge.j0] at H
                replace H := Option.bind_eq_some_iff.mp H
                obtain ⟨t149, A230, H⟩ := H
                replace H : (if x6_9.size + t149.size ≤ 9223372036854775807 then (if (x6_9 ++ t149).size + 2 ≤ 9223372036854775807 then (if ((x6_9 ++ t149) ++ (⟨#[58, 32]⟩ : ByteArray)).size + ((⟨#[114]⟩ : ByteArray) ++ t146).size ≤ 9223372036854775807 then ((print_row.f (⟨#[]⟩ : ByteArray) l1_1).bind fun t150 => (if (((x6_9 ++ t149) ++ (⟨#[58, 32]⟩ : ByteArray)) ++ ((⟨#[114]⟩ : ByteArray) ++ t146)).size + t150.size ≤ 9223372036854775807 then ((print_row.f (⟨#[32, 124]⟩ : ByteArray) l1_2).bind fun t151 => (if ((((x6_9 ++ t149) ++ (⟨#[58, 32]⟩ : ByteArray)) ++ ((⟨#[114]⟩ : ByteArray) ++ t146)) ++ t150).size + t151.size ≤ 9223372036854775807 then ((print_row.f (⟨#[32, 124, 124]⟩ : ByteArray) l1_3).bind fun t152 => (if (((((x6_9 ++ t149) ++ (⟨#[58, 32]⟩ : ByteArray)) ++ ((⟨#[114]⟩ : ByteArray) ++ t146)) ++ t150) ++ t151).size + t152.size ≤ 9223372036854775807 then (if ((((((x6_9 ++ t149) ++ (⟨#[58, 32]⟩ : ByteArray)) ++ ((⟨#[114]⟩ : ByteArray) ++ t146)) ++ t150) ++ t151) ++ t152).size + 1 ≤ 9223372036854775807 then (some (((((((x6_9 ++ t149) ++ (⟨#[58, 32]⟩ : ByteArray)) ++ ((⟨#[114]⟩ : ByteArray) ++ t146)) ++ t150) ++ t151) ++ t152) ++ (⟨#[10]⟩ : ByteArray))) else (none)) else (none))) else (none))) else (none))) else (none)) else (none)) else (none)) = some r := H
                have A23 := Aside0.mk A230
                clear A230
                by_cases c24 : x6_9.size + t149.size ≤ 9223372036854775807
                · rw [if_pos c24] at H
                  have c24b0 := eq_true c24
                  have c24b1 : decide (x6_9.size + t149.size ≤ 9223372036854775807) = true := decide_eq_true c24
                  try have c24b2 : (9223372036854775807 < x6_9.size + t149.size) = False := eq_false (Nat.not_lt.2 c24)
                  have c24x : x6_9.size + t149.size ≤ 9223372036854775807 := by have hh_ := c24; (try simp only [ByteArray.size_append] at hh_); exact hh_
                  try have c24x0 : (9223372036854775807 < x6_9.size + t149.size) = False := eq_false (by omega)
                  have c24w : wrap64 ((x6_9.size : Int) + (t149.size : Int)) = (x6_9.size : Int) + (t149.size : Int) := wrap_two_YtbjekebkgidhaaaGreatDoorPPrintEdge0 _ _ c24
                  clear c24w
                  by_cases c25 : (x6_9 ++ t149).size + 2 ≤ 9223372036854775807
                  · rw [if_pos c25] at H
                    have c25b0 := eq_true c25
                    have c25b1 : decide ((x6_9 ++ t149).size + 2 ≤ 9223372036854775807) = true := decide_eq_true c25
                    try have c25b2 : (9223372036854775807 < (x6_9 ++ t149).size + 2) = False := eq_false (Nat.not_lt.2 c25)
                    have c25x : x6_9.size + t149.size + 2 ≤ 9223372036854775807 := by have hh_ := c25; (try simp only [ByteArray.size_append] at hh_); exact hh_
                    try have c25x0 : (9223372036854775807 < x6_9.size + t149.size + 2) = False := eq_false (by omega)
                    try have c25x1 : (9223372036854775805 < x6_9.size + t149.size) = False := eq_false (by omega)
                    try have c25b7 : (9223372036854775805 < (x6_9 ++ t149).size) = False := eq_false (by omega)
                    try have c25b8 : (9223372036854775807 < x6_9.size + t149.size + 2) = False := by simpa only [ByteArray.size_append] using c25b2
                    try have c25b9 : (9223372036854775805 < x6_9.size + t149.size) = False := eq_false (by have hh_ := c25; rw [ByteArray.size_append] at hh_; omega)
                    by_cases c26 : ((x6_9 ++ t149) ++ (⟨#[58, 32]⟩ : ByteArray)).size + ((⟨#[114]⟩ : ByteArray) ++ t146).size ≤ 9223372036854775807
                    · rw [if_pos c26] at H
                      have c26b0 := eq_true c26
                      have c26b1 : decide (((x6_9 ++ t149) ++ (⟨#[58, 32]⟩ : ByteArray)).size + ((⟨#[114]⟩ : ByteArray) ++ t146).size ≤ 9223372036854775807) = true := decide_eq_true c26
                      try have c26b2 : (9223372036854775807 < ((x6_9 ++ t149) ++ (⟨#[58, 32]⟩ : ByteArray)).size + ((⟨#[114]⟩ : ByteArray) ++ t146).size) = False := eq_false (Nat.not_lt.2 c26)
                      have c26x : x6_9.size + t149.size + 2 + (1 + t146.size) ≤ 9223372036854775807 := by have hh_ := c26; (try simp only [ByteArray.size_append] at hh_); exact hh_
                      try have c26x0 : (9223372036854775807 < x6_9.size + t149.size + 2 + (1 + t146.size)) = False := eq_false (by omega)
                      replace H := Option.bind_eq_some_iff.mp H
                      obtain ⟨t150, A270, H⟩ := H
                      replace H : (if (((x6_9 ++ t149) ++ (⟨#[58, 32]⟩ : ByteArray)) ++ ((⟨#[114]⟩ : ByteArray) ++ t146)).size + t150.size ≤ 9223372036854775807 then ((print_row.f (⟨#[32, 124]⟩ : ByteArray) l1_2).bind fun t151 => (if ((((x6_9 ++ t149) ++ (⟨#[58, 32]⟩ : ByteArray)) ++ ((⟨#[114]⟩ : ByteArray) ++ t146)) ++ t150).size + t151.size ≤ 9223372036854775807 then ((print_row.f (⟨#[32, 124, 124]⟩ : ByteArray) l1_3).bind fun t152 => (if (((((x6_9 ++ t149) ++ (⟨#[58, 32]⟩ : ByteArray)) ++ ((⟨#[114]⟩ : ByteArray) ++ t146)) ++ t150) ++ t151).size + t152.size ≤ 9223372036854775807 then (if ((((((x6_9 ++ t149) ++ (⟨#[58, 32]⟩ : ByteArray)) ++ ((⟨#[114]⟩ : ByteArray) ++ t146)) ++ t150) ++ t151) ++ t152).size + 1 ≤ 9223372036854775807 then (some (((((((x6_9 ++ t149) ++ (⟨#[58, 32]⟩ : ByteArray)) ++ ((⟨#[114]⟩ : ByteArray) ++ t146)) ++ t150) ++ t151) ++ t152) ++ (⟨#[10]⟩ : ByteArray))) else (none)) else (none))) else (none))) else (none)) = some r := H
                      have A27 := Aside0.mk A270
                      clear A270
                      by_cases c28 : (((x6_9 ++ t149) ++ (⟨#[58, 32]⟩ : ByteArray)) ++ ((⟨#[114]⟩ : ByteArray) ++ t146)).size + t150.size ≤ 9223372036854775807
                      · rw [if_pos c28] at H
                        have c28b0 := eq_true c28
                        have c28b1 : decide ((((x6_9 ++ t149) ++ (⟨#[58, 32]⟩ : ByteArray)) ++ ((⟨#[114]⟩ : ByteArray) ++ t146)).size + t150.size ≤ 9223372036854775807) = true := decide_eq_true c28
                        try have c28b2 : (9223372036854775807 < (((x6_9 ++ t149) ++ (⟨#[58, 32]⟩ : ByteArray)) ++ ((⟨#[114]⟩ : ByteArray) ++ t146)).size + t150.size) = False := eq_false (Nat.not_lt.2 c28)
                        have c28x : x6_9.size + t149.size + 2 + (1 + t146.size) + t150.size ≤ 9223372036854775807 := by have hh_ := c28; (try simp only [ByteArray.size_append] at hh_); exact hh_
                        try have c28x0 : (9223372036854775807 < x6_9.size + t149.size + 2 + (1 + t146.size) + t150.size) = False := eq_false (by omega)
                        replace H := Option.bind_eq_some_iff.mp H
                        obtain ⟨t151, A290, H⟩ := H
                        replace H : (if ((((x6_9 ++ t149) ++ (⟨#[58, 32]⟩ : ByteArray)) ++ ((⟨#[114]⟩ : ByteArray) ++ t146)) ++ t150).size + t151.size ≤ 9223372036854775807 then ((print_row.f (⟨#[32, 124, 124]⟩ : ByteArray) l1_3).bind fun t152 => (if (((((x6_9 ++ t149) ++ (⟨#[58, 32]⟩ : ByteArray)) ++ ((⟨#[114]⟩ : ByteArray) ++ t146)) ++ t150) ++ t151).size + t152.size ≤ 9223372036854775807 then (if ((((((x6_9 ++ t149) ++ (⟨#[58, 32]⟩ : ByteArray)) ++ ((⟨#[114]⟩ : ByteArray) ++ t146)) ++ t150) ++ t151) ++ t152).size + 1 ≤ 9223372036854775807 then (some (((((((x6_9 ++ t149) ++ (⟨#[58, 32]⟩ : ByteArray)) ++ ((⟨#[114]⟩ : ByteArray) ++ t146)) ++ t150) ++ t151) ++ t152) ++ (⟨#[10]⟩ : ByteArray))) else (none)) else (none))) else (none)) = some r := H
                        have A29 := Aside0.mk A290
                        clear A290
                        by_cases c30 : ((((x6_9 ++ t149) ++ (⟨#[58, 32]⟩ : ByteArray)) ++ ((⟨#[114]⟩ : ByteArray) ++ t146)) ++ t150).size + t151.size ≤ 9223372036854775807
                        · rw [if_pos c30] at H
                          have c30b0 := eq_true c30
                          have c30b1 : decide (((((x6_9 ++ t149) ++ (⟨#[58, 32]⟩ : ByteArray)) ++ ((⟨#[114]⟩ : ByteArray) ++ t146)) ++ t150).size + t151.size ≤ 9223372036854775807) = true := decide_eq_true c30
                          try have c30b2 : (9223372036854775807 < ((((x6_9 ++ t149) ++ (⟨#[58, 32]⟩ : ByteArray)) ++ ((⟨#[114]⟩ : ByteArray) ++ t146)) ++ t150).size + t151.size) = False := eq_false (Nat.not_lt.2 c30)
                          have c30x : x6_9.size + t149.size + 2 + (1 + t146.size) + t150.size + t151.size ≤ 9223372036854775807 := by have hh_ := c30; (try simp only [ByteArray.size_append] at hh_); exact hh_
                          try have c30x0 : (9223372036854775807 < x6_9.size + t149.size + 2 + (1 + t146.size) + t150.size + t151.size) = False := eq_false (by omega)
                          replace H := Option.bind_eq_some_iff.mp H
                          obtain ⟨t152, A310, H⟩ := H
                          replace H : (if (((((x6_9 ++ t149) ++ (⟨#[58, 32]⟩ : ByteArray)) ++ ((⟨#[114]⟩ : ByteArray) ++ t146)) ++ t150) ++ t151).size + t152.size ≤ 9223372036854775807 then (if ((((((x6_9 ++ t149) ++ (⟨#[58, 32]⟩ : ByteArray)) ++ ((⟨#[114]⟩ : ByteArray) ++ t146)) ++ t150) ++ t151) ++ t152).size + 1 ≤ 9223372036854775807 then (some (((((((x6_9 ++ t149) ++ (⟨#[58, 32]⟩ : ByteArray)) ++ ((⟨#[114]⟩ : ByteArray) ++ t146)) ++ t150) ++ t151) ++ t152) ++ (⟨#[10]⟩ : ByteArray))) else (none)) else (none)) = some r := H
                          have A31 := Aside0.mk A310
                          clear A310
                          by_cases c32 : (((((x6_9 ++ t149) ++ (⟨#[58, 32]⟩ : ByteArray)) ++ ((⟨#[114]⟩ : ByteArray) ++ t146)) ++ t150) ++ t151).size + t152.size ≤ 9223372036854775807
                          · rw [if_pos c32] at H
                            have c32b0 := eq_true c32
                            have c32b1 : decide ((((((x6_9 ++ t149) ++ (⟨#[58, 32]⟩ : ByteArray)) ++ ((⟨#[114]⟩ : ByteArray) ++ t146)) ++ t150) ++ t151).size + t152.size ≤ 9223372036854775807) = true := decide_eq_true c32
                            try have c32b2 : (9223372036854775807 < (((((x6_9 ++ t149) ++ (⟨#[58, 32]⟩ : ByteArray)) ++ ((⟨#[114]⟩ : ByteArray) ++ t146)) ++ t150) ++ t151).size + t152.size) = False := eq_false (Nat.not_lt.2 c32)
                            have c32x : x6_9.size + t149.size + 2 + (1 + t146.size) + t150.size + t151.size + t152.size ≤ 9223372036854775807 := by have hh_ := c32; (try simp only [ByteArray.size_append] at hh_); exact hh_
                            try have c32x0 : (9223372036854775807 < x6_9.size + t149.size + 2 + (1 + t146.size) + t150.size + t151.size + t152.size) = False := eq_false (by omega)
                            by_cases c33 : ((((((x6_9 ++ t149) ++ (⟨#[58, 32]⟩ : ByteArray)) ++ ((⟨#[114]⟩ : ByteArray) ++ t146)) ++ t150) ++ t151) ++ t152).size + 1 ≤ 9223372036854775807
                            · rw [if_pos c33] at H
                              have c33b0 := eq_true c33
                              have c33b1 : decide (((((((x6_9 ++ t149) ++ (⟨#[58, 32]⟩ : ByteArray)) ++ ((⟨#[114]⟩ : ByteArray) ++ t146)) ++ t150) ++ t151) ++ t152).size + 1 ≤ 9223372036854775807) = true := decide_eq_true c33
                              try have c33b2 : (9223372036854775807 < ((((((x6_9 ++ t149) ++ (⟨#[58, 32]⟩ : ByteArray)) ++ ((⟨#[114]⟩ : ByteArray) ++ t146)) ++ t150) ++ t151) ++ t152).size + 1) = False := eq_false (Nat.not_lt.2 c33)
                              have c33x : x6_9.size + t149.size + 2 + (1 + t146.size) + t150.size + t151.size + t152.size + 1 ≤ 9223372036854775807 := by have hh_ := c33; (try simp only [ByteArray.size_append] at hh_); exact hh_
                              try have c33x0 : (9223372036854775807 < x6_9.size + t149.size + 2 + (1 + t146.size) + t150.size + t151.size + t152.size + 1) = False := eq_false (by omega)
                              try have c33x1 : (9223372036854775806 < x6_9.size + t149.size + 2 + (1 + t146.size) + t150.size + t151.size + t152.size) = False := eq_false (by omega)
                              try have c33b7 : (9223372036854775806 < ((((((x6_9 ++ t149) ++ (⟨#[58, 32]⟩ : ByteArray)) ++ ((⟨#[114]⟩ : ByteArray) ++ t146)) ++ t150) ++ t151) ++ t152).size) = False := eq_false (by omega)
                              obtain rfl := Option.some.inj H
                              try go_wp2
                              have n0_ := Aside0.mk (blk_drew BK145.out)
                              have n1_ := Aside0.mk (below_drew1 HB.out)
                              clear BK145
                              clear HB
                              have BK145 := n0_
                              have HB := n1_
                              clear n0_ n1_
                              refine start_ (n := 22) (S := fun w' => w'.cell? ⟨gb145, 0, none⟩ = some (.slice A1_0 l1_0.length c1_0) ∧ w'.cell? ⟨gb145, 1, none⟩ = some (.slice A1_1 l1_1.length c1_1) ∧ w'.cell? ⟨gb145, 2, none⟩ = some (.slice A1_2 l1_2.length c1_2) ∧ w'.cell? ⟨gb145, 3, none⟩ = some (.slice A1_3 l1_3.length c1_3) ∧ w'.cell? ⟨gb145, 4, none⟩ = some (.string a1_4) ∧ w'.cell? ⟨gb145, 5, none⟩ = some (.string a1_5)) (ds := []) #[false, false, false, false, false, false, false, false, false, false, false, false, false, false, false, false, false, false, false, false, false, false] (by kernel_rfl) rfl rfl ⟨(blk_cell BK145.out 0).trans rfl, (blk_cell BK145.out 1).trans rfl, (blk_cell BK145.out 2).trans rfl, (blk_cell BK145.out 3).trans rfl, (blk_cell BK145.out 4).trans rfl, (blk_cell BK145.out 5).trans rfl⟩ (fun hHeld => ?_); refine with_tabW print_edge.tab5 print_edge.bits5 (fun HT_ HW_ => ?_)
                              generalize wc.drew = w34 at BK145 HB hHeld ⊢
                              refine pure_ (i := 0) (N := some 28) (v := ?_) (a' := ?_) #[true, false, false, false, false, false, false, false, false, false, false, false, false, false, false, false, false, false, false, false, false, false] rfl rfl (any_of HT_.out (by kernel_rfl)) (fun _ _ _ h => h) (Or.inl ⟨by rfl, ?_⟩) ?_ ?_
                              rotate_left
                              · intro w'
                                go_simp
                                with_reducible rfl
                              rotate_left
                              · simp only [Act.put, pA,pB,pC, i64_w, i32_w]
                                rfl
                              refine pure_ (i := 1) (N := some 29) (v := ?_) (a' := ?_) #[true, true, false, false, false, false, false, false, false, false, false, false, false, false, false, false, false, false, false, false, false, false] rfl rfl (any_of HT_.out (by kernel_rfl)) (fun _ _ _ h => h) (Or.inl ⟨by rfl, ?_⟩) ?_ ?_
                              rotate_left
                              · intro w'
                                go_simp
                                with_reducible rfl
                              rotate_left
                              · simp only [Act.put, pA,pB,pC, i64_w, i32_w]
                                rfl
                              refine pure_ (i := 6) (N := some 34) (v := ?_) (a' := ?_) #[true, true, false, false, false, false, true, false, false, false, false, false, false, false, false, false, false, false, false, false, false, false] rfl rfl (any_of HT_.out (by kernel_rfl)) (fun _ _ _ h => h) (Or.inl ⟨by rfl, ?_⟩) ?_ ?_
                              rotate_left
                              · intro w'
                                go_simp
                                with_reducible rfl
                              rotate_left
                              · simp only [Act.put, pA,pB,pC, i64_w, i32_w]
                                rfl
                              refine pure_ (i := 8) (N := some 36) (v := ?_) (a' := ?_) #[true, true, false, false, false, false, true, false, true, false, false, false, false, false, false, false, false, false, false, false, false, false] rfl rfl (any_of HT_.out (by kernel_rfl)) (fun _ _ _ h => h) (Or.inl ⟨by rfl, ?_⟩) ?_ ?_
                              rotate_left
                              · intro w'
                                go_simp
                                with_reducible rfl
                              rotate_left
                              · simp only [Act.put, pA,pB,pC, i64_w, i32_w]
                                rfl
                              refine pure_ (i := 12) (N := some 40) (v := ?_) (a' := ?_) #[true, true, false, false, false, false, true, false, true, false, false, false, true, false, false, false, false, false, false, false, false, false] rfl rfl (any_of HT_.out (by kernel_rfl)) (fun _ _ _ h => h) (Or.inl ⟨by rfl, ?_⟩) ?_ ?_
                              rotate_left
                              · intro w'
                                go_simp
                                with_reducible rfl
                              rotate_left
                              · simp only [Act.put, pA,pB,pC, i64_w, i32_w]
                                rfl
                              refine pure_ (i := 16) (N := some 44) (v := ?_) (a' := ?_) #[true, true, false, false, false, false, true, false, true, false, false, false, true, false, false, false, true, false, false, false, false, false] rfl rfl (any_of HT_.out (by kernel_rfl)) (fun _ _ _ h => h) (Or.inl ⟨by rfl, ?_⟩) ?_ ?_
                              rotate_left
                              · intro w'
                                go_simp
                                with_reducible rfl
                              rotate_left
                              · simp only [Act.put, pA,pB,pC, i64_w, i32_w]
                                rfl
                              refine take_ (i := 2) (N := some 30) (v := ?_) (a' := ?_) #[true, true, true, false, false, false, true, false, true, false, false, false, true, false, false, false, true, false, false, false, false, false] rfl rfl (take_ofW HT_.out HW_.out (by kernel_rfl)) (fun _ _ _ h => h) (Or.inl ⟨by rfl, ?_⟩) hHeld ?_ ?_
                              rotate_left
                              · rintro w' ⟨s0, s1, s2, s3, s4, s5⟩
                                go_simp
                                with_reducible rfl
                              rotate_left
                              · simp only [Act.put, pA,pB,pC, i64_w, i32_w]
                                rfl
                              refine take_ (i := 9) (N := some 37) (v := ?_) (a' := ?_) #[true, true, true, false, false, false, true, false, true, true, false, false, true, false, false, false, true, false, false, false, false, false] rfl rfl (take_ofW HT_.out HW_.out (by kernel_rfl)) (fun _ _ _ h => h) (Or.inl ⟨by rfl, ?_⟩) hHeld ?_ ?_
                              rotate_left
                              · rintro w' ⟨s0, s1, s2, s3, s4, s5⟩
                                go_simp
                                with_reducible rfl
                              rotate_left
                              · simp only [Act.put, pA,pB,pC, i64_w, i32_w]
                                rfl
                              refine take_ (i := 13) (N := some 41) (v := ?_) (a' := ?_) #[true, true, true, false, false, false, true, false, true, true, false, false, true, true, false, false, true, false, false, false, false, false] rfl rfl (take_ofW HT_.out HW_.out (by kernel_rfl)) (fun _ _ _ h => h) (Or.inl ⟨by rfl, ?_⟩) hHeld ?_ ?_
                              rotate_left
                              · rintro w' ⟨s0, s1, s2, s3, s4, s5⟩
                                go_simp
                                with_reducible rfl
                              rotate_left
                              · simp only [Act.put, pA,pB,pC, i64_w, i32_w]
                                rfl
                              refine take_ (i := 17) (N := some 45) (v := ?_) (a' := ?_) #[true, true, true, false, false, false, true, false, true, true, false, false, true, true, false, false, true, true, false, false, false, false] rfl rfl (take_ofW HT_.out HW_.out (by kernel_rfl)) (fun _ _ _ h => h) (Or.inl ⟨by rfl, ?_⟩) hHeld ?_ ?_
                              rotate_left
                              · rintro w' ⟨s0, s1, s2, s3, s4, s5⟩
                                go_simp
                                with_reducible rfl
                              rotate_left
                              · simp only [Act.put, pA,pB,pC, i64_w, i32_w]
                                rfl
                              refine one_ (i := 3) (N := some 31) #[true, true, true, true, false, false, true, false, true, true, false, false, true, true, false, false, true, true, false, false, false, false] rfl rfl (one_of HT_.out (by kernel_rfl)) (by decide) (fun K hK => ?_)
                              refine goes_ Tryz.func15 (by kernel_rfl) rfl #[.string (⟨#[98, 117, 105, 108, 100]⟩ : ByteArray), .slice A1_0 l1_0.length c1_0] (by rfl) rfl rfl (by (try simp only [List.map_toArray, List.map_cons, List.map_nil]); first | done | rfl | (simp only [List.length_drop, List.length_take]; rfl)) ?_
                              with_reducible refine (print_row.calls (⟨#[98, 117, 105, 108, 100]⟩ : ByteArray) _ _ l1_0 t149 _ ?side1 ?side2 A23.out).mono ?_
                              (case side1 => repeat (first | exact (Kd.C_below HR1_0.out HB.out) | (with_reducible refine Kd.C_alloc ?_ _) | (with_reducible refine Kd.C_drewN ?_ _) | (with_reducible refine Kd.C_drew ?_)))
                              (case side2 => exact HC1_0.out)
                              rintro e w35 ⟨rfl, hb⟩
                              refine ⟨_, rfl, ?_⟩
                              have n0_ := Aside0.mk (blk_below (g := gb145) (o := .cells #[.slice A1_0 l1_0.length c1_0, .slice A1_1 l1_1.length c1_1, .slice A1_2 l1_2.length c1_2, .slice A1_3 l1_3.length c1_3, .string a1_4, .string a1_5] 47 (0, 0)) (by (with_reducible repeat (first | refine blk_drewN ?_ _ | refine blk_drew ?_ | refine blk_alloc ?_ _)); exact BK145.out) hb)
                              have n1_ := Aside0.mk (below_step (by repeat (first | (with_reducible first | exact HB.out | apply below_alloc | apply pw_below_drewN | apply below_drew1 | refine below_set ?_ GE145.out) | exact HB.out)) hb)
                              clear BK145
                              clear HB
                              have BK145 := n0_
                              have HB := n1_
                              clear n0_ n1_
                              (try clear hb)
                              (try clear hb2)
                              (try clear hk)
                              (try clear hi)
                              refine hK.out _ _ ⟨(blk_cell BK145.out 0).trans rfl, (blk_cell BK145.out 1).trans rfl, (blk_cell BK145.out 2).trans rfl, (blk_cell BK145.out 3).trans rfl, (blk_cell BK145.out 4).trans rfl, (blk_cell BK145.out 5).trans rfl⟩ (fun hHeld => ?_)
                              clear hK K
                              refine norm_ (a' := ?_) ?_ ?_
                              rotate_left
                              · show Act.put _ (some 31) _ = _
                                simp only [Act.put, pA,pB,pC, i64_w, i32_w]
                                rfl
                              refine pure_ (i := 4) (N := some 32) (v := ?_) (a' := ?_) #[true, true, true, true, true, false, true, false, true, true, false, false, true, true, false, false, true, true, false, false, false, false] rfl rfl (any_of HT_.out (by kernel_rfl)) (fun _ _ _ h => h) (Or.inl ⟨by rfl, ?_⟩) ?_ ?_
                              rotate_left
                              · intro w'
                                go_simp
                                with_reducible rfl
                              rotate_left
                              · simp only [Act.put, pA,pB,pC, i64_w, i32_w]
                                rfl
                              refine pure_ (i := 5) (N := some 33) (v := ?_) (a' := ?_) #[true, true, true, true, true, true, true, false, true, true, false, false, true, true, false, false, true, true, false, false, false, false] rfl rfl (any_of HT_.out (by kernel_rfl)) (fun _ _ _ h => h) (Or.inl ⟨by rfl, ?_⟩) ?_ ?_
                              rotate_left
                              · intro w'
                                go_simp
                                with_reducible rfl
                              rotate_left
                              · simp only [Act.put, pA,pB,pC, i64_w, i32_w]
                                rfl
                              refine pure_ (i := 7) (N := some 35) (v := ?_) (a' := ?_) #[true, true, true, true, true, true, true, true, true, true, false, false, true, true, false, false, true, true, false, false, false, false] rfl rfl (any_of HT_.out (by kernel_rfl)) (fun _ _ _ h => h) (Or.inl ⟨by rfl, ?_⟩) ?_ ?_
                              rotate_left
                              · intro w'
                                go_simp
                                with_reducible rfl
                              rotate_left
                              · simp only [Act.put, pA,pB,pC, i64_w, i32_w]
                                rfl
                              refine one_ (i := 10) (N := some 38) #[true, true, true, true, true, true, true, true, true, true, true, false, true, true, false, false, true, true, false, false, false, false] rfl rfl (one_of HT_.out (by kernel_rfl)) (by decide) (fun K hK => ?_)
                              refine goes_ Tryz.func15 (by kernel_rfl) rfl #[.string (⟨#[]⟩ : ByteArray), .slice A1_1 l1_1.length c1_1] (by rfl) rfl rfl (by (try simp only [List.map_toArray, List.map_cons, List.map_nil]); first | done | rfl | (simp only [List.length_drop, List.length_take]; rfl)) ?_
                              with_reducible refine (print_row.calls (⟨#[]⟩ : ByteArray) _ _ l1_1 t150 _ ?side1 ?side2 A27.out).mono ?_
                              (case side1 => repeat (first | exact (Kd.C_below HR1_1.out HB.out) | (with_reducible refine Kd.C_alloc ?_ _) | (with_reducible refine Kd.C_drewN ?_ _) | (with_reducible refine Kd.C_drew ?_)))
                              (case side2 => exact HC1_1.out)
                              rintro e w36 ⟨rfl, hb⟩
                              refine ⟨_, rfl, ?_⟩
                              have n0_ := Aside0.mk (blk_below (g := gb145) (o := .cells #[.slice A1_0 l1_0.length c1_0, .slice A1_1 l1_1.length c1_1, .slice A1_2 l1_2.length c1_2, .slice A1_3 l1_3.length c1_3, .string a1_4, .string a1_5] 47 (0, 0)) (by (with_reducible repeat (first | refine blk_drewN ?_ _ | refine blk_drew ?_ | refine blk_alloc ?_ _)); exact BK145.out) hb)
                              have n1_ := Aside0.mk (below_step (by repeat (first | (with_reducible first | exact HB.out | apply below_alloc | apply pw_below_drewN | apply below_drew1 | refine below_set ?_ GE145.out) | exact HB.out)) hb)
                              clear BK145
                              clear HB
                              have BK145 := n0_
                              have HB := n1_
                              clear n0_ n1_
                              (try clear hb)
                              (try clear hb2)
                              (try clear hk)
                              (try clear hi)
                              refine hK.out _ _ ⟨(blk_cell BK145.out 0).trans rfl, (blk_cell BK145.out 1).trans rfl, (blk_cell BK145.out 2).trans rfl, (blk_cell BK145.out 3).trans rfl, (blk_cell BK145.out 4).trans rfl, (blk_cell BK145.out 5).trans rfl⟩ (fun hHeld => ?_)
                              clear hK K
                              refine norm_ (a' := ?_) ?_ ?_
                              rotate_left
                              · show Act.put _ (some 38) _ = _
                                simp only [Act.put, pA,pB,pC, i64_w, i32_w]
                                rfl
                              refine pure_ (i := 11) (N := some 39) (v := ?_) (a' := ?_) #[true, true, true, true, true, true, true, true, true, true, true, true, true, true, false, false, true, true, false, false, false, false] rfl rfl (any_of HT_.out (by kernel_rfl)) (fun _ _ _ h => h) (Or.inl ⟨by rfl, ?_⟩) ?_ ?_
                              rotate_left
                              · intro w'
                                go_simp
                                with_reducible rfl
                              rotate_left
                              · simp only [Act.put, pA,pB,pC, i64_w, i32_w]
                                rfl
                              refine one_ (i := 14) (N := some 42) #[true, true, true, true, true, true, true, true, true, true, true, true, true, true, true, false, true, true, false, false, false, false] rfl rfl (one_of HT_.out (by kernel_rfl)) (by decide) (fun K hK => ?_)
                              refine goes_ Tryz.func15 (by kernel_rfl) rfl #[.string (⟨#[32, 124]⟩ : ByteArray), .slice A1_2 l1_2.length c1_2] (by rfl) rfl rfl (by (try simp only [List.map_toArray, List.map_cons, List.map_nil]); first | done | rfl | (simp only [List.length_drop, List.length_take]; rfl)) ?_
                              with_reducible refine (print_row.calls (⟨#[32, 124]⟩ : ByteArray) _ _ l1_2 t151 _ ?side1 ?side2 A29.out).mono ?_
                              (case side1 => repeat (first | exact (Kd.C_below HR1_2.out HB.out) | (with_reducible refine Kd.C_alloc ?_ _) | (with_reducible refine Kd.C_drewN ?_ _) | (with_reducible refine Kd.C_drew ?_)))
                              (case side2 => exact HC1_2.out)
                              rintro e w37 ⟨rfl, hb⟩
                              refine ⟨_, rfl, ?_⟩
                              have n0_ := Aside0.mk (blk_below (g := gb145) (o := .cells #[.slice A1_0 l1_0.length c1_0, .slice A1_1 l1_1.length c1_1, .slice A1_2 l1_2.length c1_2, .slice A1_3 l1_3.length c1_3, .string a1_4, .string a1_5] 47 (0, 0)) (by (with_reducible repeat (first | refine blk_drewN ?_ _ | refine blk_drew ?_ | refine blk_alloc ?_ _)); exact BK145.out) hb)
                              have n1_ := Aside0.mk (below_step (by repeat (first | (with_reducible first | exact HB.out | apply below_alloc | apply pw_below_drewN | apply below_drew1 | refine below_set ?_ GE145.out) | exact HB.out)) hb)
                              clear BK145
                              clear HB
                              have BK145 := n0_
                              have HB := n1_
                              clear n0_ n1_
                              (try clear hb)
                              (try clear hb2)
                              (try clear hk)
                              (try clear hi)
                              refine hK.out _ _ ⟨(blk_cell BK145.out 0).trans rfl, (blk_cell BK145.out 1).trans rfl, (blk_cell BK145.out 2).trans rfl, (blk_cell BK145.out 3).trans rfl, (blk_cell BK145.out 4).trans rfl, (blk_cell BK145.out 5).trans rfl⟩ (fun hHeld => ?_)
                              clear hK K
                              refine norm_ (a' := ?_) ?_ ?_
                              rotate_left
                              · show Act.put _ (some 42) _ = _
                                simp only [Act.put, pA,pB,pC, i64_w, i32_w]
                                rfl
                              refine pure_ (i := 15) (N := some 43) (v := ?_) (a' := ?_) #[true, true, true, true, true, true, true, true, true, true, true, true, true, true, true, true, true, true, false, false, false, false] rfl rfl (any_of HT_.out (by kernel_rfl)) (fun _ _ _ h => h) (Or.inl ⟨by rfl, ?_⟩) ?_ ?_
                              rotate_left
                              · intro w'
                                go_simp
                                with_reducible rfl
                              rotate_left
                              · simp only [Act.put, pA,pB,pC, i64_w, i32_w]
                                rfl
                              refine one_ (i := 18) (N := some 46) #[true, true, true, true, true, true, true, true, true, true, true, true, true, true, true, true, true, true, true, false, false, false] rfl rfl (one_of HT_.out (by kernel_rfl)) (by decide) (fun K hK => ?_)
                              refine goes_ Tryz.func15 (by kernel_rfl) rfl #[.string (⟨#[32, 124, 124]⟩ : ByteArray), .slice A1_3 l1_3.length c1_3] (by rfl) rfl rfl (by (try simp only [List.map_toArray, List.map_cons, List.map_nil]); first | done | rfl | (simp only [List.length_drop, List.length_take]; rfl)) ?_
                              with_reducible refine (print_row.calls (⟨#[32, 124, 124]⟩ : ByteArray) _ _ l1_3 t152 _ ?side1 ?side2 A31.out).mono ?_
                              (case side1 => repeat (first | exact (Kd.C_below HR1_3.out HB.out) | (with_reducible refine Kd.C_alloc ?_ _) | (with_reducible refine Kd.C_drewN ?_ _) | (with_reducible refine Kd.C_drew ?_)))
                              (case side2 => exact HC1_3.out)
                              rintro e w38 ⟨rfl, hb⟩
                              refine ⟨_, rfl, ?_⟩
                              have n0_ := Aside0.mk (blk_below (g := gb145) (o := .cells #[.slice A1_0 l1_0.length c1_0, .slice A1_1 l1_1.length c1_1, .slice A1_2 l1_2.length c1_2, .slice A1_3 l1_3.length c1_3, .string a1_4, .string a1_5] 47 (0, 0)) (by (with_reducible repeat (first | refine blk_drewN ?_ _ | refine blk_drew ?_ | refine blk_alloc ?_ _)); exact BK145.out) hb)
                              have n1_ := Aside0.mk (below_step (by repeat (first | (with_reducible first | exact HB.out | apply below_alloc | apply pw_below_drewN | apply below_drew1 | refine below_set ?_ GE145.out) | exact HB.out)) hb)
                              clear BK145
                              clear HB
                              have BK145 := n0_
                              have HB := n1_
                              clear n0_ n1_
                              (try clear hb)
                              (try clear hb2)
                              (try clear hk)
                              (try clear hi)
                              refine hK.out _ _ ⟨(blk_cell BK145.out 0).trans rfl, (blk_cell BK145.out 1).trans rfl, (blk_cell BK145.out 2).trans rfl, (blk_cell BK145.out 3).trans rfl, (blk_cell BK145.out 4).trans rfl, (blk_cell BK145.out 5).trans rfl⟩ (fun hHeld => ?_)
                              clear hK K
                              refine norm_ (a' := ?_) ?_ ?_
                              rotate_left
                              · show Act.put _ (some 46) _ = _
                                simp only [Act.put, pA,pB,pC, i64_w, i32_w]
                                rfl
                              refine pure_ (i := 19) (N := some 47) (v := ?_) (a' := ?_) #[true, true, true, true, true, true, true, true, true, true, true, true, true, true, true, true, true, true, true, true, false, false] rfl rfl (any_of HT_.out (by kernel_rfl)) (fun _ _ _ h => h) (Or.inl ⟨by rfl, ?_⟩) ?_ ?_
                              rotate_left
                              · intro w'
                                go_simp
                                with_reducible rfl
                              rotate_left
                              · simp only [Act.put, pA,pB,pC, i64_w, i32_w]
                                rfl
                              refine pure_ (i := 20) (N := some 48) (v := ?_) (a' := ?_) #[true, true, true, true, true, true, true, true, true, true, true, true, true, true, true, true, true, true, true, true, true, false] rfl rfl (any_of HT_.out (by kernel_rfl)) (fun _ _ _ h => h) (Or.inl ⟨by rfl, ?_⟩) ?_ ?_
                              rotate_left
                              · intro w'
                                go_simp
                                with_reducible rfl
                              rotate_left
                              · simp only [Act.put, pA,pB,pC, i64_w, i32_w]
                                rfl
                              refine pure_ (i := 21) (N := some 4) (v := ?_) (a' := ?_) #[true, true, true, true, true, true, true, true, true, true, true, true, true, true, true, true, true, true, true, true, true, true] rfl rfl (any_of HT_.out (by kernel_rfl)) (fun _ _ _ h => h) (Or.inl ⟨by rfl, ?_⟩) ?_ ?_
                              rotate_left
                              · intro w'
                                go_simp
                                with_reducible rfl
                              rotate_left
                              · simp only [Act.put, pA,pB,pC, i64_w, i32_w]
                                rfl
                              refine done_ (done_of HT_.out (by kernel_rfl)) ?_
                              try go_wp2
                              go_ret
                              exact ⟨by first | rfl | (simp [errW_none, errW_some] <;> rfl) | (simp [*, errW_none, errW_some] <;> rfl), by repeat (first | (with_reducible first | exact HB.out | apply below_alloc | apply pw_below_drewN | apply below_drew1 | refine below_set ?_ GE145.out) | exact HB.out)⟩
                            · rw [if_neg c33] at H
                              exact absurd H (by simp)
                          · rw [if_neg c32] at H
                            exact absurd H (by simp)
                        · rw [if_neg c30] at H
                          exact absurd H (by simp)
                      · rw [if_neg c28] at H
                        exact absurd H (by simp)
                    · rw [if_neg c26] at H
                      exact absurd H (by simp)
                  · rw [if_neg c25] at H
                    exact absurd H (by simp)
                · rw [if_neg c24] at H
                  exact absurd H (by simp)
          · rw [if_neg c9] at H
            exact absurd H (by simp)
        · rw [if_neg c8] at H
          exact absurd H (by simp)
      · rw [if_neg c6] at H
        exact absurd H (by simp)
    · rw [if_neg c5] at H
      exact absurd H (by simp)
  · rw [if_neg c4] at H
    exact absurd H (by simp)
end Go.Proofs.YtbjekebkgidhaaaGreatDoor.P
end
section
set_option linter.unusedSimpArgs false
set_option linter.unusedVariables false
namespace Go.Proofs.YtbjekebkgidhaaaGreatDoor.P
open Go.RowKit Go.Lib Go.Shelf Go.Proofs.YtbjekebkgidhaaaGreatDoorW.PrintWords Go.Proofs.YtbjekebkgidhaaaGreatDoorW.PrintLast Go.Proofs.YtbjekebkgidhaaaGreatDoorW.PrintMore Go.Proofs.YtbjekebkgidhaaaGreatDoor.U Go.Proofs.YtbjekebkgidhaaaGreatDoor.PTh
def rowL (wd : List UInt8) (l : List (List UInt8)) : List UInt8 := if l = [] then [] else wd ++ [32] ++ Lib.join l [32]
def headL (i : Nat) (x : S47) : List UInt8 := [114, 117, 108, 101, 32] ++ ([114] ++ Lib.decDigits i) ++ [10, 32, 32, 99, 111, 109, 109, 97, 110, 100, 32, 61, 32] ++ Sc.escL (toL x.f4) ++ [10]
def depL (x : S47) : List UInt8 := if toL x.f5 = [] then [] else [32, 32, 100, 101, 112, 102, 105, 108, 101, 32, 61, 32] ++ Sc.escL (toL x.f5) ++ [10]
def edgeL (i : Nat) (x : S47) : List UInt8 :=
  headL i x ++ depL x ++ rowL [98, 117, 105, 108, 100] (x.f0.map toL) ++ [58, 32] ++ ([114] ++ Lib.decDigits i) ++ rowL [] (x.f1.map toL) ++ rowL [32, 124] (x.f2.map toL) ++ rowL [32, 124, 124] (x.f3.map toL) ++ [10]
def edgesL : Nat → List S47 → List UInt8
  | _, [] => []
  | i, x :: xs => edgeL i x ++ edgesL (i + 1) xs
def defL (l : List ByteArray) : List UInt8 := if l = [] then [] else rowL [100, 101, 102, 97, 117, 108, 116] (l.map toL) ++ [10]
def boundN (l : List ByteArray) : Bool := decide (l.length ≤ 1000) && l.all fun a => decide (a.size ≤ 1000)
def boundS (x : S47) : Bool := boundN x.f0 && boundN x.f1 && boundN x.f2 && boundN x.f3 && decide (x.f4.size ≤ 100000) && decide (x.f5.size ≤ 100000)
theorem B_app (a b : List UInt8) : B (a ++ b) = B a ++ B b := by
  apply ByteArray.ext; simp [B, ByteArray.data_append]
theorem B_size (a : List UInt8) : (B a).size = a.length := by simp [B, ByteArray.size]
theorem toL_length (a : ByteArray) : (toL a).length = a.size := Array.length_toList
theorem toL_eq (a : ByteArray) : a.toList = toL a := ByteArray.toList_eq a
theorem digits_len (i : Nat) (h : i < 100) : (Lib.decDigits i).length ≤ 2 := by
  by_cases h1 : i < 10
  · rw [Lib.decDigits_one h1]; simp
  · rw [Lib.decDigits_two h1 h]; simp
theorem lens_le (l : List ByteArray) (h : l.all (fun a => decide (a.size ≤ 1000)) = true) : Lib.lens (l.map toL) ≤ 1000 * l.length := by
  induction l with
  | nil => simp [Lib.lens]
  | cons a l ih =>
    rw [List.all_cons, Bool.and_eq_true, decide_eq_true_iff] at h
    have := ih h.2
    simp only [Lib.lens, List.map_cons, List.sum_cons, List.length_cons] at this ⊢
    rw [toL_length]; omega
theorem join_len (l : List ByteArray) (h : boundN l = true) : (Lib.join (l.map toL) [32]).length ≤ 1001000 := by
  rw [boundN, Bool.and_eq_true, decide_eq_true_iff] at h
  have h1 := lens_le l h.2
  cases l with
  | nil => exact Nat.zero_le _
  | cons a l =>
    rw [List.map_cons] at h1 ⊢
    rw [Lib.join_length, List.length_map]
    have h2 := h.1
    rw [List.length_cons] at h1 h2
    simp only [List.length_singleton]
    omega
theorem row_len (wd : List UInt8) (l : List ByteArray) (h : boundN l = true) : (rowL wd (l.map toL)).length ≤ wd.length + 1001001 := by
  have := join_len l h
  unfold rowL
  split
  · simp
  · simp only [List.length_append, List.length_singleton]; omega
theorem row_f (wd : List UInt8) (l : List ByteArray) (hw : wd.length ≤ 100) (h : boundN l = true) : print_row.f (B wd) l = some (B (rowL wd (l.map toL))) := by
  have hj := join_len l h
  unfold print_row.f rowL
  by_cases h0 : l = []
  · subst h0; rfl
  · have hp : 0 < l.length := List.length_pos_iff.2 h0
    have n1 : ¬ (l.length : Int) = 0 := by omega
    have n2 : ¬ l.map toL = [] := by simpa using h0
    rw [if_neg n1, if_neg n2, B_size, if_pos (by omega)]
    have hS : strings_Join.f l (⟨#[32]⟩ : ByteArray) = some (B (Lib.join (l.map toL) [32])) := by
      unfold strings_Join.f
      rw [if_pos]
      · rfl
      · rw [boundN, Bool.and_eq_true, decide_eq_true_iff] at h
        refine ⟨by omega, ?_⟩
        have : (Lib.join (l.map toL) [32]).length ≤ 140737488355328 := by omega
        exact this
    have e1 : (⟨#[32]⟩ : ByteArray) = B [32] := rfl
    rw [hS, Option.bind_some, e1, ByteArray.size_append, B_size, B_size, B_size, if_pos (by simp only [List.length_singleton]; omega), B_app, B_app]
theorem escL_le (l : List UInt8) : (Sc.escL l).length ≤ 2 * l.length := by
  rw [Sc.escL_len]; have := List.countP_le_length (p := Sc.escB) (l := l); omega
theorem esc_f (a : ByteArray) (h : a.size ≤ 100000) : scope_Escape.f a = some (B (Sc.escL (toL a))) := by
  unfold scope_Escape.f
  rw [if_pos]
  · rfl
  · have := toL_length a; simp only [toL] at this; omega
theorem itoa_f (i : Nat) (h : i < 100) : strconv_Itoa_30.f (i : Int) = some (B (Lib.decDigits i)) := by
  unfold strconv_Itoa_30.f
  rw [if_pos (by omega), Int.toNat_natCast]
  try rfl
theorem edge_len (i : Nat) (x : S47) (hi : i < 100) (h : boundS x = true) : (edgeL i x).length ≤ 10000000 := by
  simp only [boundS, Bool.and_eq_true, decide_eq_true_iff] at h
  obtain ⟨⟨⟨⟨⟨h0, h1⟩, h2⟩, h3⟩, h4⟩, h5⟩ := h
  have d := digits_len i hi
  have e4 := escL_le (toL x.f4)
  have e5 := escL_le (toL x.f5)
  rw [toL_length] at e4 e5
  have r0 := row_len [98, 117, 105, 108, 100] x.f0 h0
  have r1 := row_len [] x.f1 h1
  have r2 := row_len [32, 124] x.f2 h2
  have r3 := row_len [32, 124, 124] x.f3 h3
  simp only [List.length_cons, List.length_nil] at r0 r1 r2 r3
  have ed : (depL x).length ≤ 200013 := by
    unfold depL
    split
    · simp
    · simp only [List.length_append, List.length_cons, List.length_nil]; omega
  simp only [edgeL, headL, List.length_append, List.length_cons, List.length_nil]
  omega
set_option maxRecDepth 100000 in
set_option maxHeartbeats 4000000 in
theorem edge_j (s : List UInt8) (own : List UInt8) (x : S47) (h : boundS x = true) (hs : s.length ≤ 1000000) (ho : own.length ≤ 100) :
    print_edge.j0 1 (B own) (B s) x.f0 x.f1 x.f2 x.f3 x.f4 x.f5 = some (B (s ++ rowL [98, 117, 105, 108, 100] (x.f0.map toL) ++ [58, 32] ++ own ++ rowL [] (x.f1.map toL) ++ rowL [32, 124] (x.f2.map toL) ++ rowL [32, 124, 124] (x.f3.map toL) ++ [10])) := by
  simp only [boundS, Bool.and_eq_true, decide_eq_true_iff] at h
  obtain ⟨⟨⟨⟨⟨h0, h1⟩, h2⟩, h3⟩, h4⟩, h5⟩ := h
  have r0 := row_len [98, 117, 105, 108, 100] x.f0 h0
  have r1 := row_len [] x.f1 h1
  have r2 := row_len [32, 124] x.f2 h2
  have r3 := row_len [32, 124, 124] x.f3 h3
  simp only [List.length_cons, List.length_nil] at r0 r1 r2 r3
  have q0 := row_f [98, 117, 105, 108, 100] x.f0 (by simp) h0
  have q1 := row_f [] x.f1 (by simp) h1
  have q2 := row_f [32, 124] x.f2 (by simp) h2
  have q3 := row_f [32, 124, 124] x.f3 (by simp) h3
  generalize rowL [98, 117, 105, 108, 100] (x.f0.map toL) = R0 at *
  generalize rowL [] (x.f1.map toL) = R1 at *
  generalize rowL [32, 124] (x.f2.map toL) = R2 at *
  generalize rowL [32, 124, 124] (x.f3.map toL) = R3 at *
  have e1 : (⟨#[98, 117, 105, 108, 100]⟩ : ByteArray) = B [98, 117, 105, 108, 100] := rfl
  have e2 : (⟨#[]⟩ : ByteArray) = B [] := rfl
  have e3 : (⟨#[32, 124]⟩ : ByteArray) = B [32, 124] := rfl
  have e4 : (⟨#[32, 124, 124]⟩ : ByteArray) = B [32, 124, 124] := rfl
  have e5 : (⟨#[58, 32]⟩ : ByteArray) = B [58, 32] := rfl
  have e6 : (⟨#[10]⟩ : ByteArray) = B [10] := rfl
  rw [print_edge.j0]
  rw [e1, e2, e3, e4, e5, e6, q0, q1, q2, q3]
  simp only [Option.bind_some, ← B_app, B_size, List.length_append, List.length_cons, List.length_nil]
  rw [if_pos (by omega), if_pos (by omega), if_pos (by omega), if_pos (by omega), if_pos (by omega), if_pos (by omega), if_pos (by omega)]
set_option maxRecDepth 100000 in
set_option maxHeartbeats 4000000 in
theorem edge_f (i : Nat) (x : S47) (hi : i < 100) (h : boundS x = true) : print_edge.f 1 (i : Int) x.f0 x.f1 x.f2 x.f3 x.f4 x.f5 = some (B (edgeL i x)) := by
  have h' := h
  simp only [boundS, Bool.and_eq_true, decide_eq_true_iff] at h'
  obtain ⟨⟨⟨⟨⟨h0, h1⟩, h2⟩, h3⟩, h4⟩, h5⟩ := h'
  have d := digits_len i hi
  have g4 := escL_le (toL x.f4)
  have g5 := escL_le (toL x.f5)
  rw [toL_length] at g4 g5
  have e1 : (⟨#[114]⟩ : ByteArray) = B [114] := rfl
  have e2 : (⟨#[114, 117, 108, 101, 32]⟩ : ByteArray) = B [114, 117, 108, 101, 32] := rfl
  have e3 : (⟨#[10, 32, 32, 99, 111, 109, 109, 97, 110, 100, 32, 61, 32]⟩ : ByteArray) = B [10, 32, 32, 99, 111, 109, 109, 97, 110, 100, 32, 61, 32] := rfl
  have e4 : (⟨#[10]⟩ : ByteArray) = B [10] := rfl
  have e5 : (⟨#[32, 32, 100, 101, 112, 102, 105, 108, 101, 32, 61, 32]⟩ : ByteArray) = B [32, 32, 100, 101, 112, 102, 105, 108, 101, 32, 61, 32] := rfl
  unfold print_edge.f edgeL headL depL
  rw [itoa_f i hi, esc_f x.f4 h4, esc_f x.f5 h5, toL_eq, e1, e2, e3, e4, e5]
  simp only [Option.bind_some, ← B_app, B_size, List.length_append, List.length_cons, List.length_nil]
  generalize Sc.escL (toL x.f4) = E4 at *
  generalize Sc.escL (toL x.f5) = E5 at *
  generalize Lib.decDigits i = D at *
  rw [if_pos (by omega), if_pos (by omega), if_pos (by omega), if_pos (by omega), if_pos (by omega)]
  by_cases hz : toL x.f5 = []
  · rw [if_pos hz, if_pos hz, edge_j _ _ x h (by simp; omega) (by simp; omega), List.append_nil]
  · rw [if_neg hz, if_neg hz, if_pos (by omega), if_pos (by omega), if_pos (by omega), edge_j _ _ x h (by simp; omega) (by simp; omega)]
    try simp only [List.append_assoc]
end Go.Proofs.YtbjekebkgidhaaaGreatDoor.P
end
section
set_option linter.unusedSimpArgs false
set_option linter.unusedVariables false
namespace Go.Proofs.YtbjekebkgidhaaaGreatDoor.P
open Go.RowKit Go.Lib Go.Shelf Go.Proofs.YtbjekebkgidhaaaGreatDoorW.PrintWords Go.Proofs.YtbjekebkgidhaaaGreatDoorW.PrintLast Go.Proofs.YtbjekebkgidhaaaGreatDoorW.PrintMore Go.Proofs.YtbjekebkgidhaaaGreatDoor.U Go.Proofs.YtbjekebkgidhaaaGreatDoor.PTh Go.Proofs.YtbjekebkgidhaaaGreatDoor.Bld
theorem Len_b (B0 b : Nat) (l : List UInt8) (w : World) (h : IsB B0 b l w) : Calls Tryz.prog 16 #[.pointer (some ⟨b, 0, none⟩)] w fun e w' => e = .returned (.int .i64 (l.length : Int)) ∧ w = w' := by
  refine (Tryz.Builder_Len B0 b (Lib.byteCells l) w h).mono ?_
  rintro e w' ⟨rfl, rfl⟩
  exact ⟨by simp [Lib.byteCells], rfl⟩
theorem isB_below {B0 b : Nat} {l : List UInt8} {w w' : World} (h : IsB B0 b l w) (hb : Below w.heap.size w w') : IsB B0 b l w' := by
  have key : ∀ p, Lib.BuilderAt 46 5 B0 b p (Lib.byteCells l) w → Lib.BuilderAt 46 5 B0 b p (Lib.byteCells l) w' := by
    intro p h
    have hlt := h.lt
    obtain ⟨h1, v, h2, h3, h4⟩ := h
    refine ⟨h1, v, (hb.block _ hlt).trans h2, ?_, h4⟩
    exact h3.kept (row := none) ⟨hb.os, hb.tape, hb.output, hb.size, fun k hk _ => hb.block k hk⟩ (Classical.em _)
  rcases h with h | h
  · exact .inl (key _ h)
  · exact .inr (key _ h)
def printM (l0 : List S47) (l1 : List ByteArray) : ByteArray × Int :=
  if rightM l0 l1 = false then (⟨#[]⟩, 1) else if 16384 < (edgesL 0 l0 ++ defL l1).length then (⟨#[]⟩, 3) else (B (edgesL 0 l0 ++ defL l1), 0)
def okM (l0 : List S47) (l1 : List ByteArray) : Bool := decide (l0.length ≤ 99) && boundN l1 && l0.all boundS
theorem isB_fresh (w : World) : IsB w.heap.size w.heap.size [] (w.alloc (.cells #[.pointer none, .slice none 0 0] 46)) := by
  refine .inl ⟨Nat.le_refl _, .slice none 0 0, heap_alloc_new w _, own_nil _ _ _ _, by simp [Value.ownBlock]⟩
set_option maxRecDepth 100000 in
set_option maxHeartbeats 8000000 in
theorem Print_any (A0 A1 : Option Addr) (c0 c1 : Nat) (l0 : List S47) (l1 : List ByteArray) (w : World) (hr0 : Kd.C k47 w A0 l0.length l0) (hc0 : l0.length ≤ c0) (hr1 : Kd.C Kd.string w A1 l1.length l1) (hc1 : l1.length ≤ c1) (hok : okM l0 l1 = true) :
    Calls Tryz.prog 6 #[.agg #[.slice A0 l0.length c0, .slice A1 l1.length c1]] w fun e w' => e = .returned (.tuple #[.string (printM l0 l1).1, .int .i64 (printM l0 l1).2]) ∧ Below w.heap.size w w' := by
  have hu32 := Tryz.underlying32
  have hu43 := Tryz.underlying47
  simp only [okM, Bool.and_eq_true, decide_eq_true_iff] at hok
  obtain ⟨⟨hn0, hb1⟩, hbs⟩ := hok
  have hn1 : l1.length ≤ 1000 := by simp only [boundN, Bool.and_eq_true, decide_eq_true_iff] at hb1; exact hb1.1
  have hnx : ∀ x ∈ l0, namesS x ≤ 100000 := by
    intro x hx
    have := List.all_eq_true.1 hbs x hx
    simp only [boundS, boundN, Bool.and_eq_true, decide_eq_true_iff] at this
    unfold namesS; omega
  have hR := Lib.hid (fun (W : World) (h : Below w.heap.size w W) => Right_any A0 A1 c0 c1 l0 l1 W (Kd.C_below hr0 h) hc0 (Kd.C_below hr1 h) hc1 (by omega) (by omega) hnx)
  have hC0 := Lib.hid hr0
  have hC1 := Lib.hid hr1
  have hBS := Lib.hid hbs
  have hBN := Lib.hid hb1
  clear hr0 hr1 hbs hb1 hnx
  obtain ⟨r, hr⟩ : ∃ r, rightM l0 l1 = r := ⟨_, rfl⟩
  rw [hr] at hR
  have hBox := Lib.hid ((Below.refl w.heap.size w).alloc (Nat.le_refl _) (.cells #[.slice A0 l0.length c0, .slice A1 l1.length c1] 32))
  have hCell : Hid ((w.alloc (.cells #[.slice A0 l0.length c0, .slice A1 l1.length c1] 32)).heap[w.heap.size]? = some (.cells #[.slice A0 l0.length c0, .slice A1 l1.length c1] 32 (0, 0))) := heap_alloc_new w _
  have hSz : w.heap.size < (w.alloc (.cells #[.slice A0 l0.length c0, .slice A1 l1.length c1] 32)).heap.size := by simp
  go_enter Tryz.func6, Tryz.ntmps6
  go_wp2_with fail
  generalize w.alloc (.cells #[.slice A0 l0.length c0, .slice A1 l1.length c1] 32) = w0 at *
  refine (hR.out _ hBox.out).mono ?_
  rintro e w1 ⟨rfl, hb⟩
  have hB1 := Lib.hid (hBox.out.trans (hb.mono hBox.out.size))
  have hCe1 := Lib.hid ((hb.block _ hSz).trans hCell.out)
  have hSz1 : w.heap.size < w1.heap.size := Nat.lt_of_lt_of_le hSz hb.size
  clear hb hBox hCell hSz hR
  cases r with
  | false =>
    have hp : printM l0 l1 = (⟨#[]⟩, 1) := by rw [printM, hr]; rfl
    go_wp2_with fail
    go_ret2
    rw [hp]
    exact ⟨rfl, hB1.out⟩
  | true =>
    have hB2 := Lib.hid ((Below.refl w1.heap.size w1).alloc (Nat.le_refl _) (.cells #[.pointer none, .slice none 0 0] 46))
    have hIs := Lib.hid (isB_fresh w1)
    have hsz2 : w1.heap.size < (w1.alloc (.cells #[.pointer none, .slice none 0 0] 46)).heap.size := by simp
    obtain ⟨w2, hw2⟩ : ∃ w2, w1.alloc (.cells #[.pointer none, .slice none 0 0] 46) = w2 := ⟨_, rfl⟩
    rw [hw2] at hB2 hIs hsz2
    have hCe2 := Lib.hid ((hB2.out.block _ hSz1).trans hCe1.out)
    have k0 := (cell_of_heap (j := 0) hCe2.out).trans rfl
    go_wp2_with fail
    have hB2w := Lib.hid (hB1.out.trans (hB2.out.mono hB1.out.size))
    have hB1size := hB1.out.size
    clear hB1 hCe1 k0 hw2
    obtain ⟨n, hN⟩ : ∃ n, l0.length = n := ⟨_, rfl⟩
    rw [hN] at hn0 hC0 hCe2 hc0 ⊢
    go_loopg [13] n (fun gk s13 wr => ∃ (i : Nat) (out : List UInt8), s13 = .int .i64 (i : Int) ∧ i + gk = n ∧ Hid (out ++ edgesL i (l0.drop i) = edgesL 0 l0) ∧ out.length ≤ i * 10000000 ∧ Hid (IsB w1.heap.size w1.heap.size out wr) ∧ Hid (Below w1.heap.size w2 wr))
    case atStart => exact ⟨0, [], rfl, Nat.zero_add _, rfl, Nat.zero_le _, hIs, Below.refl _ _⟩
    case round =>
      obtain ⟨i, out, rfl, hik, hO, hol, hIB, hBl⟩ := hrel
      cases gk with
      | zero =>
        obtain rfl : i = n := by omega
        have hlt : decide ((i : Int) < (i : Int)) = false := by simp
        have hbase : Hid (w1.heap.size ≤ wr.heap.size) := Nat.le_trans (Nat.le_of_lt hsz2) hBl.out.size
        have hCe := Lib.hid ((hBl.out.block _ hSz1).trans hCe2.out)
        have k1 := (cell_of_heap (j := 1) hCe.out).trans rfl
        have hfin : Hid (out = edgesL 0 l0) := by
          show _ = _
          have := hO.out
          rw [List.drop_of_length_le (by omega), edgesL, List.append_nil] at this
          exact this
        have hC1r := Lib.hid (Kd.C_below hC1.out (hB2w.out.trans (hBl.out.mono hB1size)))
        by_cases hz : l1 = []
        · subst hz
          have hd0 : decide ((0 : Int) < (0 : Int)) = false := rfl
          have hpm : Hid (printM l0 [] = if 16384 < out.length then (⟨#[]⟩, 3) else (B out, 0)) := by
            show _ = _
            rw [printM, hr, hfin.out]
            simp [defL]
          have hLn := Lib.hid (Len_b w1.heap.size w1.heap.size out wr hIB.out)
          have hSt := Lib.hid (Tryz.Builder_String_any w1.heap.size w1.heap.size out wr hIB.out hbase.out)
          go_wp2_with fail
          refine hLn.out.mono ?_
          rintro e w3 ⟨rfl, rfl⟩
          by_cases hbig : 16384 < out.length
          · have hdb : decide ((16384 : Int) < (out.length : Int)) = true := by rw [decide_eq_true_iff]; omega
            rw [if_pos hbig] at hpm
            go_wp2_with fail
            go_ret2
            rw [hpm.out]
            exact ⟨rfl, hB2w.out.trans (hBl.out.mono hB1size)⟩
          · have hdb : decide ((16384 : Int) < (out.length : Int)) = false := by rw [decide_eq_false_iff_not]; omega
            rw [if_neg hbig] at hpm
            go_wp2_with fail
            refine hSt.out.mono ?_
            rintro e w3 ⟨rfl, hb3⟩
            go_wp2_with fail
            go_ret2
            rw [hpm.out]
            exact ⟨rfl, hB2w.out.trans ((hBl.out.trans hb3).mono hB1size)⟩
        · have hp1 : 0 < l1.length := List.length_pos_iff.2 hz
          have hd0 : decide ((0 : Int) < (l1.length : Int)) = true := by rw [decide_eq_true_iff]; omega
          have hlen := row_len [100, 101, 102, 97, 117, 108, 116] l1 hBN.out
          simp only [List.length_cons, List.length_nil] at hlen
          obtain ⟨rw1, hrw⟩ : ∃ rw1, rowL [100, 101, 102, 97, 117, 108, 116] (l1.map toL) = rw1 := ⟨_, rfl⟩
          have hRow := Lib.hid (print_row.calls (B [100, 101, 102, 97, 117, 108, 116]) A1 c1 l1 _ wr hC1r.out hc1 (row_f [100, 101, 102, 97, 117, 108, 116] l1 (by simp) hBN.out))
          rw [hrw] at hRow hlen
          have hpm : Hid (printM l0 l1 = if 16384 < (out ++ (rw1 ++ [10])).length then (⟨#[]⟩, 3) else (B (out ++ (rw1 ++ [10])), 0)) := by
            show _ = _
            rw [printM, hr, hfin.out, defL, if_neg hz, hrw]
            simp
          have hsum : (9223372036854775806 < rw1.length) = False := eq_false (by omega)
          have hsum2 : (9223372036854775807 < rw1.length + 1) = False := eq_false (by omega)
          have hsum3 : (9223372036854775806 < (B rw1).size) = False := by rw [B_size]; exact hsum
          have hsum4 : (9223372036854775807 < (B rw1).size + 1) = False := by rw [B_size]; exact hsum2
          go_wp2_with fail
          refine hRow.out.mono ?_
          rintro e w3 ⟨rfl, hb3⟩
          have hI3 := Lib.hid (isB_below hIB.out hb3)
          have hBl3 := Lib.hid (hBl.out.trans (hb3.mono hbase.out))
          clear hb3 hRow
          have hWr := Lib.hid (write w1.heap.size w1.heap.size out (rw1 ++ [10]) w3 hI3.out (by simp; omega) (Nat.le_trans (Nat.le_of_lt hsz2) hBl3.out.size))
          have hcat : B rw1 ++ (⟨#[10]⟩ : ByteArray) = ⟨(rw1 ++ [10]).toArray⟩ := (B_app rw1 [10]).symm
          clear hI3
          go_wp2_with fail
          refine hWr.out.mono ?_
          rintro e w4 ⟨rfl, hI4, hb4⟩
          have hI := Lib.hid hI4
          have hBl4 := Lib.hid (hBl3.out.trans hb4)
          have hbase4 : Hid (w1.heap.size ≤ w4.heap.size) := Nat.le_trans (Nat.le_of_lt hsz2) hBl4.out.size
          clear hI4 hb4 hWr hBl3
          obtain ⟨tot, htot⟩ : ∃ tot, out ++ (rw1 ++ [10]) = tot := ⟨_, rfl⟩
          rw [htot] at hI hpm
          have hLn := Lib.hid (Len_b w1.heap.size w1.heap.size tot w4 hI.out)
          have hSt := Lib.hid (Tryz.Builder_String_any w1.heap.size w1.heap.size tot w4 hI.out hbase4.out)
          go_wp2_with fail
          refine hLn.out.mono ?_
          rintro e w5 ⟨rfl, rfl⟩
          by_cases hbig : 16384 < tot.length
          · have hdb : decide ((16384 : Int) < (tot.length : Int)) = true := by rw [decide_eq_true_iff]; omega
            rw [if_pos hbig] at hpm
            go_wp2_with fail
            go_ret2
            rw [hpm.out]
            exact ⟨rfl, hB2w.out.trans (hBl4.out.mono hB1size)⟩
          · have hdb : decide ((16384 : Int) < (tot.length : Int)) = false := by rw [decide_eq_false_iff_not]; omega
            rw [if_neg hbig] at hpm
            go_wp2_with fail
            refine hSt.out.mono ?_
            rintro e w5 ⟨rfl, hb5⟩
            go_wp2_with fail
            go_ret2
            rw [hpm.out]
            exact ⟨rfl, hB2w.out.trans ((hBl4.out.trans hb5).mono hB1size)⟩
      | succ gk =>
        have hin : i < l0.length := by omega
        have hlt : decide ((i : Int) < (n : Int)) = true := by rw [decide_eq_true_iff]; omega
        have i1 : (0 : Int) ≤ (i : Int) := by omega
        have i2 : (i : Int) < (n : Int) := by omega
        have hBw := Lib.hid (hB2w.out.trans (hBl.out.mono hB1size))
        have hCw : Kd.C k47 wr A0 n l0 := Kd.C_below hC0.out hBw.out
        obtain ⟨ad, a0, d0, a1, d1, a2, d2, a3, d3, hA', q0, q1, q2, q3, q4, q5, m0, g0, m1, g1, m2, g2, m3, g3⟩ := at_T47 hCw (i : Int) i1 i2
        subst hA'
        have hrd : rd_T47 l0 (i : Int) = l0[i] := by simp [rd_T47, List.getD_eq_getElem?_getD, List.getElem?_eq_getElem hin]
        rw [Int.toNat_natCast] at q0 q1 q2 q3 q4 q5
        rw [hrd] at q0 q1 q2 q3 q4 q5 m0 g0 m1 g1 m2 g2 m3 g3
        have hdrop : l0.drop i = l0[i] :: l0.drop (i + 1) := List.drop_eq_getElem_cons hin
        have hO2 : Hid ((out ++ edgeL i l0[i]) ++ edgesL (i + 1) (l0.drop (i + 1)) = edgesL 0 l0) := by
          show _ = _
          have := hO.out
          rw [hdrop, edgesL, ← List.append_assoc] at this
          exact this
        have hbx := List.all_eq_true.1 hBS.out l0[i] (List.getElem_mem hin)
        generalize l0[i] = x at *
        have hel := edge_len i x (by omega) hbx
        have hol2 : (out ++ edgeL i x).length ≤ (i + 1) * 10000000 := by rw [List.length_append]; omega
        have hEd := Lib.hid (fun (W : World) (h : Below wr.heap.size wr W) => print_edge.calls 1 (i : Int) a0 d0 x.f0 a1 d1 x.f1 a2 d2 x.f2 a3 d3 x.f3 x.f4 x.f5 _ W (Kd.C_below g0 h) m0 (Kd.C_below g1 h) m1 (Kd.C_below g2 h) m2 (Kd.C_below g3 h) m3 (edge_f i x (by omega) hbx))
        have hBa := Lib.hid ((Below.refl wr.heap.size wr).alloc (Nat.le_refl _) (.cells #[.slice a0 x.f0.length d0, .slice a1 x.f1.length d1, .slice a2 x.f2.length d2, .slice a3 x.f3.length d3, .string x.f4, .string x.f5] 47))
        clear g0 m0 g1 m1 g2 m2 g3 m3 hCw hrd hdrop hO
        go_wp2_with fail
        refine (hEd.out _ hBa.out).mono ?_
        rintro e w3 ⟨rfl, hb3⟩
        have hB3 := Lib.hid (hBa.out.trans (hb3.mono hBa.out.size))
        clear hb3 hEd hBa
        have hI3 := Lib.hid (isB_below hIB.out hB3.out)
        have hBl3 := Lib.hid (hBl.out.trans (hB3.out.mono (Nat.le_trans (Nat.le_of_lt hsz2) hBl.out.size)))
        have hWr := Lib.hid (write w1.heap.size w1.heap.size out (edgeL i x) w3 hI3.out (by omega) (Nat.le_trans (Nat.le_of_lt hsz2) hBl3.out.size))
        clear hI3 hIB hB3 hBw
        go_wp2_with fail
        refine hWr.out.mono ?_
        rintro e w4 ⟨rfl, hI4, hb4⟩
        have hI := Lib.hid hI4
        have hBl4 := Lib.hid (hBl3.out.trans hb4)
        clear hI4 hb4 hWr hBl3
        go_wp2_with fail
        go_roundg gk
        case measure => omega
        case rel => exact ⟨i + 1, out ++ edgeL i x, by first | rfl | simp, by omega, hO2, hol2, hI, hBl4⟩
def print_Print.f (l0 : List S47) (l1 : List ByteArray) : Option (ByteArray × Int) := if okM l0 l1 = true then some (printM l0 l1) else none
theorem print_Print.calls (A0 : Option Addr) (c0 : Nat) (l0 : List S47) (A1 : Option Addr) (c1 : Nat) (l1 : List ByteArray) (r0 : ByteArray) (r1 : Int) (w : World) (hr0 : Kd.C k47 w A0 l0.length l0) (hc0 : l0.length ≤ c0) (hr1 : Kd.C Kd.string w A1 l1.length l1) (hc1 : l1.length ≤ c1) (h : print_Print.f l0 l1 = some (r0, r1)) :
    Calls Tryz.prog 6 #[.agg #[.slice A0 l0.length c0, .slice A1 l1.length c1]] w fun e w' => e = .returned (.tuple #[.string r0, .int .i64 r1]) ∧ Below w.heap.size w w' := by
  unfold print_Print.f at h
  split at h
  · rename_i hc
    have h' := Option.some.inj h
    have := Print_any A0 A1 c0 c1 l0 l1 w hr0 hc0 hr1 hc1 hc
    rwa [h'] at this
  · cases h
end Go.Proofs.YtbjekebkgidhaaaGreatDoor.P
end
section
set_option linter.unusedSimpArgs false
set_option linter.unusedVariables false
namespace Go.Proofs.YtbjekebkgidhaaaGreatDoor.Ln
open Go.RowKit Go.Lib Go.Shelf Go.Proofs.YtbjekebkgidhaaaGreatDoorW.PrintWords Go.Proofs.YtbjekebkgidhaaaGreatDoor.U
abbrev Txt := List UInt8
def trimL (c : UInt8) (l : Txt) : Txt := Lib.trimLeftB l c
def trimR (c : UInt8) (l : Txt) : Txt := Lib.trimRightB l c
theorem trimL_len (c : UInt8) (l : Txt) : (trimL c l).length ≤ l.length := (List.dropWhile_sublist _).length_le
theorem trimR_len (c : UInt8) (l : Txt) : (trimR c l).length ≤ l.length := by
  unfold trimR Lib.trimRightB
  rw [List.length_reverse]
  have := (List.dropWhile_sublist (l := l.reverse) (· == c)).length_le
  rw [List.length_reverse] at this
  exact this
theorem TrimLeft_any (c : UInt8) (hc : c.toNat < 128) (l : Txt) (w : World) : Calls Tryz.prog 36 #[.string (B l), .string (B [c])] w fun e w' => e = .returned (.string (B (trimL c l))) ∧ w = w' := by
  refine (Tryz.strings_TrimLeft_one (B l) c hc w).mono ?_
  rintro e w' ⟨rfl, rfl⟩
  exact ⟨rfl, rfl⟩
theorem TrimRight_any (c : UInt8) (hc : c.toNat < 128) (l : Txt) (hl : l.length < 4611686018427387904) (w : World) : Calls Tryz.prog 66 #[.string (B l), .string (B [c])] w fun e w' => e = .returned (.string (B (trimR c l))) ∧ w = w' := by
  refine (Tryz.strings_TrimRight_one (B l) c hc w (by rw [size_B]; omega)).mono ?_
  rintro e w' ⟨rfl, rfl⟩
  exact ⟨rfl, rfl⟩
def oddL (l : Txt) : Bool := decide ((l.length - (trimR 36 l).length) % 2 = 1)
set_option maxRecDepth 100000 in
set_option maxHeartbeats 2000000 in
theorem unpaired_any (l : Txt) (hl : l.length < 4611686018427387904) (w : World) :
    Calls Tryz.prog 38 #[.string (B l)] w fun e w' => e = .returned (.bool (oddL l)) ∧ w = w' := by
  have hT := Lib.hid (TrimRight_any 36 (by decide) l hl)
  have h1 := trimR_len 36 l
  have s1 : (B l).size = l.length := size_B l
  have s2 : (B (trimR 36 l)).size = (trimR 36 l).length := size_B _
  have hO : Hid (oddL l = decide ((l.length - (trimR 36 l).length) % 2 = 1)) := rfl
  generalize trimR 36 l = t at *
  have hm : Hid (Int.tmod ((l.length : Int) - (t.length : Int)) 2 = (((l.length - t.length) % 2 : Nat) : Int)) := by
    show Int.tmod _ _ = _
    rw [Int.tmod_eq_emod_of_nonneg (by omega)]; omega
  go_enter Tryz.func38, Tryz.ntmps38
  go_wp2_with fail
  refine (hT.out _).mono ?_
  rintro e w' ⟨rfl, rfl⟩
  go_wp2_with fail
  go_ret
  refine ⟨?_, rfl⟩
  rw [hO.out]
  have e : (((l.length : Int) - (t.length : Int)) % 2 == 1) = decide ((l.length - t.length) % 2 = 1) := by
    rw [Bool.eq_iff_iff, beq_iff_eq, decide_eq_true_iff]; omega
  show Ending.returned (.bool (((l.length : Int) - (t.length : Int)) % 2 == 1)) = _
  rw [e]
def emptyL (l : Txt) : Bool := match trimL 32 l with | [] => true | c :: _ => c == 35
set_option maxRecDepth 100000 in
set_option maxHeartbeats 2000000 in
theorem empty_any (l : Txt) (w : World) :
    Calls Tryz.prog 37 #[.string (B l)] w fun e w' => e = .returned (.bool (emptyL l)) ∧ w = w' := by
  have hT := Lib.hid (TrimLeft_any 32 (by decide) l)
  have hE : Hid (emptyL l = match trimL 32 l with | [] => true | c :: _ => c == 35) := rfl
  generalize trimL 32 l = t at *
  cases t with
  | nil =>
    go_enter Tryz.func37, Tryz.ntmps37
    go_wp2_with fail
    refine (hT.out _).mono ?_
    rintro e w' ⟨rfl, rfl⟩
    go_wp2_with fail
    go_ret
    exact ⟨by rw [hE.out]; rfl, rfl⟩
  | cons c t =>
    have h0 : ∀ h : 0 < (B (c :: t)).size, (((B (c :: t))[0]'h).toNat : Int) = (c.toNat : Int) := fun h => rfl
    have hsB : (B (c :: t)).size = t.length + 1 := by rw [size_B]; rfl
    have hne2 : (B (c :: t)).toList.isEmpty = false := by rw [toList_B]; rfl
    have hcr := c.toNat_lt
    by_cases h35 : c = 35
    · subst h35
      go_enter Tryz.func37, Tryz.ntmps37
      go_wp2_with fail
      refine (hT.out _).mono ?_
      rintro e w' ⟨rfl, rfl⟩
      go_wp2_with fail
      go_ret
      exact ⟨by rw [hE.out]; rfl, rfl⟩
    · have n35 : ((c.toNat : Int) == 35) = false := by rw [beq_eq_false_iff_ne]; exact byte_ne (d := 35) h35
      have e35 : (c == 35) = false := by rw [beq_eq_false_iff_ne]; exact h35
      go_enter Tryz.func37, Tryz.ntmps37
      go_wp2_with fail
      refine (hT.out _).mono ?_
      rintro e w' ⟨rfl, rfl⟩
      go_wp2_with fail
      go_ret
      exact ⟨by rw [hE.out]; simp only [e35]; rfl, rfl⟩
def trimmedL (l : Txt) : Txt := if (trimR 32 (trimL 32 l)).length < (trimL 32 l).length ∧ oddL (trimR 32 (trimL 32 l)) = true then trimR 32 (trimL 32 l) ++ [32] else trimR 32 (trimL 32 l)
set_option maxRecDepth 100000 in
set_option maxHeartbeats 2000000 in
theorem trimmed_any (l : Txt) (hl : l.length < 4611686018427387904) (w : World) :
    Calls Tryz.prog 39 #[.string (B l)] w fun e w' => e = .returned (.string (B (trimmedL l))) ∧ w = w' := by
  have hT := Lib.hid (TrimLeft_any 32 (by decide) l)
  have h1 := trimL_len 32 l
  have hE : Hid (trimmedL l = if (trimR 32 (trimL 32 l)).length < (trimL 32 l).length ∧ oddL (trimR 32 (trimL 32 l)) = true then trimR 32 (trimL 32 l) ++ [32] else trimR 32 (trimL 32 l)) := rfl
  generalize trimL 32 l = s at *
  have hR := Lib.hid (TrimRight_any 32 (by decide) s (by omega))
  have h2 := trimR_len 32 s
  generalize trimR 32 s = t at *
  have hU := Lib.hid (unpaired_any t (by omega))
  have s1 : (B s).size = s.length := size_B s
  have s2 : (B t).size = t.length := size_B t
  by_cases hlt : t.length < s.length
  · have hd : decide ((t.length : Int) < (s.length : Int)) = true := by rw [decide_eq_true_iff]; omega
    cases ho : oddL t with
    | true =>
      have hE2 : Hid (trimmedL l = t ++ [32]) := by show _ = _; rw [hE.out, if_pos ⟨hlt, ho⟩]
      rw [ho] at hU
      have hap : B t ++ (⟨#[32]⟩ : ByteArray) = B (t ++ [32]) := by
        show B t ++ B [32] = _
        rw [B_append]
      have hAP := Lib.hid hap
      clear hap
      go_enter Tryz.func39, Tryz.ntmps39
      go_wp2_with fail
      refine (hT.out _).mono ?_
      rintro e w1 ⟨rfl, rfl⟩
      go_wp2_with fail
      refine (hR.out _).mono ?_
      rintro e w1 ⟨rfl, rfl⟩
      go_wp2_with fail
      refine (hU.out _).mono ?_
      rintro e w1 ⟨rfl, rfl⟩
      go_wp2_with fail
      go_ret
      refine ⟨?_, rfl⟩
      rw [hE2.out, ← hAP.out]; rfl
    | false =>
      have hE2 : Hid (trimmedL l = t) := by show _ = _; rw [hE.out, if_neg (by simp [ho])]
      rw [ho] at hU
      go_enter Tryz.func39, Tryz.ntmps39
      go_wp2_with fail
      refine (hT.out _).mono ?_
      rintro e w1 ⟨rfl, rfl⟩
      go_wp2_with fail
      refine (hR.out _).mono ?_
      rintro e w1 ⟨rfl, rfl⟩
      go_wp2_with fail
      refine (hU.out _).mono ?_
      rintro e w1 ⟨rfl, rfl⟩
      go_wp2_with fail
      go_ret
      exact ⟨by rw [hE2.out]; rfl, rfl⟩
  · have hd : decide ((t.length : Int) < (s.length : Int)) = false := by rw [decide_eq_false_iff_not]; omega
    have hE2 : Hid (trimmedL l = t) := by show _ = _; rw [hE.out, if_neg (by simp [hlt])]
    go_enter Tryz.func39, Tryz.ntmps39
    go_wp2_with fail
    refine (hT.out _).mono ?_
    rintro e w1 ⟨rfl, rfl⟩
    go_wp2_with fail
    refine (hR.out _).mono ?_
    rintro e w1 ⟨rfl, rfl⟩
    go_wp2_with fail
    go_ret
    exact ⟨by rw [hE2.out]; rfl, rfl⟩
end Go.Proofs.YtbjekebkgidhaaaGreatDoor.Ln
end
section
set_option linter.unusedSimpArgs false
set_option linter.unusedVariables false
namespace Go.Proofs.YtbjekebkgidhaaaGreatDoor.Ln
open Go.RowKit Go.Lib Go.Shelf Go.Proofs.YtbjekebkgidhaaaGreatDoorW.PrintWords Go.Proofs.YtbjekebkgidhaaaGreatDoor.U Go.Proofs.YtbjekebkgidhaaaGreatDoor.Idx
def spl (c : UInt8) : Txt → List Txt
  | [] => [[]]
  | b :: l => if b = c then [] :: spl c l else match spl c l with
    | [] => [[b]]
    | p :: ps => (b :: p) :: ps
theorem spl_ne (c : UInt8) (l : Txt) : spl c l ≠ [] := by
  cases l with
  | nil => simp [spl]
  | cons b l =>
    unfold spl; split
    · simp
    · split <;> simp
theorem spl_none (c : UInt8) (l : Txt) (h : c ∉ l) : spl c l = [l] := by
  induction l with
  | nil => rfl
  | cons b l ih =>
    have h1 : b ≠ c := fun e => h (by simp [e])
    rw [spl, if_neg h1, ih (fun e => h (by simp [e]))]
theorem spl_at (c : UInt8) (a l : Txt) (h : c ∉ a) : spl c (a ++ c :: l) = a :: spl c l := by
  induction a with
  | nil => simp [spl]
  | cons b a ih =>
    have h1 : b ≠ c := fun e => h (by simp [e])
    rw [List.cons_append, spl, if_neg h1, ih (fun e => h (by simp [e]))]
theorem idx_cases (l : Txt) (c : UInt8) : (Lib.indexByte l c = -1 ∧ c ∉ l) ∨ ∃ a r, l = a ++ c :: r ∧ c ∉ a ∧ Lib.indexByte l c = (a.length : Int) := by
  induction l with
  | nil => exact .inl ⟨rfl, by simp⟩
  | cons b l ih =>
    by_cases hb : b = c
    · exact .inr ⟨[], l, by simp [hb], by simp, by simp [Lib.indexByte, hb]⟩
    · rcases ih with ⟨h1, h2⟩ | ⟨a, r, rfl, h2, h3⟩
      · exact .inl ⟨by simp [Lib.indexByte, hb, h1], by simp [h2, Ne.symm hb]⟩
      · exact .inr ⟨b :: a, r, by simp, by simp [h2, Ne.symm hb], by simp [Lib.indexByte, hb, h3] <;> omega⟩
theorem splitK_spl (c : UInt8) (n : Nat) : ∀ l : Txt, l.length ≤ n → Lib.splitK [c] 0 (l.count c) l = spl c l := by
  induction n with
  | zero =>
    intro l hl
    obtain rfl := List.length_eq_zero_iff.1 (Nat.le_zero.1 hl)
    rfl
  | succ n ih =>
    intro l hl
    rcases idx_cases l c with ⟨_, h2⟩ | ⟨a, r, rfl, h2, h3⟩
    · rw [List.count_eq_zero.2 h2, spl_none c l h2]; rfl
    · have hc : (a ++ c :: r).count c = r.count c + 1 := by rw [List.count_append, List.count_cons_self, List.count_eq_zero.2 h2]; omega
      have hi : Lib.index (a ++ c :: r) [c] = (a.length : Int) := by rw [Lib.index_one, h3]
      have hne : ((a.length : Int) == -1) = false := by rw [beq_eq_false_iff_ne]; omega
      rw [List.length_append, List.length_cons] at hl
      rw [hc, Lib.splitK, hi, hne, spl_at c a r h2]
      have hd : (a ++ c :: r).drop (a.length + 1) = r := by rw [show a ++ c :: r = (a ++ [c]) ++ r by simp, List.drop_left' (by simp)]
      simp only [Bool.false_eq_true, if_false, Int.toNat_natCast, Nat.add_zero, List.length_singleton, List.take_left, hd, ih r (by omega)]
theorem splitB_spl (c : UInt8) (l : Txt) : Lib.splitB (B [c]) 0 (l.count c) (B l) = (spl c l).map B := by
  have h := Lib.splitB_data (B [c]) 0 (l.count c) (B l)
  rw [show (B [c]).data.toList = [c] from rfl, data_B, splitK_spl c l.length l (Nat.le_refl _)] at h
  have h2 := congrArg (List.map B) h
  rw [List.map_map] at h2
  rw [← h2]
  conv => lhs; rw [← List.map_id (Lib.splitB (B [c]) 0 (l.count c) (B l))]
  apply List.map_congr_left
  intro s _
  exact B_of s
theorem spl_len (c : UInt8) (l : Txt) : (spl c l).length = l.count c + 1 := by
  induction l with
  | nil => rfl
  | cons b l ih =>
    rw [spl]
    by_cases hb : b = c
    · subst hb; rw [if_pos rfl, List.length_cons, ih, List.count_cons_self]
    · rw [if_neg hb, List.count_cons_of_ne hb, ← ih]
      cases h : spl c l with
      | nil => exact absurd h (spl_ne c l)
      | cons p ps => rfl
theorem Split_any (c : UInt8) (l : Txt) (hl : l.length < 4294967281) (w : World) (hm : ∃ m, w.cell? ⟨1, 0, none⟩ = some (.int .i64 m)) :
    Calls Tryz.prog 34 #[.string (B l), .string (B [c])] w fun e w' =>
      e = .returned (.slice (some ⟨w.heap.size, 0, none⟩) (spl c l).length (spl c l).length) ∧ w.alloc (.cells (((spl c l).map B).map Value.string).toArray 9) = w' := by
  obtain ⟨m, hm⟩ := hm
  have hc : Lib.countB (B l) (B [c]) = l.count c := Lib.count_one c l
  refine (Tryz.strings_Split (B l) (B [c]) m w (by rw [size_B]; exact hl) hm (by rw [size_B]; exact Nat.le_refl 1)).mono ?_
  rw [hc, splitB_spl, ← spl_len]
  rintro e w' ⟨rfl, rfl⟩
  exact ⟨rfl, rfl⟩
def okR (c : Nat) : Bool := decide (32 ≤ c) && decide (c < 127)
theorem okR_beyond (c : Nat) (h : 128 ≤ c) : okR c = false := by
  have : ¬ c < 127 := by omega
  simp [okR, this]
set_option maxRecDepth 100000 in
set_option maxHeartbeats 2000000 in
theorem bad_grows (w : World) : PredGrows Tryz.prog 33 #[] (fun c => !okR c) w := by
  intro W x hx hb
  show Calls Tryz.prog _ _ W fun e w' => e = .returned (.bool (!okR x)) ∧ Below W.heap.size W w'
  rcases (show x < 32 ∨ (32 ≤ x ∧ x < 127) ∨ 127 ≤ x by omega) with h | ⟨h1, h2⟩ | h
  · have e : (!okR x) = true := by
      have : ¬ 32 ≤ x := by omega
      simp [okR, this]
    have d1 : decide ((x : Int) < 32) = true := by rw [decide_eq_true_iff]; omega
    rw [e]
    go_enter Tryz.func33, Tryz.ntmps33
    go_wp2_with fail
    go_ret
    exact ⟨rfl, Below.refl _ _⟩
  · have e : (!okR x) = false := by simp [okR, h1, h2]
    have d1 : decide ((x : Int) < 32) = false := by rw [decide_eq_false_iff_not]; omega
    have d2 : decide (127 ≤ (x : Int)) = false := by rw [decide_eq_false_iff_not]; omega
    rw [e]
    go_enter Tryz.func33, Tryz.ntmps33
    go_wp2_with fail
    go_ret
    exact ⟨rfl, Below.refl _ _⟩
  · have e : (!okR x) = true := by
      have : ¬ x < 127 := by omega
      simp [okR, this]
    have d1 : decide ((x : Int) < 32) = false := by rw [decide_eq_false_iff_not]; omega
    have d2 : decide (127 ≤ (x : Int)) = true := by rw [decide_eq_true_iff]; omega
    rw [e]
    go_enter Tryz.func33, Tryz.ntmps33
    go_wp2_with fail
    go_ret
    exact ⟨rfl, Below.refl _ _⟩
def okL (l : Txt) : Bool := l.all fun b => okR b.toNat
theorem bad_any (l : Txt) (w : World) :
    Calls Tryz.prog 35 #[.string (B l), .func (.func 33) #[] #[]] w fun e w' => e = .returned (.bool (!okL l)) ∧ Below w.heap.size w w' := by
  have h := Tryz.strings_ContainsFunc_grows 33 #[] (fun args w => by kernel_rfl) (fun c => !okR c) (B l) w (bad_grows w)
  have hi := idx_func okR okR_beyond l
  have hd : decide ((0 : Int) ≤ Lib.idxFunc (fun c => !okR c) true (B l)) = !okL l := by
    rw [hi, okL]
    cases l.all (fun b => okR b.toNat) with
    | true => rfl
    | false => simp <;> omega
  rw [hd] at h
  exact h
end Go.Proofs.YtbjekebkgidhaaaGreatDoor.Ln
end
section
set_option linter.unusedSimpArgs false
set_option linter.unusedVariables false
namespace Go.Proofs.YtbjekebkgidhaaaGreatDoor.Ln
open Go.RowKit Go.Lib Go.Shelf Go.Proofs.YtbjekebkgidhaaaGreatDoorW.PrintWords Go.Proofs.YtbjekebkgidhaaaGreatDoor.U Go.Proofs.YtbjekebkgidhaaaGreatDoor.Idx
structure LineT where
  inner : Bool
  text : Txt
  num : Nat
deriving DecidableEq
def opened (i : Nat) (s : Txt) : Option LineT → LineT
  | some o => { o with text := o.text ++ trimL 32 s }
  | none => ⟨s.head? == some 32, s, i + 1⟩
def linesGo (total : Nat) : List Txt → Nat → List LineT → Option LineT → Except Nat (List LineT)
  | [], _, out, _ => .ok out
  | s :: rest, i, out, op =>
    if okL s = false then .error (i + 1) else
    if op = none ∧ emptyL s = true then linesGo total rest (i + 1) out none else
    if oddL s = true then (if i + 1 = total then .error (i + 1) else linesGo total rest (i + 1) out (some { opened i s op with text := (opened i s op).text.dropLast }))
    else linesGo total rest (i + 1) (out ++ [{ opened i s op with text := trimmedL (opened i s op).text }]) none
def resL : Except Nat (List LineT) → List LineT × Nat × Int
  | .ok out => (out, 0, 0)
  | .error n => ([], n, 10)
def linesL (text : Txt) : List LineT × Nat × Int :=
  if 16384 < text.length then ([], 0, 3) else resL (linesGo (spl 10 text).length (spl 10 text) 0 [] none)
theorem odd_last (l : Txt) (h : oddL l = true) : ∃ p, l = p ++ [36] := by
  rcases List.eq_nil_or_concat l with rfl | ⟨p, b, rfl⟩
  · exact absurd h (by decide)
  · by_cases hb : b = 36
    · subst hb; exact ⟨p, by simp⟩
    · have : trimR 36 (p ++ [b]) = p ++ [b] := by
        have hb' : (b == 36) = false := by rw [beq_eq_false_iff_ne]; exact hb
        simp [trimR, Lib.trimRightB, List.dropWhile_cons, hb']
      rw [List.concat_eq_append, oddL, this] at h
      simp at h
theorem trimL_snoc (p : Txt) : ∃ q, trimL 32 (p ++ [36]) = q ++ [36] := by
  induction p with
  | nil => exact ⟨[], by decide⟩
  | cons b p ih =>
    by_cases hb : b = 32
    · subst hb
      obtain ⟨q, hq⟩ := ih
      refine ⟨q, ?_⟩
      rw [← hq]
      simp [trimL, Lib.trimLeftB, List.dropWhile_cons]
    · have hb' : (b == 32) = false := by rw [beq_eq_false_iff_ne]; exact hb
      exact ⟨b :: p, by simp [trimL, Lib.trimLeftB, List.dropWhile_cons, hb']⟩
theorem opened_ne (i : Nat) (s : Txt) (op : Option LineT) (h : oddL s = true) : (opened i s op).text ≠ [] := by
  obtain ⟨p, rfl⟩ := odd_last s h
  cases op with
  | none => simp [opened]
  | some o =>
    obtain ⟨q, hq⟩ := trimL_snoc p
    simp [opened, hq]
example : linesL [97, 36, 10, 32, 98, 10, 35, 10, 32, 99, 32] = ([⟨false, [97, 98], 1⟩, ⟨true, [99], 4⟩], 0, 0) := by decide +kernel
end Go.Proofs.YtbjekebkgidhaaaGreatDoor.Ln
end
section
set_option linter.unusedSimpArgs false
set_option linter.unusedVariables false
namespace Go.Proofs.YtbjekebkgidhaaaGreatDoor.Lex
open Go.RowKit Go.Proofs.YtbjekebkgidhaaaGreatDoorW.PrintWords Go.Proofs.YtbjekebkgidhaaaGreatDoor.U
def flushL (w : List UInt8) : List (List UInt8) := if w = [] then [] else [w]
def signL : List UInt8 → List UInt8
  | [] => []
  | [c] => if c = 124 ∨ c = 58 then [c] else []
  | c :: d :: _ => if c = 124 then (if d = 124 then [124, 124] else [124]) else if c = 58 then [58] else []
def wordsGo : List UInt8 → List UInt8 → List (List UInt8)
  | [], w => flushL w
  | [c], w => if c = 124 ∨ c = 58 then flushL w ++ [[c]] else if c = 32 then flushL w else [w ++ [c]]
  | c :: d :: r, w =>
    if c = 36 then wordsGo r (w ++ [36, d])
    else if c = 124 then (if d = 124 then flushL w ++ [124, 124] :: wordsGo r [] else flushL w ++ [124] :: wordsGo (d :: r) [])
    else if c = 58 then flushL w ++ [58] :: wordsGo (d :: r) []
    else if c = 32 then flushL w ++ wordsGo (d :: r) []
    else wordsGo (d :: r) (w ++ [c])
def words (s : List UInt8) : List (List UInt8) := wordsGo s []
theorem go_pair (d : UInt8) (r w : List UInt8) : wordsGo (36 :: d :: r) w = wordsGo r (w ++ [36, d]) := by rw [wordsGo]; simp
theorem go_bars (r w : List UInt8) : wordsGo (124 :: 124 :: r) w = flushL w ++ [124, 124] :: wordsGo r [] := by rw [wordsGo]; simp
theorem go_bar (r w : List UInt8) (h : ∀ x, r ≠ 124 :: x) : wordsGo (124 :: r) w = flushL w ++ [124] :: wordsGo r [] := by
  cases r with
  | nil => simp [wordsGo, flushL]
  | cons d r => rw [wordsGo]; simp; intro h1; exact absurd (h1 ▸ rfl) (h r)
theorem go_colon (r w : List UInt8) : wordsGo (58 :: r) w = flushL w ++ [58] :: wordsGo r [] := by
  cases r with
  | nil => simp [wordsGo, flushL]
  | cons d r => rw [wordsGo]; simp
theorem go_blank (r w : List UInt8) : wordsGo (32 :: r) w = flushL w ++ wordsGo r [] := by
  cases r with
  | nil => simp [wordsGo, flushL]
  | cons d r => rw [wordsGo]; simp
theorem sign_step (c : UInt8) (s w : List UInt8) (h : signL (c :: s) ≠ []) : ∃ rest, c :: s = signL (c :: s) ++ rest ∧ wordsGo (c :: s) w = flushL w ++ signL (c :: s) :: wordsGo rest [] ∧ c ≠ 36 := by
  cases s with
  | nil =>
    by_cases hc : c = 124 ∨ c = 58
    · refine ⟨[], by simp [signL, hc], ?_, ?_⟩
      · simp [wordsGo, signL, hc, flushL]
      · rcases hc with rfl | rfl <;> decide
    · simp [signL, hc] at h
  | cons d r =>
    by_cases h1 : c = 124
    · subst h1
      by_cases h2 : d = 124
      · subst h2; exact ⟨r, by simp [signL], by simp [signL, go_bars], by decide⟩
      · exact ⟨d :: r, by simp [signL, h2], by rw [go_bar _ _ (by intro x e; simp at e; exact h2 e.1)]; simp [signL, h2], by decide⟩
    · by_cases h2 : c = 58
      · subst h2; exact ⟨d :: r, by simp [signL], by rw [go_colon]; simp [signL], by decide⟩
      · simp [signL, h1, h2] at h
theorem sign_none (c : UInt8) (s : List UInt8) (h : signL (c :: s) = []) : c ≠ 124 ∧ c ≠ 58 := by
  cases s with
  | nil =>
    by_cases hc : c = 124 ∨ c = 58
    · simp [signL, hc] at h
    · exact ⟨fun e => hc (.inl e), fun e => hc (.inr e)⟩
  | cons d r =>
    constructor
    · rintro rfl; by_cases h2 : d = 124 <;> simp [signL, h2] at h
    · rintro rfl; simp [signL] at h
theorem flush_snoc (w : List UInt8) (c : UInt8) : flushL (w ++ [c]) = [w ++ [c]] := by simp [flushL]
theorem go_plain (c : UInt8) (r w : List UInt8) (h1 : c ≠ 36 ∨ r = []) (h2 : c ≠ 124) (h3 : c ≠ 58) (h4 : c ≠ 32) : wordsGo (c :: r) w = wordsGo r (w ++ [c]) := by
  cases r with
  | nil => simp [wordsGo, h2, h3, h4, flush_snoc]
  | cons d r =>
    rcases h1 with h1 | h1
    · rw [wordsGo]; simp [h1, h2, h3, h4]
    · cases h1
theorem flush_len (w : List UInt8) : (flushL w).length ≤ w.length := by
  unfold flushL; split
  · simp
  · rename_i h; have := List.length_pos_iff.2 h; simp; omega
theorem go_len (n : Nat) : ∀ (s w : List UInt8), s.length ≤ n → (wordsGo s w).length ≤ s.length + w.length := by
  induction n with
  | zero =>
    intro s w h
    obtain rfl : s = [] := List.length_eq_zero_iff.1 (by omega)
    simpa [wordsGo] using flush_len w
  | succ n ih =>
    intro s w h
    have hf := flush_len w
    match s, h with
    | [], _ => simpa [wordsGo] using hf
    | [c], _ => rw [wordsGo]; split
                · simp; omega
                · split
                  · simp; omega
                  · simp
    | c :: d :: r, h =>
      simp only [List.length_cons] at h
      have i1 := ih r (w ++ [36, d]) (by omega)
      have i2 := ih r [] (by omega)
      have i3 := ih (d :: r) [] (by simp; omega)
      have i4 := ih (d :: r) (w ++ [c]) (by simp; omega)
      simp at i1 i2 i3 i4
      rw [wordsGo]; split
      · simp; omega
      · split
        · split <;> simp <;> omega
        · split
          · simp; omega
          · split
            · simp; omega
            · simp; omega
theorem words_len (s : List UInt8) : (words s).length ≤ s.length := by simpa [words] using go_len _ s [] (Nat.le_refl _)
def total (l : List (List UInt8)) : Nat := (l.map List.length).sum
theorem total_append (a b : List (List UInt8)) : total (a ++ b) = total a + total b := by simp [total]
theorem total_cons (a : List UInt8) (b : List (List UInt8)) : total (a :: b) = a.length + total b := by simp [total]
theorem total_flush (w : List UInt8) : total (flushL w) ≤ w.length := by unfold flushL; split <;> simp [total]
theorem go_total (n : Nat) : ∀ (s w : List UInt8), s.length ≤ n → total (wordsGo s w) ≤ s.length + w.length := by
  induction n with
  | zero =>
    intro s w h
    obtain rfl : s = [] := List.length_eq_zero_iff.1 (by omega)
    simpa [wordsGo] using total_flush w
  | succ n ih =>
    intro s w h
    have hf := total_flush w
    match s, h with
    | [], _ => simpa [wordsGo] using hf
    | [c], _ => rw [wordsGo]; split
                · simp [total_append, total_cons, total] at hf ⊢; omega
                · split
                  · simp; omega
                  · simp [total]; omega
    | c :: d :: r, h =>
      simp only [List.length_cons] at h
      have i1 := ih r (w ++ [36, d]) (by omega)
      have i2 := ih r [] (by omega)
      have i3 := ih (d :: r) [] (by simp; omega)
      have i4 := ih (d :: r) (w ++ [c]) (by simp; omega)
      simp at i1 i2 i3 i4
      rw [wordsGo]; split
      · simp; omega
      · split
        · split <;> simp [total_append, total_cons] <;> omega
        · split
          · simp [total_append, total_cons]; omega
          · split
            · simp [total_append]; omega
            · simp; omega
theorem words_total (s : List UInt8) : total (words s) ≤ s.length := by simpa [words] using go_total _ s [] (Nat.le_refl _)
inductive Chunks : List UInt8 → Prop
  | nil : Chunks []
  | pair (d : UInt8) {w : List UInt8} : Chunks w → Chunks (36 :: d :: w)
  | one (c : UInt8) {w : List UInt8} : c ≠ 36 → c ≠ 124 → c ≠ 58 → c ≠ 32 → Chunks w → Chunks (c :: w)
theorem Chunks.append {a b : List UInt8} (h : Chunks a) (k : Chunks b) : Chunks (a ++ b) := by
  induction h with
  | nil => exact k
  | pair d _ ih => exact .pair d ih
  | one c h1 h2 h3 h4 _ ih => exact .one c h1 h2 h3 h4 ih
theorem Chunks.go {w : List UInt8} (h : Chunks w) : ∀ (r v : List UInt8), wordsGo (w ++ r) v = wordsGo r (v ++ w) := by
  induction h with
  | nil => intro r v; simp
  | pair d _ ih => intro r v; rw [List.cons_append, List.cons_append, go_pair, ih]; simp
  | one c h1 h2 h3 h4 _ ih => intro r v; rw [List.cons_append, go_plain c _ _ (.inl h1) h2 h3 h4, ih]; simp
def joined (l : List (List UInt8)) : List UInt8 := (l.map fun w => 32 :: w).flatten
end Go.Proofs.YtbjekebkgidhaaaGreatDoor.Lex
end
section
set_option linter.unusedSimpArgs false
set_option linter.unusedVariables false
namespace Go.Proofs.YtbjekebkgidhaaaGreatDoor.Mf
open Go.RowKit Go.Lib Go.Shelf Go.Proofs.YtbjekebkgidhaaaGreatDoor.U Go.Proofs.YtbjekebkgidhaaaGreatDoor.Sc Go.Proofs.YtbjekebkgidhaaaGreatDoor.P
abbrev Er := Nat × Int
def kCommand : Txt := [99, 111, 109, 109, 97, 110, 100]
def kDepfile : Txt := [100, 101, 112, 102, 105, 108, 101]
def kDescription : Txt := [100, 101, 115, 99, 114, 105, 112, 116, 105, 111, 110]
def kRule : Txt := [114, 117, 108, 101]
def kBuild : Txt := [98, 117, 105, 108, 100]
def kDefault : Txt := [100, 101, 102, 97, 117, 108, 116]
def kIn : Txt := [105, 110]
def kOut : Txt := [111, 117, 116]
structure RuleS where
  name : Txt
  texts : MapL
  line : Nat
structure EdgeS where
  outs : List Txt
  ins : List Txt
  imp : List Txt
  ord : List Txt
  rule : Nat
  own : MapL
  line : Nat
structure St where
  file : MapL
  rules : List RuleS
  edges : List EdgeS
  defs : List Txt
  inner : Nat
def St.init : St := ⟨none0, [], [], [], 0⟩
def lv (m : MapL) : Lev := ⟨0, 0, 0, m⟩
def expF (ms : List MapL) (t : Txt) : Txt × Int := expandL (ms.map lv) t
def expE (line : Nat) (ms : List MapL) (t : Txt) : Except Er Txt := if (expF ms t).2 = 0 then .ok (expF ms t).1 else .error (line, (expF ms t).2)
def isSign (w : Txt) : Bool := w == [58] || w == [124] || w == [124, 124]
def cleanE (line : Nat) (s : Txt) : Except Er Txt := if (cleanL s).2 = 0 then .ok (cleanL s).1 else .error (line, 10)
def pathE (line : Nat) (file : MapL) (w : Txt) : Except Er Txt :=
  if isSign w = true then .error (line, 10) else
  match expE line [file] w with
  | .error e => .error e
  | .ok s => cleanE line s
def pathsE (line : Nat) (file : MapL) : List Txt → List Txt → Except Er (List Txt)
  | acc, [] => .ok acc
  | acc, w :: ws => match pathE line file w with
    | .error e => .error e
    | .ok p => pathsE line file (acc ++ [p]) ws
def setE (line : Nat) (text : Txt) : Except Er (Txt × Txt) :=
  if (cutL 61 text).2.2 = true ∧ nameL (trimB (cutL 61 text).1 32) = true then .ok (trimB (cutL 61 text).1 32, Lib.trimLeftB (cutL 61 text).2.1 32) else .error (line, 10)
def ahead (sign : Txt) (ws : List Txt) : List Txt := ws.takeWhile fun w => !(w == sign)
def behind (sign : Txt) (ws : List Txt) : List Txt := (ws.dropWhile fun w => !(w == sign)).tail
def ruleAt (rs : List RuleS) (nm : Txt) : Option Nat := rs.findIdx? fun r => r.name == nm
def closeE (st : St) : Except Er St :=
  if st.inner = 1 then
    match st.rules.getLast? with
    | some r => if (r.texts kCommand).getD [] = [] then .error (r.line, 10) else .ok { st with inner := 0 }
    | none => .ok { st with inner := 0 }
  else .ok { st with inner := 0 }
def ruleE (st : St) (line : Nat) (ws : List Txt) : Except Er St :=
  match ws with
  | [_, nm] => if nameL nm = true ∧ ruleAt st.rules nm = none then .ok { st with rules := st.rules ++ [⟨nm, none0, line⟩], inner := 1 } else .error (line, 10)
  | _ => .error (line, 10)
def buildE (st : St) (line : Nat) (ws : List Txt) : Except Er St :=
  if 200 ≤ st.edges.length then .error (line, 3) else
  let outs := ahead [58] ws.tail
  match outs, behind [58] ws.tail with
  | _ :: _, rn :: r => match ruleAt st.rules rn with
    | none => .error (line, 10)
    | some ri =>
      let rest := ahead [124, 124] r
      match pathsE line st.file [] outs with
      | .error e => .error e
      | .ok o => match pathsE line st.file [] (ahead [124] rest) with
        | .error e => .error e
        | .ok i => match pathsE line st.file [] (behind [124] rest) with
          | .error e => .error e
          | .ok m => match pathsE line st.file [] (behind [124, 124] r) with
            | .error e => .error e
            | .ok d => .ok { st with edges := st.edges ++ [⟨o, i, m, d, ri, none0, line⟩], inner := 2 }
  | _, _ => .error (line, 10)
def targetsE (st : St) (line : Nat) (ws : List Txt) : Except Er St :=
  match ws.tail with
  | [] => .error (line, 10)
  | w :: r => match pathsE line st.file [] (w :: r) with
    | .error e => .error e
    | .ok d => .ok { st with defs := st.defs ++ d }
def setLineE (st : St) (line : Nat) (text : Txt) : Except Er St :=
  match setE line text with
  | .error e => .error e
  | .ok nt => match expE line [st.file] nt.2 with
    | .error e => .error e
    | .ok x => .ok { st with file := upd st.file nt.1 x }
def onLast {α : Type} (f : α → α) : List α → List α
  | [] => []
  | [x] => [f x]
  | x :: y :: r => x :: onLast f (y :: r)
def innerE (st : St) (line : Nat) (text : Txt) : Except Er St :=
  if st.inner = 0 then .error (line, 10) else
  match setE line text with
  | .error e => .error e
  | .ok nt =>
    if st.inner = 1 then
      if nt.1 = kCommand ∨ nt.1 = kDepfile ∨ nt.1 = kDescription then .ok { st with rules := onLast (fun r => { r with texts := upd r.texts nt.1 nt.2 }) st.rules } else .error (line, 10)
    else match expE line [st.file] nt.2 with
      | .error e => .error e
      | .ok x => .ok { st with edges := onLast (fun e => { e with own := upd e.own nt.1 x }) st.edges }
def leftE (st : St) (line : Nat) (text : Txt) : Except Er St :=
  match closeE st with
  | .error e => .error e
  | .ok st => match Lex.words text with
    | [] => .error (line, 10)
    | w :: ws =>
      if w = kRule then ruleE st line (w :: ws)
      else if w = kBuild then buildE st line (w :: ws)
      else if w = kDefault then targetsE st line (w :: ws)
      else setLineE st line text
def takesE (st : St) (l : Ln.LineT) : Except Er St := if l.inner = true then innerE st l.num l.text else leftE st l.num l.text
def linesE : St → List Ln.LineT → Except Er St
  | st, [] => .ok st
  | st, l :: ls => match takesE st l with
    | .error e => .error e
    | .ok st => linesE st ls
structure EdgeO where
  outs : List Txt
  ins : List Txt
  imp : List Txt
  ord : List Txt
  command : Txt
  depfile : Txt
def joinS (ps : List Txt) : Txt := [32].intercalate ps
def endsE (file : MapL) (rules : List RuleS) (e : EdgeS) : Except Er EdgeO :=
  let ms := [upd (upd e.own kIn (joinS e.ins)) kOut (joinS e.outs), file]
  let texts := match rules[e.rule]? with | some r => r.texts | none => none0
  match expE e.line ms ((texts kCommand).getD []) with
  | .error x => .error x
  | .ok c => if c = [] then .error (e.line, 10) else
    match expE e.line ms ((texts kDepfile).getD []) with
    | .error x => .error x
    | .ok d => if d = [] then .ok ⟨e.outs, e.ins, e.imp, e.ord, c, []⟩ else
      match cleanE e.line d with
      | .error x => .error x
      | .ok p => .ok ⟨e.outs, e.ins, e.imp, e.ord, c, p⟩
def endsAll (file : MapL) (rules : List RuleS) : List EdgeS → List EdgeO → Except Er (List EdgeO)
  | [], acc => .ok acc
  | e :: es, acc => match endsE file rules e with
    | .error x => .error x
    | .ok o => endsAll file rules es (acc ++ [o])
def parseE (ls : List Ln.LineT) : Except Er (List EdgeO × List Txt) :=
  match linesE St.init ls with
  | .error e => .error e
  | .ok st => match closeE st with
    | .error e => .error e
    | .ok st => match endsAll st.file st.rules st.edges [] with
      | .error e => .error e
      | .ok es => .ok (es, st.defs)
def parseL (text : Txt) : List EdgeO × List Txt × Nat × Int :=
  if (Ln.linesL text).2.2 = 0 then
    match parseE (Ln.linesL text).1 with
    | .error e => ([], [], e.1, e.2)
    | .ok r => (r.1, r.2, 0, 0)
  else ([], [], (Ln.linesL text).2.1, (Ln.linesL text).2.2)
end Go.Proofs.YtbjekebkgidhaaaGreatDoor.Mf
end
section
set_option linter.unusedSimpArgs false
set_option linter.unusedVariables false
namespace Go.Proofs.YtbjekebkgidhaaaGreatDoor.Mf
open Go.RowKit Go.Lib Go.Shelf Go.Proofs.YtbjekebkgidhaaaGreatDoor.U Go.Proofs.YtbjekebkgidhaaaGreatDoor.Sc Go.Proofs.YtbjekebkgidhaaaGreatDoor.P
def CleanP (p : Txt) : Prop := ∃ s, cleanL s = (p, 0)
def OkN (n : Nat) : Prop := 0 < n ∧ n ≤ 100000
structure GoodEdge (e : EdgeS) : Prop where
  line : OkN e.line
  outs : e.outs ≠ []
  p0 : ∀ p ∈ e.outs, CleanP p
  p1 : ∀ p ∈ e.ins, CleanP p
  p2 : ∀ p ∈ e.imp, CleanP p
  p3 : ∀ p ∈ e.ord, CleanP p
structure Good (st : St) : Prop where
  ru : ∀ r ∈ st.rules, OkN r.line
  ed : ∀ e ∈ st.edges, GoodEdge e
  de : ∀ p ∈ st.defs, CleanP p
theorem Good.inner {st : St} (h : Good st) (n : Nat) : Good { st with inner := n } := ⟨h.ru, h.ed, h.de⟩
theorem Good.file {st : St} (h : Good st) (n : MapL) : Good { st with file := n } := ⟨h.ru, h.ed, h.de⟩
def endsT (file : MapL) (e : EdgeS) (texts : MapL) : Except Er EdgeO :=
  match expE e.line [upd (upd e.own kIn (joinS e.ins)) kOut (joinS e.outs), file] ((texts kCommand).getD []) with
  | .error x => .error x
  | .ok c => if c = [] then .error (e.line, 10) else
    match expE e.line [upd (upd e.own kIn (joinS e.ins)) kOut (joinS e.outs), file] ((texts kDepfile).getD []) with
    | .error x => .error x
    | .ok d => if d = [] then .ok ⟨e.outs, e.ins, e.imp, e.ord, c, []⟩ else
      match cleanE e.line d with
      | .error x => .error x
      | .ok p => .ok ⟨e.outs, e.ins, e.imp, e.ord, c, p⟩
theorem endsE_T (file : MapL) (rules : List RuleS) (e : EdgeS) : endsE file rules e = endsT file e (match rules[e.rule]? with | some r => r.texts | none => none0) := rfl
end Go.Proofs.YtbjekebkgidhaaaGreatDoor.Mf
end
section
set_option linter.unusedSimpArgs false
set_option linter.unusedVariables false
namespace Go.Proofs.YtbjekebkgidhaaaGreatDoor.Mf
open Go.RowKit Go.Lib Go.Shelf Go.Proofs.YtbjekebkgidhaaaGreatDoor.U Go.Proofs.YtbjekebkgidhaaaGreatDoor.Sc Go.Proofs.YtbjekebkgidhaaaGreatDoor.P
open Go.Proofs.YtbjekebkgidhaaaGreatDoor.Ln hiding Txt
def mkLine (s : Txt) (n : Nat) : LineT := ⟨s.head? == some 32, trimmedL s, n⟩
def PlainLine (s : Txt) : Prop := (10 : UInt8) ∉ s ∧ okL s = true ∧ emptyL s = false ∧ oddL s = false
instance (s : Txt) : Decidable (PlainLine s) := by unfold PlainLine; infer_instance
def textOf : List Txt → Txt
  | [] => []
  | s :: ls => s ++ 10 :: textOf ls
def numbered : Nat → List Txt → List LineT
  | _, [] => []
  | i, s :: ss => mkLine s (i + 1) :: numbered (i + 1) ss
theorem textOf_append : ∀ a b : List Txt, textOf (a ++ b) = textOf a ++ textOf b
  | [], b => rfl
  | s :: a, b => by simp [textOf, textOf_append a b]
theorem numbered_append : ∀ (a b : List Txt) (i : Nat), numbered i (a ++ b) = numbered i a ++ numbered (i + a.length) b
  | [], b, i => rfl
  | s :: a, b, i => by
    rw [List.cons_append, numbered, numbered_append a b (i + 1), numbered, List.length_cons, List.cons_append]
    rw [show i + 1 + a.length = i + (a.length + 1) by omega]
theorem spl_line (s r : Txt) (h : (10 : UInt8) ∉ s) : spl 10 (s ++ 10 :: r) = s :: spl 10 r := by
  induction s with
  | nil => simp [spl]
  | cons b s ih =>
    have hb : b ≠ 10 := fun e => h (by simp [e])
    have := ih (fun hh => h (List.mem_cons_of_mem _ hh))
    rw [List.cons_append, spl, if_neg hb, this]
theorem spl_text : ∀ ls : List Txt, (∀ s ∈ ls, PlainLine s) → spl 10 (textOf ls) = ls ++ [[]]
  | [], _ => rfl
  | s :: ls, h => by
    rw [textOf, spl_line s _ (h s (by simp)).1, spl_text ls (fun s hs => h s (List.mem_cons_of_mem _ hs))]; rfl
theorem linesGo_text (T : Nat) : ∀ (ls : List Txt) (i : Nat) (out : List LineT), (∀ s ∈ ls, PlainLine s) → linesGo T (ls ++ [[]]) i out none = .ok (out ++ numbered i ls)
  | [], i, out, _ => by
    rw [List.nil_append, linesGo, if_neg (by decide), if_pos ⟨rfl, by decide⟩, linesGo, numbered, List.append_nil]
  | s :: ls, i, out, h => by
    obtain ⟨_, h1, h2, h3⟩ := h s (by simp)
    rw [List.cons_append, linesGo, if_neg (by rw [h1]; decide), if_neg (by rw [h2]; simp), if_neg (by rw [h3]; decide), linesGo_text T ls (i + 1) _ (fun s hs => h s (List.mem_cons_of_mem _ hs)), numbered, List.append_assoc]
    rfl
theorem linesL_text (ls : List Txt) (h : ∀ s ∈ ls, PlainLine s) (hl : (textOf ls).length ≤ 16384) : linesL (textOf ls) = (numbered 0 ls, 0, 0) := by
  rw [linesL, if_neg (by omega), spl_text ls h, linesGo_text _ ls 0 [] h]; rfl
theorem linesE_append : ∀ (a b : List LineT) (st : St), linesE st (a ++ b) = match linesE st a with | .error e => .error e | .ok st => linesE st b
  | [], b, st => rfl
  | l :: a, b, st => by
    rw [List.cons_append, linesE, linesE]
    rcases takesE st l with e | st2
    · rfl
    · exact linesE_append a b st2
end Go.Proofs.YtbjekebkgidhaaaGreatDoor.Mf
end
section
set_option linter.unusedSimpArgs false
set_option linter.unusedVariables false
namespace Go.Proofs.YtbjekebkgidhaaaGreatDoor.Mf
open Go.RowKit Go.Lib Go.Shelf Go.Proofs.YtbjekebkgidhaaaGreatDoor.U Go.Proofs.YtbjekebkgidhaaaGreatDoor.Sc Go.Proofs.YtbjekebkgidhaaaGreatDoor.P
open Go.Proofs.YtbjekebkgidhaaaGreatDoor.Ln hiding Txt
open Go.Proofs.YtbjekebkgidhaaaGreatDoor.Lex (wordsGo flushL Chunks)
theorem digit_range (d : Nat) (h : d < 10) : 48 ≤ (UInt8.ofNat (48 + d)).toNat ∧ (UInt8.ofNat (48 + d)).toNat ≤ 57 ∧ (UInt8.ofNat (48 + d)).toNat = 48 + d := by
  have e : (UInt8.ofNat (48 + d)).toNat = 48 + d := by rw [UInt8.toNat_ofNat']; omega
  omega
theorem digits_all (u : Nat) : ∀ b ∈ Lib.decDigits u, 48 ≤ b.toNat ∧ b.toNat ≤ 57 := by
  induction u using Nat.strongRecOn with
  | _ u ih =>
    unfold Lib.decDigits
    split
    · rename_i h
      intro b hb
      rw [List.mem_singleton.1 hb]
      have := digit_range u h
      exact ⟨this.1, this.2.1⟩
    · rename_i h
      intro b hb
      rcases List.mem_append.1 hb with hb | hb
      · exact ih (u / 10) (by omega) b hb
      · rw [List.mem_singleton.1 hb]
        have := digit_range (u % 10) (by omega)
        exact ⟨this.1, this.2.1⟩
def valD (l : Txt) : Nat := l.foldl (fun a b => a * 10 + (b.toNat - 48)) 0
theorem val_digits (u : Nat) : valD (Lib.decDigits u) = u := by
  induction u using Nat.strongRecOn with
  | _ u ih =>
    unfold Lib.decDigits
    split
    · rename_i h
      have := (digit_range u h).2.2
      simp only [valD, List.foldl_cons, List.foldl_nil]
      omega
    · rename_i h
      have h1 := ih (u / 10) (by omega)
      have h2 := (digit_range (u % 10) (by omega)).2.2
      unfold valD at h1 ⊢
      rw [List.foldl_append, h1]
      simp only [List.foldl_cons, List.foldl_nil]
      omega
def ownN (i : Nat) : Txt := 114 :: Lib.decDigits i
theorem ownN_inj {i j : Nat} (h : ownN i = ownN j) : i = j := by
  injection h with _ h
  rw [← val_digits i, h, val_digits]
def Calm (b : UInt8) : Prop := b ≠ 36 ∧ b ≠ 124 ∧ b ≠ 58 ∧ b ≠ 32 ∧ okR b.toNat = true
theorem calm_plain : ∀ n : Nat, n < 256 → plainR n = true → (n ≠ 36 ∧ n ≠ 124 ∧ n ≠ 58 ∧ n ≠ 32 ∧ okR n = true) := by decide +kernel
theorem Calm.of {b : UInt8} (h : b.toNat ≠ 36 ∧ b.toNat ≠ 124 ∧ b.toNat ≠ 58 ∧ b.toNat ≠ 32 ∧ okR b.toNat = true) : Calm b :=
  ⟨fun e => h.1 (by rw [e]; rfl), fun e => h.2.1 (by rw [e]; rfl), fun e => h.2.2.1 (by rw [e]; rfl), fun e => h.2.2.2.1 (by rw [e]; rfl), h.2.2.2.2⟩
theorem calm_of_plain {b : UInt8} (h : plainB b = true) : Calm b := Calm.of (calm_plain b.toNat b.toNat_lt h)
theorem calm_digit {b : UInt8} (h : 48 ≤ b.toNat ∧ b.toNat ≤ 57) : Calm b := by
  refine Calm.of ⟨by omega, by omega, by omega, by omega, ?_⟩
  unfold okR
  simp; omega
structure NameP (p : Txt) : Prop where
  ne : p ≠ []
  calm : ∀ b ∈ p, Calm b
structure CleanN (p : Txt) : Prop extends NameP p where
  len : p.length ≤ 100
  clean : cleanL p = (p, 0)
theorem CleanN.of {p : Txt} (h : CleanP p) : CleanN p := by
  obtain ⟨s, hs⟩ := h
  obtain ⟨ps, hc⟩ := PTh.clean_is hs
  exact ⟨⟨hc.cne, fun b hb => calm_of_plain (List.all_eq_true.1 hc.allp b hb)⟩, hc.len, hc.again⟩
theorem own_name (i : Nat) : NameP (ownN i) := by
  refine ⟨by simp [ownN], fun b hb => ?_⟩
  rcases List.mem_cons.1 hb with rfl | hb
  · exact Calm.of (by decide)
  · exact calm_digit (digits_all i b hb)
theorem NameP.chunks {p : Txt} (h : NameP p) : Chunks p := by
  have := h.calm
  clear h
  induction p with
  | nil => exact .nil
  | cons b p ih =>
    obtain ⟨h1, h2, h3, h4, _⟩ := this b (by simp)
    exact .one b h1 h2 h3 h4 (ih fun c hc => this c (List.mem_cons_of_mem _ hc))
theorem NameP.not_sign {p : Txt} (h : NameP p) : p ≠ [58] ∧ p ≠ [124] ∧ p ≠ [124, 124] := by
  refine ⟨?_, ?_, ?_⟩
  · rintro rfl; exact (h.calm 58 (by simp)).2.2.1 rfl
  · rintro rfl; exact (h.calm 124 (by simp)).2.1 rfl
  · rintro rfl; exact (h.calm 124 (by simp)).2.1 rfl
def joined (l : List Txt) : Txt := (l.map fun w => 32 :: w).flatten
theorem joined_cons (p : Txt) (l : List Txt) : joined (p :: l) = 32 :: (p ++ joined l) := by simp [joined]
def initW : Txt → List Txt → List Txt
  | _, [] => []
  | w, p :: l => w :: initW p l
def lastW : Txt → List Txt → Txt
  | w, [] => w
  | _, p :: l => lastW p l
theorem init_last : ∀ (l : List Txt) (w : Txt), initW w l ++ [lastW w l] = w :: l
  | [], w => rfl
  | p :: l, w => by simp [initW, lastW, init_last l p]
theorem last_name : ∀ (l : List Txt) (w : Txt), NameP w → (∀ p ∈ l, NameP p) → NameP (lastW w l)
  | [], w, h, _ => h
  | p :: l, w, h, hl => last_name l p (hl p (by simp)) (fun q hq => hl q (List.mem_cons_of_mem _ hq))
theorem flush_name {w : Txt} (h : NameP w) : flushL w = [w] := by unfold flushL; rw [if_neg h.ne]
theorem go_joined : ∀ (l : List Txt) (w r : Txt), NameP w → (∀ p ∈ l, NameP p) → wordsGo (joined l ++ r) w = initW w l ++ wordsGo r (lastW w l)
  | [], w, r, _, _ => rfl
  | p :: l, w, r, hw, hl => by
    have hp := hl p (by simp)
    rw [joined_cons, List.cons_append, List.append_assoc, Lex.go_blank, flush_name hw, hp.chunks.go, List.nil_append, go_joined l p r hp (fun q hq => hl q (List.mem_cons_of_mem _ hq))]
    rfl
def optT (sign : Txt) (l : List Txt) : Txt := if l = [] then [] else 32 :: (sign ++ joined l)
def optW (sign : Txt) (l : List Txt) : List Txt := if l = [] then [] else sign :: l
theorem go_opt1 (l : List Txt) (w r : Txt) (hw : NameP w) (hl : ∀ p ∈ l, NameP p) (R : List Txt) (hR : ∀ v : Txt, NameP v → wordsGo r v = v :: R) : wordsGo (optT [124] l ++ r) w = w :: optW [124] l ++ R := by
  unfold optT optW
  split
  · rw [List.nil_append, hR w hw]; rfl
  · rename_i hne
    obtain ⟨p, l', rfl⟩ := List.exists_cons_of_ne_nil hne
    have hp := hl p (by simp)
    have hl' : ∀ q ∈ l', NameP q := fun q hq => hl q (List.mem_cons_of_mem _ hq)
    rw [joined_cons]
    simp only [List.cons_append, List.nil_append, List.append_assoc]
    rw [Lex.go_blank, flush_name hw, Lex.go_bar _ _ (fun x e => by injection e with e _; exact absurd e (by decide)), Lex.go_blank, hp.chunks.go, List.nil_append, go_joined l' p r hp hl', hR _ (last_name l' p hp hl')]
    have := init_last l' p
    simp only [flushL, List.cons_append, List.nil_append, if_pos, List.append_nil]
    rw [show initW p l' ++ lastW p l' :: R = (initW p l' ++ [lastW p l']) ++ R by simp, this]
    simp
theorem go_opt2 (l : List Txt) (w : Txt) (hw : NameP w) (hl : ∀ p ∈ l, NameP p) : wordsGo (optT [124, 124] l) w = w :: optW [124, 124] l := by
  unfold optT optW
  split
  · rw [wordsGo, flush_name hw]
  · rename_i hne
    obtain ⟨p, l', rfl⟩ := List.exists_cons_of_ne_nil hne
    have hp := hl p (by simp)
    have hl' : ∀ q ∈ l', NameP q := fun q hq => hl q (List.mem_cons_of_mem _ hq)
    rw [joined_cons]
    simp only [List.cons_append, List.nil_append]
    rw [Lex.go_blank, flush_name hw, Lex.go_bars, Lex.go_blank, hp.chunks.go, List.nil_append]
    have := go_joined l' p [] hp hl'
    rw [List.append_nil] at this
    rw [this, wordsGo, flush_name (last_name l' p hp hl'), init_last]
    simp [flushL]
theorem kBuild_name : NameP kBuild := ⟨by decide, fun b hb => by
  simp only [kBuild, List.mem_cons, List.not_mem_nil, or_false] at hb
  rcases hb with rfl | rfl | rfl | rfl | rfl <;> exact Calm.of (by decide)⟩
theorem kDefault_name : NameP kDefault := ⟨by decide, fun b hb => by
  simp only [kDefault, List.mem_cons, List.not_mem_nil, or_false] at hb
  rcases hb with rfl | rfl | rfl | rfl | rfl | rfl | rfl <;> exact Calm.of (by decide)⟩
theorem kRule_name : NameP kRule := ⟨by decide, fun b hb => by
  simp only [kRule, List.mem_cons, List.not_mem_nil, or_false] at hb
  rcases hb with rfl | rfl | rfl | rfl <;> exact Calm.of (by decide)⟩
structure RightO (x : EdgeO) : Prop where
  outs : x.outs ≠ []
  n0 : ∀ p ∈ x.outs, CleanN p
  n1 : ∀ p ∈ x.ins, CleanN p
  n2 : ∀ p ∈ x.imp, CleanN p
  n3 : ∀ p ∈ x.ord, CleanN p
  cne : x.command ≠ []
  cok : okL x.command = true
  dep : x.depfile = [] ∨ CleanN x.depfile
def hLine (i : Nat) : Txt := kRule ++ joined [ownN i]
def cLine (x : EdgeO) : Txt := 32 :: 32 :: (kCommand ++ ([32, 61, 32] ++ escL x.command))
def dLines (x : EdgeO) : List Txt := if x.depfile = [] then [] else [32 :: 32 :: (kDepfile ++ ([32, 61, 32] ++ escL x.depfile))]
def bLine (i : Nat) (x : EdgeO) : Txt := kBuild ++ (joined x.outs ++ (58 :: 32 :: (ownN i ++ (joined x.ins ++ (optT [124] x.imp ++ optT [124, 124] x.ord)))))
def eLines (i : Nat) (x : EdgeO) : List Txt := hLine i :: cLine x :: (dLines x ++ [bLine i x])
def manLines : Nat → List EdgeO → List Txt
  | _, [] => []
  | i, x :: xs => eLines i x ++ manLines (i + 1) xs
def defLines (ds : List Txt) : List Txt := if ds = [] then [] else [kDefault ++ joined ds]
theorem words_h (i : Nat) : Lex.words (hLine i) = [kRule, ownN i] := by
  show wordsGo (kRule ++ joined [ownN i]) [] = _
  rw [kRule_name.chunks.go, List.nil_append]
  have := go_joined [ownN i] kRule [] kRule_name (fun p hp => by rw [List.mem_singleton.1 hp]; exact own_name i)
  rw [List.append_nil] at this
  rw [this]
  show [kRule] ++ wordsGo [] (ownN i) = _
  rw [wordsGo, flush_name (own_name i)]; rfl
theorem words_d (ds : List Txt) (h : ∀ p ∈ ds, NameP p) : Lex.words (kDefault ++ joined ds) = kDefault :: ds := by
  show wordsGo (kDefault ++ joined ds) [] = _
  rw [kDefault_name.chunks.go, List.nil_append]
  have := go_joined ds kDefault [] kDefault_name h
  rw [List.append_nil] at this
  rw [this, wordsGo, flush_name (last_name ds _ kDefault_name h), init_last]
theorem words_b (i : Nat) (x : EdgeO) (h : RightO x) : Lex.words (bLine i x) = kBuild :: (x.outs ++ [58] :: ownN i :: (x.ins ++ (optW [124] x.imp ++ optW [124, 124] x.ord))) := by
  have n0 : ∀ p ∈ x.outs, NameP p := fun p hp => (h.n0 p hp).toNameP
  have n1 : ∀ p ∈ x.ins, NameP p := fun p hp => (h.n1 p hp).toNameP
  have n2 : ∀ p ∈ x.imp, NameP p := fun p hp => (h.n2 p hp).toNameP
  have n3 : ∀ p ∈ x.ord, NameP p := fun p hp => (h.n3 p hp).toNameP
  show wordsGo (bLine i x) [] = _
  unfold bLine
  rw [kBuild_name.chunks.go, List.nil_append, go_joined x.outs kBuild _ kBuild_name n0, Lex.go_colon, flush_name (last_name _ _ kBuild_name n0), Lex.go_blank, (own_name i).chunks.go, List.nil_append,
    go_joined x.ins (ownN i) _ (own_name i) n1, go_opt1 x.imp _ _ (last_name _ _ (own_name i) n1) n2 (optW [124, 124] x.ord) (fun v hv => go_opt2 x.ord v hv n3)]
  have e1 := init_last x.outs kBuild
  have e2 := init_last x.ins (ownN i)
  have f1 : initW kBuild x.outs ++ ([lastW kBuild x.outs] ++ [58] :: (flushL [] ++ (initW (ownN i) x.ins ++ (lastW (ownN i) x.ins :: optW [124] x.imp ++ optW [124, 124] x.ord)))) = (initW kBuild x.outs ++ [lastW kBuild x.outs]) ++ ([58] :: ((initW (ownN i) x.ins ++ [lastW (ownN i) x.ins]) ++ (optW [124] x.imp ++ optW [124, 124] x.ord))) := by simp [flushL]
  rw [f1, e1, e2]
  rfl
end Go.Proofs.YtbjekebkgidhaaaGreatDoor.Mf
end
section
set_option linter.unusedSimpArgs false
set_option linter.unusedVariables false
namespace Go.Proofs.YtbjekebkgidhaaaGreatDoor.Mf
open Go.RowKit Go.Lib Go.Shelf Go.Proofs.YtbjekebkgidhaaaGreatDoor.U Go.Proofs.YtbjekebkgidhaaaGreatDoor.Sc Go.Proofs.YtbjekebkgidhaaaGreatDoor.P
open Go.Proofs.YtbjekebkgidhaaaGreatDoor.Ln hiding Txt
open Go.Proofs.YtbjekebkgidhaaaGreatDoor.Lex (wordsGo flushL Chunks)
theorem trimL_head {c b : UInt8} {l : Txt} (h : b ≠ c) : trimL c (b :: l) = b :: l := by
  have hb : (b == c) = false := beq_eq_false_iff_ne.2 h
  simp [trimL, Lib.trimLeftB, List.dropWhile_cons, hb]
theorem trimL_cons (c : UInt8) (l : Txt) : trimL c (c :: l) = trimL c l := by simp [trimL, Lib.trimLeftB, List.dropWhile_cons]
theorem trimR_snoc (c : UInt8) (l : Txt) : trimR c (l ++ [c]) = trimR c l := by simp [trimR, Lib.trimRightB, List.dropWhile_cons]
theorem trimR_last {c b : UInt8} {l : Txt} (h : b ≠ c) : trimR c (l ++ [b]) = l ++ [b] := by
  have hb : (b == c) = false := beq_eq_false_iff_ne.2 h
  simp [trimR, Lib.trimRightB, List.dropWhile_cons, hb]
theorem odd_snoc36 (l : Txt) : oddL (l ++ [36]) = !oddL l := by
  have := trimR_len 36 l
  unfold oddL
  rw [trimR_snoc, List.length_append, List.length_singleton]
  rw [Bool.eq_iff_iff]
  simp only [Bool.not_eq_true', decide_eq_true_iff, decide_eq_false_iff_not]
  omega
theorem odd_last_ne {b : UInt8} {l : Txt} (h : b ≠ 36) : oddL (l ++ [b]) = false := by
  unfold oddL
  rw [trimR_last h, Nat.sub_self]; rfl
theorem odd_esc (pre : Txt) (hp : oddL pre = false) : ∀ (n : Nat) (t : Txt), t.length = n → oddL (pre ++ escL t) = false := by
  intro n
  induction n with
  | zero =>
    intro t ht
    obtain rfl : t = [] := List.length_eq_zero_iff.1 ht
    rw [escL, List.append_nil]; exact hp
  | succ n ih =>
    intro t ht
    rcases List.eq_nil_or_concat t with rfl | ⟨t', b, rfl⟩
    · simp at ht
    rw [List.concat_eq_append] at ht ⊢
    have h' := ih t' (by rw [List.length_append, List.length_singleton] at ht; omega)
    rw [escL_app, escL_one, ← List.append_assoc]
    by_cases hb : b = 36
    · subst hb
      rw [if_pos (by decide), show ([36, 36] : Txt) = [36] ++ [36] from rfl, ← List.append_assoc, odd_snoc36, odd_snoc36, h']; rfl
    · split
      · rw [show ([36, b] : Txt) = [36] ++ [b] from rfl, ← List.append_assoc]; exact odd_last_ne hb
      · exact odd_last_ne hb
theorem trimmed_id {b c : UInt8} {l m : Txt} (h : m = b :: l) (hb : b ≠ 32) {l2 : Txt} (h2 : m = l2 ++ [c]) (hc : c ≠ 32) : trimmedL m = m := by
  unfold trimmedL
  rw [show trimL 32 m = m by rw [h]; exact trimL_head hb, show trimR 32 m = m by rw [h2]; exact trimR_last hc, if_neg (fun h => Nat.lt_irrefl _ h.1)]
theorem trimmed_set {pre t : Txt} {b : UInt8} {l : Txt} (h : pre = b :: l) (hb : b ≠ 32) (hp : oddL pre = false) (ht : t ≠ []) : trimmedL (32 :: 32 :: (pre ++ escL t)) = pre ++ escL t := by
  have e1 : trimL 32 (32 :: 32 :: (pre ++ escL t)) = pre ++ escL t := by rw [trimL_cons, trimL_cons, h]; exact trimL_head hb
  unfold trimmedL
  rw [e1]
  rcases List.eq_nil_or_concat t with rfl | ⟨t', c, rfl⟩
  · exact absurd rfl ht
  rw [List.concat_eq_append, escL_app, escL_one, ← List.append_assoc]
  by_cases hc : c = 32
  · subst hc
    rw [if_pos (show escB 32 = true by decide), show ([36, 32] : Txt) = [36] ++ [32] from rfl, ← List.append_assoc, trimR_snoc, trimR_last (by decide), if_pos]
    refine ⟨by simp, ?_⟩
    rw [odd_snoc36, odd_esc pre hp _ t' rfl]; rfl
  · have e2 : trimR 32 (pre ++ escL t' ++ (if escB c = true then [36, c] else [c])) = pre ++ escL t' ++ (if escB c = true then [36, c] else [c]) := by
      split
      · rw [show ([36, c] : Txt) = [36] ++ [c] from rfl, ← List.append_assoc]; exact trimR_last hc
      · exact trimR_last hc
    rw [e2, if_neg (fun h => Nat.lt_irrefl _ h.1)]
theorem okL_iff (l : Txt) : okL l = true ↔ ∀ b ∈ l, okR b.toNat = true := by unfold okL; exact List.all_eq_true
theorem okL_app {a b : Txt} (ha : okL a = true) (hb : okL b = true) : okL (a ++ b) = true := by
  unfold okL at *; rw [List.all_append, ha, hb]; rfl
theorem okL_cons {c : UInt8} {b : Txt} (ha : okR c.toNat = true) (hb : okL b = true) : okL (c :: b) = true := by
  unfold okL at *; rw [List.all_cons, ha, hb]; rfl
theorem okL_esc : ∀ t : Txt, okL t = true → okL (escL t) = true
  | [], _ => rfl
  | c :: t, h => by
    unfold okL at h
    rw [List.all_cons, Bool.and_eq_true] at h
    have := okL_esc t h.2
    rw [escL]
    split
    · exact okL_cons (by decide) (okL_cons h.1 this)
    · exact okL_cons h.1 this
theorem NameP.ok {p : Txt} (h : NameP p) : okL p = true := (okL_iff p).2 fun b hb => (h.calm b hb).2.2.2.2
theorem joined_ok : ∀ l : List Txt, (∀ p ∈ l, NameP p) → okL (joined l) = true
  | [], _ => rfl
  | p :: l, h => by
    rw [joined_cons]
    exact okL_cons (by decide) (okL_app (h p (by simp)).ok (joined_ok l fun q hq => h q (List.mem_cons_of_mem _ hq)))
theorem opt_ok {s : Txt} {l : List Txt} (hs : okL s = true) (h : ∀ p ∈ l, NameP p) : okL (optT s l) = true := by
  unfold optT
  split
  · rfl
  · exact okL_cons (by decide) (okL_app hs (joined_ok l h))
theorem plain_of {s : Txt} (h1 : okL s = true) (h2 : emptyL s = false) (h3 : oddL s = false) : PlainLine s := by
  refine ⟨fun h => ?_, h1, h2, h3⟩
  have := (okL_iff s).1 h1 10 h
  exact absurd this (by decide)
theorem empty_head {b : UInt8} {l : Txt} (h : b ≠ 32) (h2 : b ≠ 35) : emptyL (b :: l) = false := by
  unfold emptyL
  rw [trimL_head h]
  exact beq_eq_false_iff_ne.2 h2
theorem empty_two {s : Txt} (h : emptyL s = false) : emptyL (32 :: 32 :: s) = false := by
  unfold emptyL at *
  rw [trimL_cons, trimL_cons]; exact h
theorem last_calm {p : Txt} (h : NameP p) : ∃ l b, p = l ++ [b] ∧ Calm b := by
  rcases List.eq_nil_or_concat p with rfl | ⟨l, b, rfl⟩
  · exact absurd rfl h.ne
  · exact ⟨l, b, List.concat_eq_append, h.calm b (by simp)⟩
theorem joined_last : ∀ (l : List Txt) (w : Txt), (∃ a b, w = a ++ [b] ∧ Calm b) → (∀ p ∈ l, NameP p) → ∃ a b, w ++ joined l = a ++ [b] ∧ Calm b
  | [], w, hw, _ => by simpa [joined] using hw
  | p :: l, w, hw, h => by
    obtain ⟨a, b, e, hb⟩ := last_calm (h p (by simp))
    have := joined_last l (w ++ 32 :: p) ⟨w ++ 32 :: a, b, by rw [e]; simp, hb⟩ (fun q hq => h q (List.mem_cons_of_mem _ hq))
    rw [joined_cons]
    simpa using this
theorem opt_last {s : Txt} (l : List Txt) (w : Txt) (hw : ∃ a b, w = a ++ [b] ∧ Calm b) (h : ∀ p ∈ l, NameP p) : ∃ a b, w ++ optT s l = a ++ [b] ∧ Calm b := by
  unfold optT
  split
  · simpa using hw
  · rename_i hne
    obtain ⟨p, l', rfl⟩ := List.exists_cons_of_ne_nil hne
    obtain ⟨a, b, e, hb⟩ := last_calm (h p (by simp))
    have := joined_last l' (w ++ 32 :: (s ++ 32 :: p)) ⟨w ++ 32 :: (s ++ 32 :: a), b, by rw [e]; simp, hb⟩ (fun q hq => h q (List.mem_cons_of_mem _ hq))
    rw [joined_cons]
    simpa using this
theorem names_of {l : List Txt} (h : ∀ p ∈ l, CleanN p) : ∀ p ∈ l, NameP p := fun p hp => (h p hp).toNameP
theorem bLine_last (i : Nat) (x : EdgeO) (h : RightO x) : ∃ a b, bLine i x = a ++ [b] ∧ Calm b := by
  obtain ⟨a0, b0, e0, hb0⟩ := last_calm (own_name i)
  have h1 := joined_last x.ins (kBuild ++ (joined x.outs ++ (58 :: 32 :: ownN i))) ⟨kBuild ++ (joined x.outs ++ (58 :: 32 :: a0)), b0, by rw [e0]; simp, hb0⟩ (names_of h.n1)
  have h2 := opt_last (s := [124]) x.imp _ h1 (names_of h.n2)
  have h3 := opt_last (s := [124, 124]) x.ord _ h2 (names_of h.n3)
  unfold bLine
  simpa using h3
theorem hLine_last (i : Nat) : ∃ a b, hLine i = a ++ [b] ∧ Calm b :=
  joined_last [ownN i] kRule ⟨[114, 117, 108], 101, rfl, Calm.of (by decide)⟩ (fun p hp => by rw [List.mem_singleton.1 hp]; exact own_name i)
theorem dLine_last (ds : List Txt) (h : ∀ p ∈ ds, NameP p) : ∃ a b, kDefault ++ joined ds = a ++ [b] ∧ Calm b :=
  joined_last ds kDefault ⟨[100, 101, 102, 97, 117, 108], 116, rfl, Calm.of (by decide)⟩ h
theorem h_plain (i : Nat) : PlainLine (hLine i) := by
  obtain ⟨a, b, e, hb⟩ := hLine_last i
  refine plain_of (okL_app (by decide) (joined_ok _ fun p hp => by rw [List.mem_singleton.1 hp]; exact own_name i)) (empty_head (b := 114) (by decide) (by decide)) ?_
  rw [e]; exact odd_last_ne hb.1
theorem b_plain (i : Nat) (x : EdgeO) (h : RightO x) : PlainLine (bLine i x) := by
  obtain ⟨a, b, e, hb⟩ := bLine_last i x h
  refine plain_of ?_ (empty_head (b := 98) (by decide) (by decide)) ?_
  · unfold bLine
    exact okL_app (by decide) (okL_app (joined_ok _ (names_of h.n0)) (okL_cons (by decide) (okL_cons (by decide) (okL_app (own_name i).ok (okL_app (joined_ok _ (names_of h.n1)) (okL_app (opt_ok (by decide) (names_of h.n2)) (opt_ok (by decide) (names_of h.n3))))))))
  · rw [e]; exact odd_last_ne hb.1
theorem d_plain (ds : List Txt) (h : ∀ p ∈ ds, NameP p) : PlainLine (kDefault ++ joined ds) := by
  obtain ⟨a, b, e, hb⟩ := dLine_last ds h
  refine plain_of (okL_app (by decide) (joined_ok _ h)) (empty_head (b := 100) (by decide) (by decide)) ?_
  rw [e]; exact odd_last_ne hb.1
theorem set_plain (K t : Txt) (b : UInt8) (l : Txt) (hK : K = b :: l) (hb : b ≠ 32) (hb2 : b ≠ 35) (hok : okL K = true) (ht : okL t = true) : PlainLine (32 :: 32 :: (K ++ ([32, 61, 32] ++ escL t))) := by
  refine plain_of (okL_cons (by decide) (okL_cons (by decide) (okL_app hok (okL_app (by decide) (okL_esc t ht))))) (empty_two ?_) ?_
  · rw [hK]; exact empty_head hb hb2
  · have := odd_esc (32 :: 32 :: (K ++ [32, 61, 32])) (by
      rw [show (32 : UInt8) :: 32 :: (K ++ [32, 61, 32]) = (32 :: 32 :: (K ++ [32, 61])) ++ [32] by simp]
      exact odd_last_ne (by decide)) _ t rfl
    simpa using this
end Go.Proofs.YtbjekebkgidhaaaGreatDoor.Mf
end
section
set_option linter.unusedSimpArgs false
set_option linter.unusedVariables false
namespace Go.Proofs.YtbjekebkgidhaaaGreatDoor.Mf
open Go.RowKit Go.Lib Go.Shelf Go.Proofs.YtbjekebkgidhaaaGreatDoor.U Go.Proofs.YtbjekebkgidhaaaGreatDoor.Sc Go.Proofs.YtbjekebkgidhaaaGreatDoor.P
open Go.Proofs.YtbjekebkgidhaaaGreatDoor.Ln hiding Txt
theorem cut_none {c : UInt8} {l : Txt} (h : c ∉ l) : cutL c l = (l, [], false) := Sc.cutL_none c l h
theorem cut_at {c : UInt8} : ∀ (a b : Txt), c ∉ a → cutL c (a ++ c :: b) = (a, b, true)
  | [], b, _ => by simp [cutL]
  | x :: a, b, h => by
    have hx : x ≠ c := fun e => h (by simp [e])
    have := cut_at a b (fun hh => h (List.mem_cons_of_mem _ hh))
    rw [List.cons_append, cutL, if_neg hx, this]
theorem exp_plain {line : Nat} {ms : List MapL} {t : Txt} (h : (36 : UInt8) ∉ t) (hl : t.length ≤ 16384) : expE line ms t = .ok t := by
  have : expF ms t = (t, 0) := by
    unfold expF expandL
    rw [expGo, cut_none h, if_pos rfl]
    show finL (some ([] ++ t, false)) = _
    rw [List.nil_append, finL, if_neg (by simp; omega)]
  unfold expE
  rw [this, if_pos rfl]
theorem exp_esc {line : Nat} {ms : List MapL} {t : Txt} (hl : t.length ≤ 16384) : expE line ms (escL t) = .ok t := by
  have : expF ms (escL t) = (t, 0) := by
    unfold expF
    rw [expandL_E, E_esc _ t [] (by simpa using hl)]
    show finL (some ([] ++ t, false)) = _
    rw [List.nil_append, finL, if_neg (by simp; omega)]
  unfold expE
  rw [this, if_pos rfl]
theorem NameP.no36 {p : Txt} (h : NameP p) : (36 : UInt8) ∉ p := fun hh => (h.calm 36 hh).1 rfl
theorem path_clean {line : Nat} {p : Txt} (h : CleanN p) : pathE line none0 p = .ok p := by
  obtain ⟨s1, s2, s3⟩ := h.toNameP.not_sign
  have e1 : isSign p = false := by
    unfold isSign
    rw [beq_eq_false_iff_ne.2 s1, beq_eq_false_iff_ne.2 s2, beq_eq_false_iff_ne.2 s3]; rfl
  unfold pathE
  rw [e1, if_neg (by decide), exp_plain h.toNameP.no36 (by have := h.len; omega)]
  show cleanE line p = _
  unfold cleanE
  rw [h.clean, if_pos rfl]
theorem paths_clean {line : Nat} : ∀ (l acc : List Txt), (∀ p ∈ l, CleanN p) → pathsE line none0 acc l = .ok (acc ++ l)
  | [], acc, _ => by rw [pathsE, List.append_nil]
  | p :: l, acc, h => by
    rw [pathsE, path_clean (h p (by simp))]
    show pathsE line none0 (acc ++ [p]) l = _
    rw [paths_clean l _ (fun q hq => h q (List.mem_cons_of_mem _ hq)), List.append_assoc]; rfl
theorem ahead_at {s : Txt} : ∀ (a b : List Txt), s ∉ a → ahead s (a ++ s :: b) = a ∧ behind s (a ++ s :: b) = b
  | [], b, _ => by simp [ahead, behind, List.takeWhile_cons, List.dropWhile_cons]
  | x :: a, b, h => by
    have hx : (x == s) = false := beq_eq_false_iff_ne.2 fun e => h (by simp [e])
    obtain ⟨h1, h2⟩ := ahead_at a b (fun hh => h (List.mem_cons_of_mem _ hh))
    unfold ahead behind at *
    simp only [List.cons_append, List.takeWhile_cons, List.dropWhile_cons, hx, Bool.not_false, if_true]
    exact ⟨by rw [h1], h2⟩
theorem ahead_none {s : Txt} : ∀ (a : List Txt), s ∉ a → ahead s a = a ∧ behind s a = []
  | [], _ => ⟨rfl, rfl⟩
  | x :: a, h => by
    have hx : (x == s) = false := beq_eq_false_iff_ne.2 fun e => h (by simp [e])
    obtain ⟨h1, h2⟩ := ahead_none a (fun hh => h (List.mem_cons_of_mem _ hh))
    unfold ahead behind at *
    simp only [List.takeWhile_cons, List.dropWhile_cons, hx, Bool.not_false, if_true]
    exact ⟨by rw [h1], h2⟩
theorem ahead_opt {s : Txt} (a l : List Txt) (ha : s ∉ a) : ahead s (a ++ optW s l) = a ∧ behind s (a ++ optW s l) = l := by
  unfold optW
  split
  · rename_i h; rw [List.append_nil, h]; exact ahead_none a ha
  · exact ahead_at a l ha
theorem not_mem_names {s : Txt} {l : List Txt} (h : ∀ p ∈ l, NameP p) (hs : s = [58] ∨ s = [124] ∨ s = [124, 124]) : s ∉ l := by
  intro hm
  obtain ⟨a, b, c⟩ := (h s hm).not_sign
  rcases hs with e | e | e
  · exact a e
  · exact b e
  · exact c e
theorem not_mem_opt {s t : Txt} {l : List Txt} (h : ∀ p ∈ l, NameP p) (hs : s = [58] ∨ s = [124] ∨ s = [124, 124]) (ht : s ≠ t) : s ∉ optW t l := by
  unfold optW
  split
  · simp
  · intro hm
    rcases List.mem_cons.1 hm with e | e
    · exact ht e
    · exact not_mem_names h hs e
theorem rule_new {R : List RuleS} {i : Nat} (h : ∀ r ∈ R, ∃ q, q < i ∧ r.name = ownN q) : ruleAt R (ownN i) = none := by
  unfold ruleAt
  rw [List.findIdx?_eq_none_iff]
  intro r hr
  obtain ⟨q, hq, e⟩ := h r hr
  rw [beq_eq_false_iff_ne, e]
  intro h2
  have := ownN_inj h2
  omega
theorem rule_found {R : List RuleS} {i : Nat} (h : ∀ r ∈ R, ∃ q, q < i ∧ r.name = ownN q) {r : RuleS} (hr : r.name = ownN i) : ruleAt (R ++ [r]) (ownN i) = some R.length := by
  have := rule_new h
  unfold ruleAt at *
  rw [List.findIdx?_append, this]
  have e : (r.name == ownN i) = true := by rw [beq_iff_eq]; exact hr
  simp [List.findIdx?_cons, e]
theorem own_nameL (i : Nat) : nameL (ownN i) = true := by
  unfold nameL
  rw [Bool.and_eq_true]
  refine ⟨rfl, List.all_eq_true.2 fun b hb => ?_⟩
  rcases List.mem_cons.1 hb with rfl | hb
  · decide
  · obtain ⟨h1, h2⟩ := digits_all i b hb
    unfold nameB nameR shortR
    simp [h1, h2]
theorem close_ok {R : List RuleS} {E : List EdgeS} {ds : List Txt} {inn : Nat} (h : inn = 0 ∨ inn = 2) : closeE ⟨none0, R, E, ds, inn⟩ = .ok ⟨none0, R, E, ds, 0⟩ := by
  unfold closeE
  have hn : ¬ inn = 1 := by omega
  rw [if_neg (show ¬ (⟨none0, R, E, ds, inn⟩ : St).inner = 1 from hn)]
theorem takes_h {R : List RuleS} {E : List EdgeS} {inn i n : Nat} (h : inn = 0 ∨ inn = 2) (hR : ∀ r ∈ R, ∃ q, q < i ∧ r.name = ownN q) : takesE ⟨none0, R, E, [], inn⟩ (mkLine (hLine i) n) = .ok ⟨none0, R ++ [⟨ownN i, none0, n⟩], E, [], 1⟩ := by
  obtain ⟨a, b, e, hb⟩ := hLine_last i
  have et : trimmedL (hLine i) = hLine i := trimmed_id (b := 114) (l := [117, 108, 101] ++ joined [ownN i]) rfl (by decide) e hb.2.2.2.1
  have em : mkLine (hLine i) n = ⟨false, hLine i, n⟩ := by unfold mkLine; rw [et]; rfl
  rw [em, takesE, if_neg (fun h => Bool.noConfusion h)]
  dsimp only
  rw [leftE, close_ok h]
  dsimp only
  rw [words_h]
  dsimp only
  rw [if_pos rfl, ruleE]
  dsimp only
  rw [if_pos ⟨own_nameL i, rule_new hR⟩]
theorem onLast_snoc {α : Type} (f : α → α) : ∀ (l : List α) (x : α), onLast f (l ++ [x]) = l ++ [f x]
  | [], x => rfl
  | [y], x => rfl
  | y :: z :: l, x => by
    have := onLast_snoc f (z :: l) x
    simp only [List.cons_append] at this
    simp only [List.cons_append, onLast, this]
theorem esc_head {t : Txt} : (escL t).head? ≠ some 32 := by
  cases t with
  | nil => simp [escL]
  | cons c t =>
    rw [escL]
    split
    · simp
    · rename_i h
      intro e
      have : c = 32 := by simpa using e
      subst this
      exact h (by decide)
theorem left_esc (t : Txt) : Lib.trimLeftB (32 :: escL t) 32 = escL t := by
  show trimL 32 (32 :: escL t) = _
  rw [trimL_cons]
  cases h : escL t with
  | nil => rfl
  | cons c r =>
    refine trimL_head ?_
    rintro rfl
    exact esc_head (t := t) (by rw [h]; rfl)
theorem takes_set {R : List RuleS} {r : RuleS} {E : List EdgeS} {n : Nat} (K t : Txt) (hK : K = kCommand ∨ K = kDepfile) (ht : t ≠ []) :
    takesE ⟨none0, R ++ [r], E, [], 1⟩ (mkLine (32 :: 32 :: (K ++ ([32, 61, 32] ++ escL t))) n) = .ok ⟨none0, R ++ [{ r with texts := upd r.texts K (escL t) }], E, [], 1⟩ := by
  have hc : (61 : UInt8) ∉ K ++ [32] ∧ trimB (K ++ [32]) 32 = K ∧ nameL K = true ∧ (∃ b l, K ++ [32, 61, 32] = b :: l ∧ b ≠ 32) := by
    rcases hK with rfl | rfl
    · exact ⟨by decide, rfl, by decide, 99, _, rfl, by decide⟩
    · exact ⟨by decide, rfl, by decide, 100, _, rfl, by decide⟩
  obtain ⟨h1, h2, h3, b, l, h4, h5⟩ := hc
  have et : trimmedL (32 :: 32 :: (K ++ ([32, 61, 32] ++ escL t))) = K ++ ([32, 61, 32] ++ escL t) := by
    have := trimmed_set (pre := K ++ [32, 61, 32]) (t := t) h4 h5 (by rw [show K ++ [32, 61, 32] = (K ++ [32, 61]) ++ [32] by simp]; exact odd_last_ne (by decide)) ht
    simpa using this
  have em : mkLine (32 :: 32 :: (K ++ ([32, 61, 32] ++ escL t))) n = ⟨true, K ++ ([32, 61, 32] ++ escL t), n⟩ := by unfold mkLine; rw [et]; rfl
  have ec : cutL 61 (K ++ ([32, 61, 32] ++ escL t)) = (K ++ [32], 32 :: escL t, true) := by
    have := cut_at (c := 61) (K ++ [32]) (32 :: escL t) h1
    simpa using this
  have es : setE n (K ++ ([32, 61, 32] ++ escL t)) = .ok (K, escL t) := by
    unfold setE
    rw [ec]
    dsimp only
    rw [h2, if_pos ⟨rfl, h3⟩, left_esc]
  rw [em, takesE, if_pos rfl]
  dsimp only
  unfold innerE
  rw [if_neg (show ¬ ((1 : Nat) = 0) by decide), es]
  dsimp only
  rw [if_pos rfl, if_pos (by rcases hK with e | e; exact .inl e; exact .inr (.inl e)), onLast_snoc]
theorem takes_b {R : List RuleS} {r : RuleS} {E : List EdgeS} {i n : Nat} {x : EdgeO} (h : RightO x) (hR : ∀ r ∈ R, ∃ q, q < i ∧ r.name = ownN q) (hr : r.name = ownN i) (hc : (r.texts kCommand).getD [] ≠ []) (hE : E.length < 200) :
    takesE ⟨none0, R ++ [r], E, [], 1⟩ (mkLine (bLine i x) n) = .ok ⟨none0, R ++ [r], E ++ [⟨x.outs, x.ins, x.imp, x.ord, R.length, none0, n⟩], [], 2⟩ := by
  obtain ⟨a, b, e, hb⟩ := bLine_last i x h
  have et : trimmedL (bLine i x) = bLine i x := trimmed_id (b := 98) (l := [117, 105, 108, 100] ++ (joined x.outs ++ (58 :: 32 :: (ownN i ++ (joined x.ins ++ (optT [124] x.imp ++ optT [124, 124] x.ord)))))) rfl (by decide) e hb.2.2.2.1
  have em : mkLine (bLine i x) n = ⟨false, bLine i x, n⟩ := by unfold mkLine; rw [et]; rfl
  have ecl : closeE ⟨none0, R ++ [r], E, [], 1⟩ = .ok ⟨none0, R ++ [r], E, [], 0⟩ := by
    unfold closeE
    rw [if_pos rfl]
    dsimp only
    rw [List.getLast?_append]
    dsimp only [List.getLast?_singleton, Option.or]
    rw [if_neg hc]
  rw [em, takesE, if_neg (fun h => Bool.noConfusion h)]
  dsimp only
  rw [leftE, ecl]
  dsimp only
  rw [words_b i x h]
  dsimp only
  rw [if_neg (by decide), if_pos rfl]
  have n1 := names_of h.n1
  have n2 := names_of h.n2
  have n3 := names_of h.n3
  obtain ⟨o, os, ho⟩ := List.exists_cons_of_ne_nil h.outs
  obtain ⟨a1, a2⟩ := ahead_at (s := [58]) x.outs (ownN i :: (x.ins ++ (optW [124] x.imp ++ optW [124, 124] x.ord))) (not_mem_names (names_of h.n0) (.inl rfl))
  have hno : [124, 124] ∉ x.ins ++ optW [124] x.imp := by
    intro hm
    rcases List.mem_append.1 hm with hm | hm
    · exact not_mem_names n1 (.inr (.inr rfl)) hm
    · exact not_mem_opt n2 (.inr (.inr rfl)) (by decide) hm
  obtain ⟨b1, b2⟩ := ahead_opt (s := [124, 124]) (x.ins ++ optW [124] x.imp) x.ord hno
  rw [List.append_assoc] at b1 b2
  obtain ⟨c1, c2⟩ := ahead_opt (s := [124]) x.ins x.imp (not_mem_names n1 (.inr (.inl rfl)))
  unfold buildE
  rw [if_neg (show ¬ 200 ≤ E.length by omega)]
  dsimp only
  rw [List.tail_cons, a1, a2, ho]
  dsimp only
  rw [← ho, rule_found hR hr]
  dsimp only
  rw [paths_clean x.outs [] h.n0, b1, b2, c1, c2]
  dsimp only [List.nil_append]
  rw [paths_clean x.ins [] h.n1]
  dsimp only [List.nil_append]
  rw [paths_clean x.imp [] h.n2]
  dsimp only [List.nil_append]
  rw [paths_clean x.ord [] h.n3]
  rfl
theorem takes_d {R : List RuleS} {E : List EdgeS} {inn n : Nat} {ds : List Txt} (hi : inn = 0 ∨ inn = 2) (hne : ds ≠ []) (h : ∀ p ∈ ds, CleanN p) : takesE ⟨none0, R, E, [], inn⟩ (mkLine (kDefault ++ joined ds) n) = .ok ⟨none0, R, E, ds, 0⟩ := by
  obtain ⟨a, b, e, hb⟩ := dLine_last ds (names_of h)
  have et : trimmedL (kDefault ++ joined ds) = kDefault ++ joined ds := trimmed_id (b := 100) (l := [101, 102, 97, 117, 108, 116] ++ joined ds) rfl (by decide) e hb.2.2.2.1
  have em : mkLine (kDefault ++ joined ds) n = ⟨false, kDefault ++ joined ds, n⟩ := by unfold mkLine; rw [et]; rfl
  rw [em, takesE, if_neg (fun h => Bool.noConfusion h)]
  dsimp only
  rw [leftE, close_ok hi]
  dsimp only
  rw [words_d ds (names_of h)]
  dsimp only
  rw [if_neg (by decide), if_neg (by decide), if_pos rfl]
  obtain ⟨o, os, ho⟩ := List.exists_cons_of_ne_nil hne
  unfold targetsE
  rw [List.tail_cons, ho]
  dsimp only
  rw [← ho, paths_clean ds [] h]
  rfl
end Go.Proofs.YtbjekebkgidhaaaGreatDoor.Mf
end
section
set_option linter.unusedSimpArgs false
set_option linter.unusedVariables false
namespace Go.Proofs.YtbjekebkgidhaaaGreatDoor.Mf
open Go.RowKit Go.Lib Go.Shelf Go.Proofs.YtbjekebkgidhaaaGreatDoor.U Go.Proofs.YtbjekebkgidhaaaGreatDoor.Sc Go.Proofs.YtbjekebkgidhaaaGreatDoor.P
open Go.Proofs.YtbjekebkgidhaaaGreatDoor.Ln hiding Txt
def textsOf (x : EdgeO) : MapL := if x.depfile = [] then upd none0 kCommand (escL x.command) else upd (upd none0 kCommand (escL x.command)) kDepfile (escL x.depfile)
def Fin (R : List RuleS) (e : EdgeS) (x : EdgeO) : Prop := e.outs = x.outs ∧ e.ins = x.ins ∧ e.imp = x.imp ∧ e.ord = x.ord ∧ e.own = none0 ∧ ∃ r, R[e.rule]? = some r ∧ r.texts = textsOf x
theorem Fin.more {R R2 : List RuleS} {e : EdgeS} {x : EdgeO} (h : Fin R e x) : Fin (R ++ R2) e x := by
  obtain ⟨a, b, c, d, o, r, hr, ht⟩ := h
  exact ⟨a, b, c, d, o, r, by rw [List.getElem?_append_left (List.getElem?_eq_some_iff.1 hr).1]; exact hr, ht⟩
theorem upd_get (m : MapL) (k t : Txt) : upd m k t k = some t := by simp [upd]
theorem upd_other (m : MapL) {k j : Txt} (t : Txt) (h : j ≠ k) : upd m k t j = m j := by simp [upd, h]
theorem esc_ne {t : Txt} (h : t ≠ []) : escL t ≠ [] := by
  cases t with
  | nil => exact absurd rfl h
  | cons c t => rw [escL]; split <;> simp
theorem texts_cmd (x : EdgeO) : textsOf x kCommand = some (escL x.command) := by
  unfold textsOf
  split
  · exact upd_get _ _ _
  · rw [upd_other _ _ (by decide)]; exact upd_get _ _ _
theorem texts_dep (x : EdgeO) : (textsOf x kDepfile).getD [] = escL x.depfile := by
  unfold textsOf
  split
  · rename_i h; rw [upd_other _ _ (by decide), h]; rfl
  · rw [upd_get]; rfl
theorem lines_edge {R : List RuleS} {E : List EdgeS} {inn i L : Nat} {x : EdgeO} (h : RightO x) (hi : inn = 0 ∨ inn = 2) (hR : ∀ r ∈ R, ∃ q, q < i ∧ r.name = ownN q) (hE : E.length < 200) :
    ∃ r e, linesE ⟨none0, R, E, [], inn⟩ (numbered L (eLines i x)) = .ok ⟨none0, R ++ [r], E ++ [e], [], 2⟩ ∧ r.name = ownN i ∧ Fin (R ++ [r]) e x := by
  have hc1 : cLine x = 32 :: 32 :: (kCommand ++ ([32, 61, 32] ++ escL x.command)) := rfl
  unfold eLines dLines
  by_cases hd : x.depfile = []
  · rw [if_pos hd]
    refine ⟨⟨ownN i, upd none0 kCommand (escL x.command), L + 1⟩, ⟨x.outs, x.ins, x.imp, x.ord, R.length, none0, L + 1 + 1 + 1⟩, ?_, rfl, rfl, rfl, rfl, rfl, rfl, ⟨ownN i, upd none0 kCommand (escL x.command), L + 1⟩, ?_, ?_⟩
    · simp only [List.nil_append, numbered, linesE]
      rw [takes_h hi hR]
      dsimp only
      rw [hc1, takes_set kCommand x.command (.inl rfl) h.cne]
      dsimp only
      rw [takes_b h hR rfl (by
        show ((upd none0 kCommand (escL x.command)) kCommand).getD [] ≠ []
        rw [upd_get]; exact esc_ne h.cne) hE]
    · rw [List.getElem?_append_right (Nat.le_refl _), Nat.sub_self]; rfl
    · show upd none0 kCommand (escL x.command) = textsOf x
      rw [textsOf, if_pos hd]
  · rw [if_neg hd]
    refine ⟨⟨ownN i, upd (upd none0 kCommand (escL x.command)) kDepfile (escL x.depfile), L + 1⟩, ⟨x.outs, x.ins, x.imp, x.ord, R.length, none0, L + 1 + 1 + 1 + 1⟩, ?_, rfl, rfl, rfl, rfl, rfl, rfl, ⟨ownN i, upd (upd none0 kCommand (escL x.command)) kDepfile (escL x.depfile), L + 1⟩, ?_, ?_⟩
    · simp only [List.nil_append, List.cons_append, numbered, linesE]
      rw [takes_h hi hR]
      dsimp only
      rw [hc1, takes_set kCommand x.command (.inl rfl) h.cne]
      dsimp only
      have := takes_set (R := R) (r := ⟨ownN i, upd none0 kCommand (escL x.command), L + 1⟩) (E := E) (n := L + 1 + 1 + 1) kDepfile x.depfile (.inr rfl) hd
      simp only [List.cons_append, List.nil_append] at this
      rw [this]
      dsimp only
      rw [takes_b h hR rfl (by
        show ((upd (upd none0 kCommand (escL x.command)) kDepfile (escL x.depfile)) kCommand).getD [] ≠ []
        rw [upd_other _ _ (by decide), upd_get]; exact esc_ne h.cne) hE]
    · rw [List.getElem?_append_right (Nat.le_refl _), Nat.sub_self]; rfl
    · show upd (upd none0 kCommand (escL x.command)) kDepfile (escL x.depfile) = textsOf x
      rw [textsOf, if_neg hd]
inductive All2 {α β : Type} (P : α → β → Prop) : List α → List β → Prop
  | nil : All2 P [] []
  | cons {a : α} {b : β} {l : List α} {m : List β} : P a b → All2 P l m → All2 P (a :: l) (b :: m)
theorem All2.imp {α β : Type} {P Q : α → β → Prop} (h : ∀ a b, P a b → Q a b) {l : List α} {m : List β} (k : All2 P l m) : All2 Q l m := by
  induction k with
  | nil => exact .nil
  | cons a _ ih => exact .cons (h _ _ a) ih
theorem All2.snoc {α β : Type} {P : α → β → Prop} {l : List α} {m : List β} (k : All2 P l m) {a : α} {b : β} (h : P a b) : All2 P (l ++ [a]) (m ++ [b]) := by
  induction k with
  | nil => exact .cons h .nil
  | cons a _ ih => exact .cons a ih
theorem lines_man : ∀ (xs done : List EdgeO) (R : List RuleS) (E : List EdgeS) (inn i L : Nat), (∀ x ∈ xs, RightO x) → inn = 0 ∨ inn = 2 → R.length = i → (∀ r ∈ R, ∃ q, q < i ∧ r.name = ownN q) → All2 (Fin R) E done → E.length + xs.length ≤ 200 → E.length = done.length →
    ∃ R' E' inn', linesE ⟨none0, R, E, [], inn⟩ (numbered L (manLines i xs)) = .ok ⟨none0, R', E', [], inn'⟩ ∧ (inn' = 0 ∨ inn' = 2) ∧ All2 (Fin R') E' (done ++ xs)
  | [], done, R, E, inn, i, L, _, hi, _, _, hF, _, _ => ⟨R, E, inn, rfl, hi, by rw [List.append_nil]; exact hF⟩
  | x :: xs, done, R, E, inn, i, L, hx, hi, hl, hR, hF, hn, hd => by
    rw [List.length_cons] at hn
    obtain ⟨r, e, h1, h2, h3⟩ := lines_edge (E := E) (L := L) (hx x (by simp)) hi hR (by omega)
    have hR' : ∀ r' ∈ R ++ [r], ∃ q, q < i + 1 ∧ r'.name = ownN q := by
      intro r' hr'
      rcases List.mem_append.1 hr' with hr' | hr'
      · obtain ⟨q, hq, e⟩ := hR r' hr'; exact ⟨q, by omega, e⟩
      · rw [List.mem_singleton.1 hr']; exact ⟨i, by omega, h2⟩
    obtain ⟨R', E', inn', k1, k2, k3⟩ := lines_man xs (done ++ [x]) (R ++ [r]) (E ++ [e]) 2 (i + 1) (L + (eLines i x).length) (fun y hy => hx y (List.mem_cons_of_mem _ hy)) (.inr rfl) (by rw [List.length_append, hl]; rfl) hR' ((hF.imp fun _ _ h => h.more).snoc h3) (by rw [List.length_append, List.length_singleton]; omega) (by rw [List.length_append, List.length_append, hd]; rfl)
    refine ⟨R', E', inn', ?_, k2, by simpa using k3⟩
    rw [manLines, numbered_append, linesE_append, h1]
    exact k1
theorem ends_fin {R : List RuleS} {e : EdgeS} {x : EdgeO} (h : Fin R e x) (hx : RightO x) (hl : x.command.length ≤ 16384 ∧ x.depfile.length ≤ 16384) : endsE none0 R e = .ok x := by
  obtain ⟨a, b, c, d, o, r, hr, ht⟩ := h
  rw [endsE_T, hr]
  show endsT none0 e r.texts = _
  rw [ht]
  unfold endsT
  rw [texts_cmd, texts_dep]
  show (match expE e.line _ (escL x.command) with
    | .error x => Except.error x
    | .ok c => if c = [] then .error (e.line, 10) else _) = _
  rw [exp_esc hl.1]
  dsimp only
  rw [if_neg hx.cne, exp_esc hl.2]
  dsimp only
  by_cases hd : x.depfile = []
  · rw [if_pos hd, a, b, c, d]
    rw [← hd]
  · rw [if_neg hd]
    have hcl := (hx.dep.resolve_left hd).clean
    unfold cleanE
    rw [hcl, if_pos rfl, a, b, c, d]
theorem endsAll_fin {R : List RuleS} : ∀ {E : List EdgeS} {xs : List EdgeO}, All2 (Fin R) E xs → (∀ x ∈ xs, RightO x) → (∀ x ∈ xs, x.command.length ≤ 16384 ∧ x.depfile.length ≤ 16384) → ∀ acc, endsAll none0 R E acc = .ok (acc ++ xs) := by
  intro E xs h
  induction h with
  | nil => intro _ _ acc; rw [endsAll, List.append_nil]
  | cons a _ ih =>
    intro hx hl acc
    rw [endsAll, ends_fin a (hx _ (by simp)) (hl _ (by simp))]
    dsimp only
    rw [ih (fun y hy => hx y (List.mem_cons_of_mem _ hy)) (fun y hy => hl y (List.mem_cons_of_mem _ hy)), List.append_assoc]; rfl
theorem plain_edge (i : Nat) (x : EdgeO) (h : RightO x) : ∀ s ∈ eLines i x, PlainLine s := by
  intro s hs
  unfold eLines dLines at hs
  have hc : PlainLine (cLine x) := set_plain kCommand x.command 99 _ rfl (by decide) (by decide) (by decide) h.cok
  rcases List.mem_cons.1 hs with rfl | hs
  · exact h_plain i
  rcases List.mem_cons.1 hs with rfl | hs
  · exact hc
  rcases List.mem_append.1 hs with hs | hs
  · split at hs
    · cases hs
    · rename_i hd
      rw [List.mem_singleton.1 hs]
      exact set_plain kDepfile x.depfile 100 _ rfl (by decide) (by decide) (by decide) (h.dep.resolve_left hd).toNameP.ok
  · rw [List.mem_singleton.1 hs]; exact b_plain i x h
theorem plain_man : ∀ (xs : List EdgeO) (i : Nat), (∀ x ∈ xs, RightO x) → ∀ s ∈ manLines i xs, PlainLine s
  | [], i, _, s, hs => by cases hs
  | x :: xs, i, h, s, hs => by
    rw [manLines] at hs
    rcases List.mem_append.1 hs with hs | hs
    · exact plain_edge i x (h x (by simp)) s hs
    · exact plain_man xs (i + 1) (fun y hy => h y (List.mem_cons_of_mem _ hy)) s hs
def printT (xs : List EdgeO) (ds : List Txt) : Txt := textOf (manLines 0 xs ++ defLines ds)
theorem textOf_mem : ∀ (ls : List Txt) (s : Txt), s ∈ ls → s.length ≤ (textOf ls).length
  | [], s, h => by cases h
  | t :: ls, s, h => by
    rw [textOf, List.length_append, List.length_cons]
    rcases List.mem_cons.1 h with rfl | h
    · omega
    · have := textOf_mem ls s h; omega
theorem esc_le (t : Txt) : t.length ≤ (escL t).length := by rw [escL_len]; omega
theorem man_mem : ∀ (xs : List EdgeO) (i : Nat) (x : EdgeO), x ∈ xs → ∃ j, ∀ s ∈ eLines j x, s ∈ manLines i xs
  | [], i, x, h => by cases h
  | y :: xs, i, x, h => by
    rw [manLines]
    rcases List.mem_cons.1 h with rfl | h
    · exact ⟨i, fun s hs => List.mem_append.2 (.inl hs)⟩
    · obtain ⟨j, hj⟩ := man_mem xs (i + 1) x h
      exact ⟨j, fun s hs => List.mem_append.2 (.inr (hj s hs))⟩
theorem parse_print (xs : List EdgeO) (ds : List Txt) (hx : ∀ x ∈ xs, RightO x) (hd : ∀ p ∈ ds, CleanN p) (hn : xs.length ≤ 200) (hl : (printT xs ds).length ≤ 16384) : parseL (printT xs ds) = (xs, ds, 0, 0) := by
  have hlen : ∀ x ∈ xs, x.command.length ≤ 16384 ∧ x.depfile.length ≤ 16384 := by
    intro x hxm
    obtain ⟨j, hj⟩ := man_mem xs 0 x hxm
    have h1 : (cLine x).length ≤ 16384 := Nat.le_trans (textOf_mem _ _ (List.mem_append.2 (.inl (hj _ (by simp [eLines]))))) hl
    have h2 : x.command.length ≤ (cLine x).length := by
      have := esc_le x.command
      simp [cLine]; omega
    refine ⟨Nat.le_trans h2 h1, ?_⟩
    by_cases hdp : x.depfile = []
    · rw [hdp]; exact Nat.zero_le _
    · have := ((hx x hxm).dep.resolve_left hdp).len
      omega
  have hpl : ∀ s ∈ manLines 0 xs ++ defLines ds, PlainLine s := by
    intro s hs
    rcases List.mem_append.1 hs with hs | hs
    · exact plain_man xs 0 hx s hs
    · unfold defLines at hs
      split at hs
      · cases hs
      · rw [List.mem_singleton.1 hs]; exact d_plain ds (names_of hd)
  obtain ⟨R, E, inn, k1, k2, k3⟩ := lines_man xs [] [] [] 0 0 0 hx (.inl rfl) rfl (fun r hr => by cases hr) .nil (by simpa using hn) rfl
  have hfin : ∀ inn2 ds2, (inn2 = 0 ∨ inn2 = 2) → (match closeE ⟨none0, R, E, ds2, inn2⟩ with
    | .error e => Except.error e
    | .ok st => match endsAll st.file st.rules st.edges [] with
      | .error e => .error e
      | .ok es => .ok (es, st.defs)) = Except.ok (ε := Er) (xs, ds2) := by
    intro inn2 ds2 h2
    rw [close_ok h2]
    dsimp only
    rw [endsAll_fin k3 hx hlen]; rfl
  have hE : parseE (numbered 0 (manLines 0 xs ++ defLines ds)) = .ok (xs, ds) := by
    unfold parseE
    rw [numbered_append, linesE_append]
    rw [show St.init = ⟨none0, [], [], [], 0⟩ from rfl, k1]
    dsimp only
    unfold defLines
    by_cases hne : ds = []
    · rw [if_pos hne, hne]
      exact hfin inn [] k2
    · rw [if_neg hne]
      simp only [numbered, linesE]
      rw [takes_d k2 hne hd]
      dsimp only
      exact hfin 0 ds (.inl rfl)
  unfold parseL printT
  rw [linesL_text _ hpl hl]
  dsimp only
  rw [if_pos rfl, hE]
end Go.Proofs.YtbjekebkgidhaaaGreatDoor.Mf
end
section
set_option linter.unusedSimpArgs false
set_option linter.unusedVariables false
namespace Go.Proofs.YtbjekebkgidhaaaGreatDoor.Mf
open Go.RowKit Go.Lib Go.Shelf Go.Proofs.YtbjekebkgidhaaaGreatDoor.U Go.Proofs.YtbjekebkgidhaaaGreatDoor.Sc Go.Proofs.YtbjekebkgidhaaaGreatDoor.P
open Go.Proofs.YtbjekebkgidhaaaGreatDoor.Ln hiding Txt
def OkM (m : MapL) : Prop := ∀ k v, m k = some v → okL v = true
theorem OkM.none0 : OkM none0 := fun k v h => by cases h
theorem OkM.upd {m : MapL} (h : OkM m) {k t : Txt} (ht : okL t = true) : OkM (upd m k t) := by
  intro j v hv
  by_cases hj : j = k
  · subst hj; rw [upd_get] at hv; injection hv with hv; rw [← hv]; exact ht
  · rw [upd_other m t hj] at hv; exact h j v hv
end Go.Proofs.YtbjekebkgidhaaaGreatDoor.Mf
end
section
set_option linter.unusedSimpArgs false
set_option linter.unusedVariables false
namespace Go.Proofs.YtbjekebkgidhaaaGreatDoor.Mf
open Go.RowKit Go.Lib Go.Shelf Go.Proofs.YtbjekebkgidhaaaGreatDoor.U Go.Proofs.YtbjekebkgidhaaaGreatDoor.Sc Go.Proofs.YtbjekebkgidhaaaGreatDoor.P
theorem dollarL_congr {L L' : List Lev} (h : ∀ k, getL L k = getL L' k) (t : Txt) : dollarL L t = dollarL L' t := by
  cases t with
  | nil => rfl
  | cons c r => simp only [dollarL, h]
theorem expGo_congr {L L' : List Lev} (h : ∀ k, getL L k = getL L' k) (f : Nat) : ∀ (t out : Txt) (long : Bool), expGo L f t out long = expGo L' f t out long := by
  induction f with
  | zero => intro t out long; rfl
  | succ f ih => intro t out long; simp only [expGo, dollarL_congr h, ih]
theorem expandL_congr {L L' : List Lev} (h : ∀ k, getL L k = getL L' k) (t : Txt) : expandL L t = expandL L' t := by
  simp only [expandL, expGo_congr h]
theorem getL_lv (L : List Lev) (k : Txt) : getL L k = getL ((L.map (·.m)).map lv) k := by
  induction L with
  | nil => rfl
  | cons s r ih => simp only [List.map_cons, getL, lv, ih]
theorem expandL_expF (L : List Lev) (t : Txt) : expandL L t = expF (L.map (·.m)) t := expandL_congr (getL_lv L) t
theorem finL_len (r : Option (Txt × Bool)) : (finL r).1.length ≤ 16384 := by
  cases r with
  | none => simp [finL]
  | some p =>
    obtain ⟨o, l⟩ := p
    simp only [finL]
    split
    · simp
    · rename_i h; simp only [not_or] at h; show o.length ≤ _; omega
theorem expF_len (ms : List MapL) (t : Txt) : (expF ms t).1.length ≤ 16384 := finL_len _
def Short (M : Nat) (m : MapL) : Prop := ∀ k t, m k = some t → t.length ≤ M
theorem Short.none0 (M : Nat) : Short M none0 := fun k t h => by cases h
theorem Short.upd {M : Nat} {m : MapL} (h : Short M m) {k t : Txt} (ht : t.length ≤ M) : Short M (upd m k t) := by
  intro x u hx
  by_cases e : x = k
  · have : t = u := by simpa [Sc.upd, e] using hx
    rw [← this]; exact ht
  · exact h x u (by simpa [Sc.upd, e] using hx)
theorem Short.mono {M M' : Nat} {m : MapL} (h : Short M m) (hM : M ≤ M') : Short M' m := fun k t e => Nat.le_trans (h k t e) hM
theorem getL_short {M : Nat} : ∀ {L : List Lev}, (∀ s ∈ L, Short M s.m) → ∀ k, (getL L k).length ≤ M := by
  intro L
  induction L with
  | nil => intro _ k; exact Nat.zero_le _
  | cons s r ih =>
    intro h k
    simp only [getL]
    cases hm : s.m k with
    | some t => exact h s (by simp) k t hm
    | none => exact ih (fun x hx => h x (by simp [hx])) k
theorem pathsE_len (line : Nat) (file : MapL) : ∀ (ws acc d : List Txt), pathsE line file acc ws = .ok d → d.length = acc.length + ws.length := by
  intro ws
  induction ws with
  | nil => intro acc d h; obtain rfl : acc = d := by simpa [pathsE] using h
           simp
  | cons x r ih =>
    intro acc d h
    rw [pathsE] at h
    cases hp : pathE line file x with
    | error e => rw [hp] at h; cases h
    | ok p =>
      rw [hp] at h
      have := ih _ _ h
      rw [this, List.length_append, List.length_cons, List.length_cons, List.length_nil]; omega
end Go.Proofs.YtbjekebkgidhaaaGreatDoor.Mf
end
section
set_option linter.unusedSimpArgs false
set_option linter.unusedVariables false
namespace Go.Proofs.YtbjekebkgidhaaaGreatDoor.MapV
open Go.RowKit Go.Lib Go.Maps Go.WideMaps Go.WideElems Go.Proofs.YtbjekebkgidhaaaGreatDoor.U Go.Proofs.YtbjekebkgidhaaaGreatDoor.Idx Go.Proofs.YtbjekebkgidhaaaGreatDoor.Sc
abbrev MapVal := Txt → Option Value
def updV (m : MapVal) (k : Txt) (v : Value) : MapVal := fun x => if x = k then some v else m x
def noneV : MapVal := fun _ => none
def Rv (v : Value) : Option (DataW Value × List MemPlace) := some (.held v, [])
def OwnsV (w : World) (b n : Nat) (m : MapVal) : Prop :=
  ∃ D : DataW Value, w.ownsMap Tryz.prog 9 Rv b n D ∧ (∀ k, Maps.has D (.string k) = (m k).isSome) ∧ (∀ k t, m k = some t → ∀ z, D.atKey (.string k) z = .held t)
theorem OwnsV.lt {w : World} {b n : Nat} {m : MapVal} (h : OwnsV w b n m) : b < w.heap.size := by
  obtain ⟨D, h, _⟩ := h
  exact h.lt
theorem OwnsV.mono {w : World} {b n n' : Nat} {m : MapVal} (h : OwnsV w b n m) (hn : n ≤ n') : OwnsV w b n' m := by
  obtain ⟨D, h, r⟩ := h
  exact ⟨D, h.mono hn, r⟩
theorem OwnsV.same {w w' : World} {b n : Nat} {m : MapVal} (h : OwnsV w b n m) (hb : w'.heap[b]? = w.heap[b]?) : OwnsV w' b n m := by
  obtain ⟨D, ⟨es, clock, h1, h2⟩, r⟩ := h
  exact ⟨D, ⟨es, clock, hb.trans h1, h2⟩, r⟩
theorem OwnsV.made (w : World) : OwnsV (w.alloc (.map #[] 0)) w.heap.size 0 noneV :=
  ⟨.map [], World.ownsMap_made w _ _ _, fun _ => rfl, fun k t h => by cases h⟩
theorem held_of {w : World} {b n : Nat} {m : MapVal} {D : DataW Value} (h1 : ∀ k, Maps.has D (.string k) = (m k).isSome) (h2 : ∀ k t, m k = some t → ∀ z, D.atKey (.string k) z = .held t)
    {k : Txt} {z v : Value} {ps : List MemPlace} (hv : Rv v = some (D.atKey (.string k) (.held z), ps)) : v = (m k).getD z := by
  have hat : (DataW.held v : DataW Value) = D.atKey (.string k) (.held z) := (Prod.mk.inj (Option.some.inj hv)).1
  cases hm : m k with
  | none =>
    have hn : Maps.has D (.string k) = false := by rw [h1 k, hm]; rfl
    rw [Maps.atKey_of_not_has hn] at hat
    injection hat
  | some t =>
    rw [h2 k t hm] at hat
    injection hat
theorem OwnsV.look {t e : TypeId} {z : Value} {w : World} {b n : Nat} {m : MapVal} (h : OwnsV w b n m) (ht : Tryz.prog.underlying t = some (.map 9 e)) (hz : (zeroValue e).run Tryz.prog w = .ok z w) (k : Txt) (hk : k.length ≤ maxLen) :
    (Instr.lookup t (.map (some b)) (.string (B k)) false).run Tryz.prog w = .ok ((m k).getD z) w := by
  obtain ⟨D, h, h1, h2⟩ := h
  have hkey : keyOf Tryz.prog 9 (.string (B k)) = some (.string k) := keyOf_string_mk Tryz.underlying9 (by rw [size_B]; exact hk)
  obtain ⟨v, ps, hrun, hv⟩ := h.lookup skeyed ht hz (show Rv z = some (.held z, []) from rfl) hkey
  rw [hrun, held_of (w := w) (b := b) (n := n) h1 h2 hv]
theorem OwnsV.look_ok {t e : TypeId} {z : Value} {w : World} {b n : Nat} {m : MapVal} (h : OwnsV w b n m) (ht : Tryz.prog.underlying t = some (.map 9 e)) (hz : (zeroValue e).run Tryz.prog w = .ok z w) (k : Txt) (hk : k.length ≤ maxLen) :
    (Instr.lookup t (.map (some b)) (.string (B k)) true).run Tryz.prog w = .ok (.tuple #[(m k).getD z, .bool (m k).isSome]) w := by
  obtain ⟨D, h, h1, h2⟩ := h
  have hkey : keyOf Tryz.prog 9 (.string (B k)) = some (.string k) := keyOf_string_mk Tryz.underlying9 (by rw [size_B]; exact hk)
  obtain ⟨v, ps, hrun, hv⟩ := h.look_ok skeyed ht hz (show Rv z = some (.held z, []) from rfl) hkey
  rw [hrun, h1 k, held_of (w := w) (b := b) (n := n) h1 h2 hv]
theorem OwnsV.store {t e : TypeId} {w : World} {b n : Nat} {m : MapVal} (h : OwnsV w b n m) (ht : Tryz.prog.underlying t = some (.map 9 e)) (hn : n < maxLen) (k : Txt) (v : Value) (hk : k.length ≤ maxLen) :
    ∃ w', (Instr.mapUpdate t (.map (some b)) (.string (B k)) v).run Tryz.prog w = .ok () w' ∧ OwnsV w' b (n + 1) (updV m k v) ∧ w.grownBy w' (some b) := by
  obtain ⟨D, h, h1, h2⟩ := h
  have hkey : keyOf Tryz.prog 9 (.string (B k)) = some (.string k) := keyOf_string_mk Tryz.underlying9 (by rw [size_B]; exact hk)
  obtain ⟨w', hrun, hown, hg⟩ := h.update skeyed ht hn hkey (show Rv v = some (.held v, []) from rfl)
  refine ⟨w', hrun, ⟨_, hown, ?_, ?_⟩, hg⟩
  · intro x
    by_cases hx : x = k
    · subst hx
      rw [has_put_same h.isMap (show WideAt.IsKeyLit (.string x) from trivial)]; simp [updV]
    · rw [has_put_other (by simpa using hx), h1 x]; simp [updV, hx]
  · intro x t' hx' z
    by_cases hx : x = k
    · subst hx
      rw [atKey_put_same h.isMap (show WideAt.IsKeyLit (.string x) from trivial)]
      have : v = t' := by simpa [updV] using hx'
      rw [← this]
    · rw [atKey_put_other (by simpa using hx)]
      exact h2 x t' (by simpa [updV, hx] using hx') z
theorem OwnsV.entry {t e : TypeId} {z : Value} {w : World} {b n : Nat} {m : MapVal} (h : OwnsV w b n m) (ht : Tryz.prog.underlying t = some (.map 9 e)) (hz : ∀ w, (zeroValue e).run Tryz.prog w = .ok z w) (hn : n < maxLen) (k : Txt) (v : Value) (hk : k.length ≤ maxLen) :
    ∃ (v0 : Value) (st : Nat) (w1 : World), (Instr.mapEntry t (.map (some b)) (.string (B k))).run Tryz.prog w = .ok (.tuple #[v0, .int .i64 (st : Int)]) w1 ∧ w.grownBy w1 (some b) ∧
      ∀ w2 : World, w2.heap[b]? = w1.heap[b]? → ∃ w3, (Instr.entryStore t (.map (some b)) (.int .i64 (st : Int)) v).run Tryz.prog w2 = .ok () w3 ∧ OwnsV w3 b (n + 1) (updV m k v) ∧ w2.grownBy w3 (some b) := by
  have hst := h.store ht hn k v hk
  obtain ⟨D, ⟨es, clock, hb, F, hs, hD⟩, h1, h2⟩ := h
  have hkey : keyOf Tryz.prog 9 (.string (B k)) = some (.string k) := keyOf_string_mk Tryz.underlying9 (by rw [size_B]; exact hk)
  obtain ⟨v0, st, es1, clock1, hrun, _, hthen⟩ := entry_then_store (WideMaps.string_law Tryz.underlying9) ht hz hb F hkey
  have hg : ∀ (w : World) (o' : Obj) (es : Array MapEntry) (clock : Nat), w.heap[b]? = some (.map es clock) → w.grownBy (ChangeMaps.setBlock w b o') (some b) := fun w o' es clock hw => ⟨rfl, rfl, rfl, by simp [ChangeMaps.setBlock], fun i _ hi => ChangeMaps.heap_setBlock_other hw _ (fun e => hi (by rw [e]))⟩
  refine ⟨v0, st, _, hrun, hg w _ _ _ hb, fun w2 hw2 => ?_⟩
  have hw2' : w2.heap[b]? = some (.map es1 clock1) := hw2.trans (ChangeMaps.heap_setBlock_same hb _)
  obtain ⟨es', clock', r1, r2⟩ := hthen w2 v hw2'
  refine ⟨_, r1, ?_, hg w2 _ _ _ hw2'⟩
  obtain ⟨w', s1, s2, _⟩ := hst
  rw [r2] at s1
  have hw' : ChangeMaps.setBlock w b (.map es' clock') = w' := by injection s1
  refine s2.same ?_
  rw [← hw', ChangeMaps.heap_setBlock_same hb, ChangeMaps.heap_setBlock_same hw2']
end Go.Proofs.YtbjekebkgidhaaaGreatDoor.MapV
end
section
set_option linter.unusedSimpArgs false
set_option linter.unusedVariables false
namespace Go.Proofs.YtbjekebkgidhaaaGreatDoor.Mf
open Go.RowKit Go.Lib Go.Shelf Go.Proofs.YtbjekebkgidhaaaGreatDoorW.PrintWords Go.Proofs.YtbjekebkgidhaaaGreatDoor.U Go.Proofs.YtbjekebkgidhaaaGreatDoor.Sc Go.Proofs.YtbjekebkgidhaaaGreatDoor.P
abbrev wr (line : Nat) (c : Int) : Ending := .panicked [{ v := .iface 60 (.agg #[.int .i64 (line : Int), .int .i64 c]), recovered := false }]
set_option maxRecDepth 100000 in
set_option maxHeartbeats 2000000 in
theorem need_ok (r : Value) (c : Int) (w : World) : Calls Tryz.prog 40 #[r, .bool true, .int .i64 c] w fun e w' => e = .returned (.tuple #[]) ∧ w = w' := by
  go_enter Tryz.func40, Tryz.ntmps40
  go_wp2
  go_end0
  exact ⟨rfl, rfl⟩
set_option maxRecDepth 100000 in
set_option maxHeartbeats 2000000 in
theorem need_no (b : Nat) (line : Nat) (c : Int) (w : World) (h4 : w.cell? ⟨b, 4, none⟩ = some (.int .i64 (line : Int))) :
    Calls Tryz.prog 40 #[.pointer (some ⟨b, 0, none⟩), .bool false, .int .i64 c] w fun e w' => e = wr line c ∧ w = w' := by
  go_enter Tryz.func40, Tryz.ntmps40
  go_wp2
  exact ⟨rfl, rfl, rfl⟩
def Gives {α : Type} (r : Except Er α) (K : α → Value) (w : World) (e : Ending) (w' : World) : Prop :=
  match r with
  | .ok x => e = .returned (K x) ∧ Below w.heap.size w w'
  | .error x => e = wr x.1 x.2 ∧ Below w.heap.size w w'
theorem Gives.fin {α : Type} {r : Except Er α} {K : α → Value} {w w' : World} {x : α} (h : r = .ok x) (hb : Below w.heap.size w w') : Gives r K w (.returned (K x)) w' := by
  subst h; exact ⟨rfl, hb⟩
theorem Gives.bad {α : Type} {r : Except Er α} {K : α → Value} {w w' : World} {l : Nat} {c : Int} (h : r = .error (l, c)) (hb : Below w.heap.size w w') : Gives r K w (wr l c) w' := by
  subst h; exact ⟨rfl, hb⟩
set_option maxRecDepth 100000 in
set_option maxHeartbeats 2000000 in
theorem expanded_any (b line : Nat) (L : List Lev) (v : Value) (text : Txt) (w : World) (h4 : w.cell? ⟨b, 4, none⟩ = some (.int .i64 (line : Int))) (hb : b < w.heap.size)
    (hl : text.length < 1000000000) (hT : ∀ k, (getL L k).length < 1000000000) (hC : Chain w L v) :
    Calls Tryz.prog 47 #[.pointer (some ⟨b, 0, none⟩), v, .string (B text)] w (Gives (expE line (L.map (·.m)) text) (fun x => .string (B x)) w) := by
  have hE := Lib.hid (Expand_any L v text hl hT w hC)
  have he : expE line (L.map (·.m)) text = if (expandL L text).2 = 0 then .ok (expandL L text).1 else .error (line, (expandL L text).2) := by
    rw [expE, expandL_expF]
  generalize expE line (L.map (·.m)) text = R at *
  obtain ⟨⟨t, c⟩, hx⟩ : ∃ x, expandL L text = x := ⟨_, rfl⟩
  rw [hx] at hE he
  have hH := Lib.hid he
  clear he hx hC hT
  have h4H := Lib.hid h4
  clear h4
  by_cases hc : c = 0
  · subst hc
    have hR : Hid (R = .ok t) := by show R = _; rw [hH.out, if_pos rfl]
    clear hH
    go_enter Tryz.func47, Tryz.ntmps47
    go_wp2_with fail
    refine hE.out.mono ?_
    rintro e w1 ⟨rfl, hb1⟩
    go_wp2_with fail
    refine (need_ok _ _ _).mono ?_
    rintro e w2 ⟨rfl, rfl⟩
    go_wp2_with fail
    go_ret
    exact Gives.fin hR.out hb1
  · have hR : Hid (R = .error (line, c)) := by show R = _; rw [hH.out, if_neg hc]
    have hcb : (c == 0) = false := beq_eq_false_iff_ne.2 hc
    clear hH hc
    go_enter Tryz.func47, Tryz.ntmps47
    go_wp2_with fail
    refine hE.out.mono ?_
    rintro e w1 ⟨rfl, hb1⟩
    have h41 := Lib.hid ((hb1.cell (p := ⟨b, 4, none⟩) hb).trans h4H.out)
    go_wp2_with fail
    refine (need_no b line c _ h41.out).mono ?_
    rintro e w2 ⟨rfl, rfl⟩
    exact ⟨rfl, Gives.bad hR.out hb1⟩
set_option maxRecDepth 100000 in
set_option maxHeartbeats 2000000 in
theorem mclean_any (b line : Nat) (text : Txt) (w : World) (h4 : w.cell? ⟨b, 4, none⟩ = some (.int .i64 (line : Int))) (hb : b < w.heap.size) :
    Calls Tryz.prog 48 #[.pointer (some ⟨b, 0, none⟩), .string (B text)] w (Gives (cleanE line text) (fun x => .string (B x)) w) := by
  have hE := Lib.hid (clean_any text w)
  have he : cleanE line text = if (cleanL text).2 = 0 then .ok (cleanL text).1 else .error (line, 10) := rfl
  generalize cleanE line text = R at *
  obtain ⟨⟨t, c⟩, hx⟩ : ∃ x, cleanL text = x := ⟨_, rfl⟩
  rw [hx] at hE he
  have hH := Lib.hid he
  clear he hx
  have h4H := Lib.hid h4
  clear h4
  by_cases hc : c = 0
  · subst hc
    have hR : Hid (R = .ok t) := by show R = _; rw [hH.out, if_pos rfl]
    clear hH
    go_enter Tryz.func48, Tryz.ntmps48
    go_wp2_with fail
    refine hE.out.mono ?_
    rintro e w1 ⟨rfl, hb1⟩
    go_wp2_with fail
    refine (need_ok _ _ _).mono ?_
    rintro e w2 ⟨rfl, rfl⟩
    go_wp2_with fail
    go_ret
    exact Gives.fin hR.out hb1
  · have hR : Hid (R = .error (line, 10)) := by show R = _; rw [hH.out, if_neg hc]
    have hcb : (c == 0) = false := beq_eq_false_iff_ne.2 hc
    clear hH hc
    go_enter Tryz.func48, Tryz.ntmps48
    go_wp2_with fail
    refine hE.out.mono ?_
    rintro e w1 ⟨rfl, hb1⟩
    have h41 := Lib.hid ((hb1.cell (p := ⟨b, 4, none⟩) hb).trans h4H.out)
    go_wp2_with fail
    refine (need_no b line 10 _ h41.out).mono ?_
    rintro e w2 ⟨rfl, rfl⟩
    exact ⟨rfl, Gives.bad hR.out hb1⟩
end Go.Proofs.YtbjekebkgidhaaaGreatDoor.Mf
end
section
set_option linter.unusedSimpArgs false
set_option linter.unusedVariables false
namespace Go.Proofs.YtbjekebkgidhaaaGreatDoor.Mf
open Go.RowKit Go.Lib Go.Shelf Go.Proofs.YtbjekebkgidhaaaGreatDoorW.PrintWords Go.Proofs.YtbjekebkgidhaaaGreatDoor.U Go.Proofs.YtbjekebkgidhaaaGreatDoor.Sc Go.Proofs.YtbjekebkgidhaaaGreatDoor.P
set_option maxRecDepth 100000 in
set_option maxHeartbeats 2000000 in
theorem sign_any (t : Txt) (w : World) : Calls Tryz.prog 101 #[.string (B t)] w fun e w' => e = .returned (.bool (isSign t)) ∧ w = w' := by
  go_enter Tryz.func101, Tryz.ntmps101
  go_wp2
  all_goals
    go_ret
    exact ⟨by simp [isSign, *], rfl⟩
theorem str_at {w : World} {A : Option Addr} {ws : List Txt} (h : Kd.C Kd.string w A ws.length (ws.map B)) (i : Nat) (hi : i < ws.length) :
    ∃ ad, A = some ad ∧ w.cell? (ad.add i) = some (.string (B ws[i])) := by
  obtain ⟨ad, rfl, hcell⟩ := h.2.2 (by omega)
  obtain ⟨c, _, hK, hv⟩ := hcell i (B ws[i]) (by rw [List.getElem?_map, List.getElem?_eq_getElem hi]; rfl)
  have hK' : c = [.string (B ws[i])] := hK
  subst hK'
  refine ⟨ad, rfl, ?_⟩
  have := hv 0 (.string (B ws[i])) rfl
  rwa [show i * Kd.string.sz + 0 = i by show i * 1 + 0 = i; omega] at this
structure Rd (w : World) (b line : Nat) (L : List Lev) (v : Value) : Prop where
  lt : b < w.heap.size
  c0 : w.cell? ⟨b, 0, none⟩ = some v
  c4 : w.cell? ⟨b, 4, none⟩ = some (.int .i64 (line : Int))
  ch : Chain w L v
theorem Rd.below {w w' : World} {b line : Nat} {L : List Lev} {v : Value} (h : Rd w b line L v) (hb : Below w.heap.size w w') : Rd w' b line L v :=
  ⟨Nat.lt_of_lt_of_le h.lt hb.size, (hb.cell (p := ⟨b, 0, none⟩) h.lt).trans h.c0, (hb.cell (p := ⟨b, 4, none⟩) h.lt).trans h.c4, h.ch.below hb⟩
theorem Rd.below' {w w' : World} {n b line : Nat} {L : List Lev} {v : Value} (h : Rd w b line L v) (hb : Below n w w') (hn : n = w.heap.size) : Rd w' b line L v := h.below (hn ▸ hb)
def GivesL (r : Except Er (List Txt)) (w : World) (e : Ending) (w' : World) : Prop :=
  match r with
  | .ok l => ∃ v, e = .returned v ∧ w'.ownsRow w.heap.size 9 1 v l.length (l.map fun t => Value.string (B t)) ∧ Below w.heap.size w w'
  | .error x => e = wr x.1 x.2 ∧ Below w.heap.size w w'
theorem GivesL.fin {r : Except Er (List Txt)} {w w' : World} {l : List Txt} {v : Value} (h : r = .ok l) (ho : w'.ownsRow w.heap.size 9 1 v l.length (l.map fun t => Value.string (B t))) (hb : Below w.heap.size w w') : GivesL r w (.returned v) w' := by
  subst h; exact ⟨v, rfl, ho, hb⟩
theorem GivesL.bad {r : Except Er (List Txt)} {w w' : World} {l : Nat} {c : Int} (h : r = .error (l, c)) (hb : Below w.heap.size w w') : GivesL r w (wr l c) w' := by
  subst h; exact ⟨rfl, hb⟩
set_option maxRecDepth 100000 in
set_option maxHeartbeats 8000000 in
theorem paths_any (b line : Nat) (s : Lev) (v : Value) (A : Option Addr) (c : Nat) (ws : List Txt) (w : World) (hR : Rd w b line [s] v) (hT : ∀ k, (getL [s] k).length < 1000000000)
    (hW : Kd.C Kd.string w A ws.length (ws.map B)) (hn : ws.length ≤ 1000000) (hl : ∀ t ∈ ws, t.length < 1000000000) :
    Calls Tryz.prog 75 #[.pointer (some ⟨b, 0, none⟩), .slice A ws.length c] w (GivesL (pathsE line s.m [] ws) w) := by
  obtain ⟨R, hRes⟩ : ∃ R, pathsE line s.m [] ws = R := ⟨_, rfl⟩
  rw [hRes]
  have hE0 : Hid (pathsE line s.m [] (ws.drop 0) = R) := by rw [List.drop_zero]; exact hRes
  obtain ⟨n, hN⟩ : ∃ n, ws.length = n := ⟨_, rfl⟩
  have hNH := Lib.hid hN
  have hRH := Lib.hid hR
  have hWH := Lib.hid hW
  have hLH := Lib.hid hl
  have hTH := Lib.hid hT
  rw [hN] at hn ⊢
  clear hRes hN hR hW hl hT
  go_enter Tryz.func75, Tryz.ntmps75
  go_wp2_with fail
  go_loopg [5, 10] n (fun gk s5 s10 wr => ∃ (i : Nat) (acc : List Txt), s10 = .int .i64 (i : Int) ∧ i + gk = n ∧ acc.length ≤ i ∧ Hid (wr.ownsRow w.heap.size 9 1 s5 acc.length (acc.map fun t => Value.string (B t))) ∧ Hid (Below w.heap.size w wr) ∧ Hid (pathsE line s.m acc (ws.drop i) = R))
  case atStart => exact ⟨0, [], rfl, Nat.zero_add _, Nat.le_refl _, own_nil _ _ _ _, Below.refl _ _, hE0⟩
  case round =>
    obtain ⟨i, acc, rfl, hik, hacc, hO, hB, hE⟩ := hrel
    cases gk with
    | zero =>
      obtain rfl : i = n := by omega
      have hlt : decide ((i : Int) < (i : Int)) = false := by simp
      have hR1 : Hid (R = .ok acc) := by
        show R = _
        have := hE.out
        rw [List.drop_of_length_le (by rw [hNH.out]; omega)] at this
        exact this.symm
      go_wp2_with fail
      go_ret
      exact GivesL.fin hR1.out hO.out hB.out
    | succ gk =>
      have hin : i < ws.length := by rw [hNH.out]; omega
      have hlt : decide ((i : Int) < (n : Int)) = true := by rw [decide_eq_true_iff]; omega
      have i1 : (0 : Int) ≤ (i : Int) := by omega
      have i2 : (i : Int) < (n : Int) := by omega
      obtain ⟨ad, hA, hc⟩ := str_at hWH.out i hin
      subst hA
      have hcb := Lib.hid ((hB.out.cell (World.block_lt_of_cell? w _ hc)).trans hc)
      have hdrop : Hid (ws.drop i = ws[i] :: ws.drop (i + 1)) := List.drop_eq_getElem_cons hin
      have hxl := hLH.out ws[i] (List.getElem_mem hin)
      have hRd := Lib.hid (hRH.out.below' hB.out rfl)
      have hEx : Hid (R = match pathE line s.m ws[i] with | .error e => .error e | .ok p => pathsE line s.m (acc ++ [p]) (ws.drop (i + 1))) := by
        show R = _
        rw [← hE.out, hdrop.out, pathsE]
        try rfl
      clear hE hdrop hc
      generalize ws[i] = x at *
      have hcell := hcb.out
      have hS := Lib.hid (fun W => sign_any x W)
      cases hsg : isSign x with
      | true =>
        have hR1 : Hid (R = .error (line, 10)) := by show R = _; rw [hEx.out, pathE, if_pos hsg]
        rw [hsg] at hS
        clear hsg hEx
        go_wp2_with fail
        refine (hS.out _).mono ?_
        rintro e w1 ⟨rfl, rfl⟩
        go_wp2_with fail
        refine (need_no b line 10 _ hRd.out.c4).mono ?_
        rintro e w1 ⟨rfl, rfl⟩
        exact ⟨rfl, GivesL.bad hR1.out hB.out⟩
      | false =>
        have hX := Lib.hid (fun W (h : Rd W b line [s] v) => expanded_any b line [s] v x W h.c4 h.lt hxl hTH.out h.ch)
        have hEx1 : Hid (R = match expE line [s.m] x with | .error e => .error e | .ok t => match cleanE line t with | .error e => .error e | .ok p => pathsE line s.m (acc ++ [p]) (ws.drop (i + 1))) := by
          show R = _
          rw [hEx.out, pathE, if_neg (by rw [hsg]; decide)]
          cases expE line [s.m] x <;> rfl
        rw [hsg] at hS
        clear hsg hEx
        have hc0 := hRd.out.c0
        rw [show ([s].map (·.m)) = [s.m] from rfl] at hX
        go_wp2_with fail
        refine (hS.out _).mono ?_
        rintro e w1 ⟨rfl, rfl⟩
        go_wp2_with fail
        refine (need_ok _ _ _).mono ?_
        rintro e w1 ⟨rfl, rfl⟩
        go_wp2_with fail
        cases hex : expE line [s.m] x with
        | error er =>
          obtain ⟨l1, c1⟩ := er
          rw [hex] at hX hEx1
          refine (hX.out _ hRd.out).mono ?_
          rintro e w1 ⟨rfl, hb1⟩
          exact ⟨rfl, GivesL.bad hEx1.out (hB.out.trans (hb1.mono hB.out.size))⟩
        | ok t =>
          rw [hex] at hX hEx1
          refine (hX.out _ hRd.out).mono ?_
          rintro e w1 ⟨rfl, hb1⟩
          have hRd1 := Lib.hid (hRd.out.below hb1)
          have hB1 := Lib.hid (hB.out.trans (hb1.mono hB.out.size))
          have hO1 := Lib.hid (own_move hO.out fun k hk => hb1.block k (own_lt hO.out k hk))
          have hCl := Lib.hid (fun W (h : Rd W b line [s] v) => mclean_any b line t W h.c4 h.lt)
          clear hX hb1 hO hB hRd hS hc0 hcell hcb
          go_wp2_with fail
          cases hcl : cleanE line t with
          | error er =>
            obtain ⟨l1, c1⟩ := er
            rw [hcl] at hCl
            have hR1 : Hid (R = .error (l1, c1)) := by show R = _; rw [hEx1.out]; simp only [hcl]
            refine (hCl.out _ hRd1.out).mono ?_
            rintro e w2 ⟨rfl, hb2⟩
            exact ⟨rfl, GivesL.bad hR1.out (hB1.out.trans (hb2.mono hB1.out.size))⟩
          | ok p =>
            rw [hcl] at hCl
            have hE2 : Hid (pathsE line s.m (acc ++ [p]) (ws.drop (i + 1)) = R) := by show _ = R; rw [hEx1.out]; simp only [hcl]
            clear hcl hex hEx1
            refine (hCl.out _ hRd1.out).mono ?_
            rintro e w2 ⟨rfl, hb2⟩
            have hB2 := Lib.hid (hB1.out.trans (hb2.mono hB1.out.size))
            have hO2 := Lib.hid (own_move hO1.out fun k hk => hb2.block k (own_lt hO1.out k hk))
            clear hb2 hO1 hB1 hRd1 hCl
            go_wp2_with (at_builtin; go_loud (refine print_append_cells (w0 := w) (W := w2) w.heap.size rfl _ _ 23 9 (.string ⟨#[]⟩) 1 16 rfl Tryz.underlying23 infoStr rfl (by decide) (by decide) u5 (acc.length) _ [.string (B p)] rfl rfl rfl (by intro u hu; rw [List.mem_singleton.1 hu]; rfl) hO2.out hB2.out hB2.out.size (by omega) ?_))
            intro v1 w3 ho3 hb3 _ _
            have hO3 : Hid (w3.ownsRow w.heap.size 9 1 v1 (acc ++ [p]).length ((acc ++ [p]).map fun t => Value.string (B t))) := by
              show World.ownsRow ..
              rw [List.length_append, List.map_append]; exact ho3
            have hB3 := Lib.hid hb3
            clear ho3 hb3
            go_wp2_with fail
            go_roundg gk
            case measure => omega
            case rel => exact ⟨i + 1, acc ++ [p], by go_num, by omega, by rw [List.length_append]; simp; omega, hO3, hB3, hE2⟩
end Go.Proofs.YtbjekebkgidhaaaGreatDoor.Mf
end
section
set_option linter.unusedSimpArgs false
set_option linter.unusedVariables false
namespace Go.Proofs.YtbjekebkgidhaaaGreatDoor.Mf
open Go.RowKit Go.Lib Go.Shelf Go.Proofs.YtbjekebkgidhaaaGreatDoorW.PrintWords Go.Proofs.YtbjekebkgidhaaaGreatDoor.U Go.Proofs.YtbjekebkgidhaaaGreatDoor.Sc Go.Proofs.YtbjekebkgidhaaaGreatDoor.P
theorem trim_any (p : Txt) (hp : p.length ≤ 1000000000) (W : World) : Calls Tryz.prog 68 #[.string (B p), .string ⟨#[32]⟩] W fun e w' => e = .returned (.string (B (trimB p 32))) ∧ Below W.heap.size W w' :=
  (Tryz.strings_Trim_one (B p) 32 (by decide) W (by rw [size_B]; omega)).mono fun e w' ⟨h1, h2⟩ => ⟨h1, by
    rcases h2 with rfl | rfl
    · exact Below.refl _ _
    · exact (Below.refl _ _).drew⟩
theorem cutL_le (c : UInt8) (l : Txt) : (cutL c l).1.length ≤ l.length ∧ (cutL c l).2.1.length ≤ l.length := cutL_len c l
set_option maxRecDepth 100000 in
set_option maxHeartbeats 4000000 in
theorem set_any (b line : Nat) (L : List Lev) (v : Value) (text : Txt) (hl : text.length ≤ 1000000) (w : World) (hR : Rd w b line L v) :
    Calls Tryz.prog 41 #[.pointer (some ⟨b, 0, none⟩), .string (B text)] w (Gives (setE line text) (fun p => .tuple #[.string (B p.1), .string (B p.2)]) w) := by
  have hC := Lib.hid (fun W => cut_any 61 text (by omega) W)
  have hln := cutL_le 61 text
  have hS : Hid (setE line text = if (cutL 61 text).2.2 = true ∧ nameL (trimB (cutL 61 text).1 32) = true then .ok (trimB (cutL 61 text).1 32, Lib.trimLeftB (cutL 61 text).2.1 32) else .error (line, 10)) := rfl
  generalize setE line text = R at *
  generalize cutL 61 text = q at *
  obtain ⟨n0, v0, is⟩ := q
  simp only at hC hln hS
  have hT := Lib.hid (fun W => trim_any n0 (by omega) W)
  have hN := Lib.hid (fun W => Name_any (trimB n0 32) W)
  have hL := Lib.hid (fun W => Ln.TrimLeft_any 32 (by decide) v0 W)
  have hRH := Lib.hid hR
  have hbl := hR.lt
  clear hln hR
  have fin : ∀ bo : Bool, Hid (R = if bo = true then .ok (trimB n0 32, Lib.trimLeftB v0 32) else .error (line, 10)) → (is = true → nameL (trimB n0 32) = bo) → (is = false → bo = false) →
      Calls Tryz.prog 41 #[.pointer (some ⟨b, 0, none⟩), .string (B text)] w (Gives R (fun p => .tuple #[.string (B p.1), .string (B p.2)]) w) := by
    intro bo hR2 h1 h2
    have hR2H := Lib.hid hR2.out
    clear hS hR2
    cases is with
    | false =>
      have hbo := h2 rfl
      subst hbo
      have hR3 : Hid (R = .error (line, 10)) := by show R = _; rw [hR2H.out, if_neg (by decide)]
      clear h1 h2 hR2H
      go_enter Tryz.func41, Tryz.ntmps41
      go_wp2_with fail
      refine (hC.out _).mono ?_
      rintro e w1 ⟨rfl, hb1⟩
      have hR1 := Lib.hid (hRH.out.below hb1)
      have hB1 := Lib.hid hb1
      clear hb1
      go_wp2_with fail
      refine (hT.out _).mono ?_
      rintro e w2 ⟨rfl, hb2⟩
      have hR2 := Lib.hid (hR1.out.below hb2)
      have hB2 := Lib.hid (hB1.out.trans (hb2.mono hB1.out.size))
      clear hb2
      go_wp2_with fail
      refine (need_no b line 10 _ hR2.out.c4).mono ?_
      rintro e w3 ⟨rfl, rfl⟩
      exact ⟨rfl, Gives.bad hR3.out hB2.out⟩
    | true =>
      have hnb := h1 rfl
      rw [hnb] at hN
      clear h1 h2 hnb
      cases bo with
      | false =>
        have hR3 : Hid (R = .error (line, 10)) := by show R = _; rw [hR2H.out, if_neg (by decide)]
        clear hR2H
        go_enter Tryz.func41, Tryz.ntmps41
        go_wp2_with fail
        refine (hC.out _).mono ?_
        rintro e w1 ⟨rfl, hb1⟩
        have hR1 := Lib.hid (hRH.out.below hb1)
        have hB1 := Lib.hid hb1
        clear hb1
        go_wp2_with fail
        refine (hT.out _).mono ?_
        rintro e w2 ⟨rfl, hb2⟩
        have hR2 := Lib.hid (hR1.out.below hb2)
        have hB2 := Lib.hid (hB1.out.trans (hb2.mono hB1.out.size))
        clear hb2
        go_wp2_with fail
        refine (hN.out _).mono ?_
        rintro e w3 ⟨rfl, hb3⟩
        have hR3' := Lib.hid (hR2.out.below hb3)
        have hB3 := Lib.hid (hB2.out.trans (hb3.mono hB2.out.size))
        clear hb3
        go_wp2_with fail
        refine (need_no b line 10 _ hR3'.out.c4).mono ?_
        rintro e w4 ⟨rfl, rfl⟩
        exact ⟨rfl, Gives.bad hR3.out hB3.out⟩
      | true =>
        have hR3 : Hid (R = .ok (trimB n0 32, Lib.trimLeftB v0 32)) := by show R = _; rw [hR2H.out, if_pos rfl]
        clear hR2H
        go_enter Tryz.func41, Tryz.ntmps41
        go_wp2_with fail
        refine (hC.out _).mono ?_
        rintro e w1 ⟨rfl, hb1⟩
        have hB1 := Lib.hid hb1
        clear hb1
        go_wp2_with fail
        refine (hT.out _).mono ?_
        rintro e w2 ⟨rfl, hb2⟩
        have hB2 := Lib.hid (hB1.out.trans (hb2.mono hB1.out.size))
        clear hb2
        go_wp2_with fail
        refine (hN.out _).mono ?_
        rintro e w3 ⟨rfl, hb3⟩
        have hB3 := Lib.hid (hB2.out.trans (hb3.mono hB2.out.size))
        clear hb3
        go_wp2_with fail
        refine (need_ok _ _ _).mono ?_
        rintro e w4 ⟨rfl, rfl⟩
        go_wp2_with fail
        refine (hL.out _).mono ?_
        rintro e w5 ⟨rfl, rfl⟩
        go_wp2_with fail
        go_ret2
        exact Gives.fin hR3.out hB3.out
  refine fin (is && nameL (trimB n0 32)) ?_ ?_ ?_
  · show R = _
    rw [hS.out]
    simp only [Bool.and_eq_true]
  · rintro rfl; rfl
  · rintro rfl; rfl
end Go.Proofs.YtbjekebkgidhaaaGreatDoor.Mf
end
