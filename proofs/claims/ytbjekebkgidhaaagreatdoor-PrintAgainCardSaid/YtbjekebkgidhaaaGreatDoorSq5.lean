/- Laid together by wip/tools/shake.py from texts of this claim: Once, OnceDo, RepF, NewRep, RepBuild, Escape, PrEscape, PrItoa, PPrintEdge0, PrEdgeL, PrItoaN, PPrintEdgeN, PrEdgeN, PrPrint, PrPrintN. -/
import Derived.Test.YtbjekebkgidhaaaGreatDoorSq4
import Derived.Test.YtbjekebkgidhaaaGreatDoorProg
import Derived.Tactics
import Derived.Tactics2
import Derived.Defers
import Derived.Laws.Pointers
import Derived.Laws.LoneSync
import Derived.RegionTactic
import Derived.RegionCalls
import Derived.ChangeAlike
import Derived.KernelRfl
import Derived.Lib.SlBuf
import Derived.Laws.Cover3
import Derived.Laws.BitsLemmas
import Derived.Deep.OwnRows
import Derived.Laws.BytesArg
import Derived.OwnWalk
import Derived.Laws.AppendOwn
import Derived.Deep.AppendLies
import Derived.Laws.Tables
import Derived.Laws.CopyOwn
import Derived.Lib.BufferMore
import Derived.Lib.ConvBytes
import Derived.Lib.AppendIntMem
section
set_option linter.unusedVariables false
namespace Go.Proofs.YtbjekebkgidhaaaGreatDoor.Rep
theorem disable (w : World) : (callFunc 153 #[]).run Tryz.prog w = .ok (.value (.tuple #[])) w := run_call_mark0 Tryz.func153 (by kernel_rfl) (by kernel_rfl) (by kernel_rfl) .disable (by kernel_rfl) w
theorem enable (w : World) : (callFunc 155 #[]).run Tryz.prog w = .ok (.value (.tuple #[])) w := run_call_mark0 Tryz.func155 (by kernel_rfl) (by kernel_rfl) (by kernel_rfl) .enable (by kernel_rfl) w
theorem acquire (a : Addr) (w : World) : (callFunc 156 #[.pointer (some a)]).run Tryz.prog w = .ok (.value (.tuple #[])) w := run_call_marked Tryz.func156 (by kernel_rfl) (by kernel_rfl) (by kernel_rfl) .acquire (by kernel_rfl) a w
theorem releaseMerge (a : Addr) (w : World) : (callFunc 158 #[.pointer (some a)]).run Tryz.prog w = .ok (.value (.tuple #[])) w := run_call_marked Tryz.func158 (by kernel_rfl) (by kernel_rfl) (by kernel_rfl) .releaseMerge (by kernel_rfl) a w
set_option maxRecDepth 100000 in
set_option maxHeartbeats 1600000 in
theorem store_deferred (a : Addr) (x : Value) (u : FrameMode) (w : World) (hc : w.cell? a = some x) (hz : w.frozen? a = false) :
    CallsD Tryz.prog 132 #[.pointer (some a), .bool true] u w fun e u' w' => u' = u ∧ (e = .returned (.tuple #[]) ∧ w' = w.drew.setCell a (.int .u32 1)) := by
  have hc' : w.drew.cell? a = some x := by go_simp
  have hz' : w.drew.frozen? a = false := by go_simp
  have hst := run_call_store (P := Tryz.prog) Tryz.func147 (by kernel_rfl) (by kernel_rfl) (by kernel_rfl) (by kernel_rfl) (k := .u32) (y := 1) hc' hz'
  go_enter_d Tryz.func132, Tryz.ntmps132
  go_wp2
  go_region_calls
  all_goals (go_end0; exact ⟨rfl, rfl⟩)
set_option maxRecDepth 100000 in
set_option maxHeartbeats 1600000 in
theorem unlock_deferred (a : Addr) (u : FrameMode) (w : World) (hc : w.cell? a = some (.int .i32 1)) (hz : w.frozen? a = false) :
    CallsD Tryz.prog 131 #[.pointer (some a)] u w fun e u' w' => u' = u ∧ (e = .returned (.tuple #[]) ∧ w' = w.setCell a (.int .i32 0)) := by
  have hd := disable
  have he := enable
  have hr := releaseMerge
  have hadd := run_call_add (P := Tryz.prog) Tryz.func159 (by kernel_rfl) (by kernel_rfl) (by kernel_rfl) .i32 (by kernel_rfl) (y := -1) (s := 0) hc hz (by simp [go_sem]; rfl)
  have hcv := run_convert_to_unsafe (P := Tryz.prog) (src := 220) (dst := 108) Tryz.underlying220 Tryz.underlying108 (by kernel_rfl) hc
  go_enter_d Tryz.func131, Tryz.ntmps131
  go_wp2
  go_end0
  go_wp2
  go_end0
  exact ⟨rfl, rfl⟩
set_option maxRecDepth 100000 in
set_option maxHeartbeats 1600000 in
theorem lock_free (a : Addr) (w : World) (hc : w.cell? a = some (.int .i32 0)) (hz : w.frozen? a = false) :
    Calls Tryz.prog 130 #[.pointer (some a)] w fun e w' => e = .returned (.tuple #[]) ∧ w' = w.setCell a (.int .i32 1) := by
  have hd := disable
  have he := enable
  have ha := acquire
  have hcas := run_call_cas_hit (P := Tryz.prog) Tryz.func154 (by kernel_rfl) (by kernel_rfl) (by kernel_rfl) .i32 (by kernel_rfl) (y := 1) hc hz
  have hc' : (w.setCell a (.int .i32 1)).cell? a = some (.int .i32 1) := World.cell?_setCell_same w a _ hc
  have hcv := run_convert_to_unsafe (P := Tryz.prog) (src := 220) (dst := 108) Tryz.underlying220 Tryz.underlying108 (by kernel_rfl) hc'
  go_enter Tryz.func130, Tryz.ntmps130
  go_wp2
  first | go_end0 | (simp only [Exit.inBlock, Exit.then]; refine bodyPost_ret (results_none rfl _ _ _) rfl ?_) | refine bodyPost_ret (results_none rfl _ _ _) rfl ?_
  go_wp2
  go_end0
  exact ⟨rfl, rfl⟩
set_option maxRecDepth 100000 in
theorem load_zero (a : Addr) (w : World) (h0 : w.cell? a = some (.int .u32 0)) :
    Calls Tryz.prog 110 #[.pointer (some a)] w fun e w' => e = .returned (.bool false) ∧ w = w' := by
  have hl := run_call_load (P := Tryz.prog) Tryz.func129 (by kernel_rfl) (by kernel_rfl) (by kernel_rfl) .u32 (by kernel_rfl) h0
  go_enter Tryz.func110, Tryz.ntmps110
  go_wp2
  go_ret
  exact ⟨rfl, rfl⟩
def Keeps (b : Nat) (W : World) : Prop := W.cell? ⟨b, 0, none⟩ = some (.int .u32 0) ∧ W.cell? ⟨b, 1, none⟩ = some (.int .i32 1) ∧ W.frozen? ⟨b, 0, none⟩ = false ∧ W.frozen? ⟨b, 1, none⟩ = false
set_option maxRecDepth 100000 in
set_option maxHeartbeats 1600000 in
theorem slow_any (b fn : Nat) (pl : Value) (R : World → Prop) (w : World) (hfn : fn = 84)
    (h0 : w.cell? ⟨b, 0, none⟩ = some (.int .u32 0)) (h1 : w.cell? ⟨b, 1, none⟩ = some (.int .i32 0)) (f0 : w.frozen? ⟨b, 0, none⟩ = false) (f1 : w.frozen? ⟨b, 1, none⟩ = false)
    (hF : Calls Tryz.prog 84 #[pl] (w.setCell ⟨b, 1, none⟩ (.int .i32 1)) fun e W => e = .returned (.tuple #[]) ∧ R W ∧ Keeps b W) :
    Calls Tryz.prog 111 #[.pointer (some ⟨b, 0, none⟩), .func (.func 84) #[pl] #[]] w fun e w' => e = .returned (.tuple #[]) ∧
      ∃ W, R W ∧ Keeps b W ∧ w' = (W.drew.setCell ⟨b, 0, none⟩ (.int .u32 1)).setCell ⟨b, 1, none⟩ (.int .i32 0) := by
  have hnot : ∀ (x : Bool) (w : World), (Op.unary .not (.bool x)).run Tryz.prog w = .ok (.bool (!x)) w := fun _ _ => rfl
  go_enter_defers Tryz.func111, Tryz.ntmps111
  go_wp2_with (first | (go_at_call 130; refine (lock_free ⟨b, 1, none⟩ _ (by go_simp) (by go_simp)).mono ?_; rintro e w' ⟨rfl, rfl⟩) | (go_at_call 110; refine (load_zero ⟨b, 0, none⟩ _ ((World.cell?_setCell_other _ ⟨b, 1, none⟩ ⟨b, 0, none⟩ _ (by simp)).trans h0)).mono ?_; rintro e w' ⟨rfl, rfl⟩) | (go_at_call 84; refine hF.mono ?_; rintro e W ⟨rfl, hR, hK⟩))
  refine leaves_cons (f := 132) (args := #[.pointer (some ⟨b, 0, none⟩), .bool true]) (by simp) (by simp [go_sem]) ?_
  refine (store_deferred ⟨b, 0, none⟩ (.int .u32 0) .returning _ hK.1 hK.2.2.1).mono ?_
  rintro e u' w'' ⟨rfl, rfl, rfl⟩
  refine leaves_cons (f := 131) (args := #[.pointer (some ⟨b, 1, none⟩)]) (by simp [settle]) (by simp [go_sem]) ?_
  refine (unlock_deferred ⟨b, 1, none⟩ _ _ ?_ ?_).mono ?_
  · refine (World.cell?_setCell_other _ ⟨b, 0, none⟩ ⟨b, 1, none⟩ _ (by simp)).trans ?_
    rw [World.cell?_drew]; exact hK.2.1
  · simp [hK.2.2.2]
  rintro e u' w'' ⟨rfl, rfl, rfl⟩
  simp [Leaves, settle, results, Tryz.results111]
  exact ⟨W, hR, hK, rfl⟩
end Go.Proofs.YtbjekebkgidhaaaGreatDoor.Rep
end
section
set_option linter.unusedVariables false
namespace Go.Proofs.YtbjekebkgidhaaaGreatDoor.Rep
set_option maxRecDepth 100000 in
set_option maxHeartbeats 1600000 in
theorem do_any (b : Nat) (pl : Value) (R : World → Prop) (w : World)
    (h0 : w.cell? ⟨b, 0, none⟩ = some (.int .u32 0)) (h1 : w.cell? ⟨b, 1, none⟩ = some (.int .i32 0)) (f0 : w.frozen? ⟨b, 0, none⟩ = false) (f1 : w.frozen? ⟨b, 1, none⟩ = false)
    (hF : Calls Tryz.prog 84 #[pl] (w.setCell ⟨b, 1, none⟩ (.int .i32 1)) fun e W => e = .returned (.tuple #[]) ∧ R W ∧ Keeps b W) :
    Calls Tryz.prog 83 #[.pointer (some ⟨b, 0, none⟩), .func (.func 84) #[pl] #[]] w fun e w' => e = .returned (.tuple #[]) ∧
      ∃ W, R W ∧ Keeps b W ∧ w' = (W.drew.setCell ⟨b, 0, none⟩ (.int .u32 1)).setCell ⟨b, 1, none⟩ (.int .i32 0) := by
  have hnot : ∀ (x : Bool) (w : World), (Op.unary .not (.bool x)).run Tryz.prog w = .ok (.bool (!x)) w := fun _ _ => rfl
  go_enter Tryz.func83, Tryz.ntmps83
  go_wp2_with (first | (go_at_call 111; refine (slow_any b _ pl R w rfl h0 h1 f0 f1 hF).mono ?_; rintro e w' ⟨rfl, hW⟩) | (go_at_call 110; refine (load_zero ⟨b, 0, none⟩ _ h0).mono ?_; rintro e w' ⟨rfl, rfl⟩))
  go_end0
  exact ⟨rfl, hW⟩
end Go.Proofs.YtbjekebkgidhaaaGreatDoor.Rep
end
section
set_option linter.unusedSimpArgs false
set_option linter.unusedVariables false
namespace Go.Proofs.YtbjekebkgidhaaaGreatDoor.Sc
open Go.RowKit Go.Lib Go.Shelf Go.Proofs.YtbjekebkgidhaaaGreatDoorW.PrintWords Go.Proofs.YtbjekebkgidhaaaGreatDoor.U Go.Proofs.YtbjekebkgidhaaaGreatDoor.Idx
def olds : Txt := [124, 58, 32, 36]
def RepCell (w : World) (c : UInt8) (v : Value) : Prop :=
  if escB c = true then ∃ a cap, v = .slice (some a) 2 cap ∧ w.cell? a = some (.int .u8 36) ∧ w.cell? (a.add 1) = some (.int .u8 (c.toNat : Int)) else v = .slice none 0 0
structure RepAt (w : World) (r : Nat) : Prop where
  cell : ∀ c : UInt8, ∃ v, w.cell? ⟨r, c.toNat, none⟩ = some v ∧ RepCell w c v
  tr : ∃ a cap, w.cell? ⟨r, 256, none⟩ = some (.slice (some a) 4 cap) ∧ ∀ i, i < 4 → w.cell? (a.add i) = some (.string (B [olds.getD i 0]))
theorem RepAt.yes {w : World} {r : Nat} (h : RepAt w r) {c : UInt8} (hc : escB c = true) : ∃ a cap, w.cell? ⟨r, c.toNat, none⟩ = some (.slice (some a) 2 cap) ∧ HoldsBytes w (.slice (some a) 2 cap) [36, c] := by
  obtain ⟨v, h1, h2⟩ := h.cell c
  unfold RepCell at h2
  rw [if_pos hc] at h2
  obtain ⟨a, cap, rfl, g0, g1⟩ := h2
  refine ⟨a, cap, h1, some a, cap, rfl, fun e => (by cases e), fun a' e i x hx => ?_⟩
  cases e
  match i with
  | 0 => obtain rfl : 36 = x := by simpa using hx
         rw [show a.add 0 = a by simp [Addr.add]]; exact g0
  | 1 => obtain rfl : c = x := by simpa using hx
         exact g1
  | i + 2 => simp at hx
theorem RepAt.no {w : World} {r : Nat} (h : RepAt w r) {c : UInt8} (hc : ¬ escB c = true) : w.cell? ⟨r, c.toNat, none⟩ = some (.slice none 0 0) := by
  obtain ⟨v, h1, h2⟩ := h.cell c
  unfold RepCell at h2
  rw [if_neg hc] at h2
  rw [h1, h2]
theorem RepAt.same {w wr : World} {r : Nat} (h : RepAt w r) (e : ∀ a, wr.cell? a = w.cell? a) : RepAt wr r := by
  refine ⟨fun c => ?_, ?_⟩
  · obtain ⟨v, h1, h2⟩ := h.cell c
    refine ⟨v, (e _).trans h1, ?_⟩
    unfold RepCell at h2 ⊢
    split
    · rename_i hc
      rw [if_pos hc] at h2
      obtain ⟨a, cap, g0, g1, g2⟩ := h2
      exact ⟨a, cap, g0, (e _).trans g1, (e _).trans g2⟩
    · rename_i hc
      rw [if_neg hc] at h2
      exact h2
  · obtain ⟨a, cap, h1, h2⟩ := h.tr
    exact ⟨a, cap, (e _).trans h1, fun i hi => (e _).trans (h2 i hi)⟩
theorem byte_at (s : Txt) (i : Nat) (c : UInt8) (hi : i < s.length) (hc : s[i] = c) : ∀ h : i < (B s).size, (((B s)[i]'h).toNat : Int) = (c.toNat : Int) := by
  intro h; subst hc; rfl
theorem countP_take (s : Txt) (i : Nat) (hi : i < s.length) (c : UInt8) (hc : s[i] = c) : (s.take (i + 1)).countP escB = (s.take i).countP escB + if escB c = true then 1 else 0 := by
  rw [List.take_succ_eq_append_getElem hi, hc, List.countP_append, List.countP_cons, List.countP_nil, Nat.zero_add]
theorem infoU8 : (Tryz.prog.info? 5).map (fun i => (i.zero, i.size, i.bytes)) = some (some (.int .u8 0), 1, 1) := by kernel_rfl
theorem i64id (x : Int) (h0 : -9223372036854775808 ≤ x) (h1 : x ≤ 9223372036854775807) : IntKind.i64.wrap x = x := by rw [Go.IntKind.wrap_i64]; omega
theorem strNums (l : Txt) : strOfNums (Lib.numsL l) = B l := by
  unfold strOfNums Lib.numsL
  rw [List.map_map]
  have : ((fun n : Int => UInt8.ofNat n.toNat) ∘ fun x : UInt8 => (x.toNat : Int)) = id := by funext x; simp
  rw [this, List.map_id]
theorem cellsU8 : Tryz.prog.cellsOf 5 = 1 := by kernel_rfl
theorem sizeU8 (w : World) : (Go.sizeOf 5).run Tryz.prog w = .ok 1 w := by
  cases hq : Tryz.prog.info? 5 with
  | none => have h := infoU8; rw [hq] at h; cases h
  | some i => rw [run_sizeOf w hq, cellsU8]
theorem Buf.drew {w0 wr : World} {h N : Nat} {acc : List UInt8} (hb : Lib.Buf w0 wr h N acc) : Lib.Buf w0 wr.drew h N acc := ⟨hb.below.drew, hb.there, hb.free, hb.holds, hb.fits⟩
theorem Buf.push {w0 wr : World} {h N : Nat} {acc : List UInt8} (hb : Lib.Buf w0 wr h N acc) (hl : acc.length < N) (x : UInt8) : Lib.Buf w0 (wr.setCell ⟨h, acc.length, none⟩ (.int .u8 (x.toNat : Int))) h N (acc ++ [x]) := by
  obtain ⟨u, hu⟩ := Option.isSome_iff_exists.1 (hb.there acc.length hl)
  refine ⟨hb.below.setCell (p := ⟨h, acc.length, none⟩) (Nat.le_refl _) _, fun j hj => ?_, fun j hj => by rw [World.frozen?_setCell]; exact hb.free j hj, fun j y hy => ?_, by simp; omega⟩
  · by_cases hja : j = acc.length
    · subst hja; rw [World.cell?_setCell_same _ _ _ hu]; rfl
    · rw [World.cell?_setCell_other _ _ _ _ (by first | (simp; done) | (simp; omega))]; exact hb.there j hj
  · by_cases hja : j < acc.length
    · rw [List.getElem?_append_left hja] at hy
      rw [World.cell?_setCell_other _ _ _ _ (by first | (simp; done) | (simp; omega))]; exact hb.holds j y hy
    · have : j = acc.length := by have := (List.getElem?_eq_some_iff.1 hy).1; simp at this; omega
      subst this
      obtain rfl : x = y := by simpa using hy
      rw [World.cell?_setCell_same _ _ _ hu]
set_option maxRecDepth 100000 in
set_option maxHeartbeats 8000000 in
theorem bsr_small (r : Nat) (s : Txt) (hs : s.length < 32) (w : World) (hR : RepAt w r) :
    Calls Tryz.prog 194 #[.pointer (some ⟨r, 0, none⟩), .string (B s)] w fun e w' => e = .returned (.string (B (escL s))) ∧ Below w.heap.size w w' := by
  obtain ⟨n, hn⟩ : ∃ n, s.length = n := ⟨_, rfl⟩
  have z1 : (B s).size = n := by rw [size_B, hn]
  have hRH := Lib.hid hR
  obtain ⟨ta, tc, htr, -⟩ := hR.tr
  have t1 : decide ((32 : Int) ≤ (n : Int)) = false := by rw [decide_eq_false_iff_not]; omega
  clear hR
  go_enter Tryz.func194, Tryz.ntmps194
  go_wp2_with fail
  go_loopg [5, 6, 10] n (fun gk s5 s6 s10 wr => ∃ (i m : Nat) (b : Bool), s10 = .int .i64 (i : Int) ∧ i + gk = n ∧ s5 = .int .i64 ((n + m : Nat) : Int) ∧ s6 = .bool b ∧ Hid (m = (s.take i).countP escB) ∧ Hid (b = decide (0 < m)) ∧ m ≤ i ∧ w = wr)
  case atStart => exact ⟨0, 0, false, rfl, Nat.zero_add _, by simp, rfl, rfl, rfl, Nat.le_refl _, rfl⟩
  case round =>
    obtain ⟨i, m, b, rfl, hik, rfl, rfl, hm, hb, hmi, rfl⟩ := hrel
    cases gk with
    | zero =>
      obtain rfl : n = i := by omega
      have hlt : decide ((n : Int) < (n : Int)) = false := by simp
      have hm' : Hid (m = s.countP escB) := by have := hm.out; rwa [List.take_of_length_le (by omega)] at this
      clear hm
      have hm := hm'
      clear hm'
      have hBel : Hid (Below w.heap.size w w) := Below.refl _ _
      cases b with
      | false =>
        have hz : s.countP escB = 0 := by have := hm.out; have := hb.out; simp at this; omega
        have hes := escL_none s hz
        have hES := Lib.hid hes
        clear hes hz
        go_wp2_with fail
        go_ret
        exact ⟨by rw [hES.out]; rfl, hBel.out⟩
      | true =>
        have hN : (escL s).length = n + m := by rw [escL_len, hn, ← hm.out]
        have hmn : m ≤ n := by have := hm.out; have := List.countP_le_length (p := escB) (l := s); omega
        obtain ⟨N, hNN⟩ : ∃ N : Nat, n + m = N := ⟨_, rfl⟩
        rw [hNN] at hN
        have hc0 : ((n : Int) + (m : Int)) = (N : Int) := by omega
        have hmk : (Instr.makeSlice 44 (.int .i64 (N : Int)) (.int .i64 (N : Int))).run Tryz.prog w = .ok (.slice (some ⟨w.heap.size, 0, none⟩) N N) (w.alloc (.cells (madeCells #[.int .u8 0] N) 5)) :=
          run_make_row' (P := Tryz.prog) 44 5 (.int .u8 0) 1 Tryz.underlying44 infoU8 rfl .i64 .i64 N (by omega) (by omega) w
        have hBuf : Hid (Lib.Buf w (w.alloc (.cells (madeCells #[.int .u8 0] N) 5)) w.heap.size N []) := by
          have := Lib.Buf.start w (madeCells #[.int .u8 0] N) 5 N 0 (by rw [size_madeCells]; simp)
          exact this
        have hNH := Lib.hid hN
        clear hN hb hm
        go_wp2_with fail
        go_loopg [13, 14] n (fun gk s13 s14 wr => ∃ i : Nat, s14 = .int .i64 (i : Int) ∧ i + gk = n ∧ s13 = .int .i64 ((escL (s.take i)).length : Int) ∧ Hid (Lib.Buf w wr w.heap.size N (escL (s.take i))))
        case atStart => exact ⟨0, rfl, Nat.zero_add _, rfl, hBuf⟩
        case round =>
          obtain ⟨i, rfl, hik, rfl, hB⟩ := hrel
          clear hBuf hmk
          cases gk with
          | zero =>
            obtain rfl : i = n := by omega
            have hlt : decide ((i : Int) < (i : Int)) = false := by simp
            rw [List.take_of_length_le (show s.length ≤ i by omega)] at hB ⊢
            have hconv := run_convert_bytes_arg (P := Tryz.prog) wr 44 5 Tryz.underlying44 Tryz.underlying5 w.heap.size 0 N N (Lib.numsL (escL s)) (by rw [Lib.numsL_length, hNH.out])
              (fun j hj => by
                have hj' : j < (escL s).length := by rw [hNH.out]; exact hj
                rw [Nat.zero_add, hB.out.holds j _ (List.getElem?_eq_getElem hj')]
                simp [Lib.numsL, List.getD_eq_getElem?_getD, hj']) 9 Tryz.underlying9
            rw [show strOfNums (Lib.numsL (escL s)) = B (escL s) from strNums _] at hconv
            go_wp2_with fail
            go_ret
            exact ⟨rfl, hBel.out.next hB.out.below⟩
          | succ gk =>
            have hin : i < s.length := by omega
            have hlt : decide ((i : Int) < (n : Int)) = true := by rw [decide_eq_true_iff]; omega
            obtain ⟨c, hc⟩ : ∃ c, s[i] = c := ⟨_, rfl⟩
            have h0 := byte_at s i c hin hc
            have htk : s.take (i + 1) = s.take i ++ [c] := by rw [List.take_succ_eq_append_getElem hin, hc]
            have hfit : (escL (s.take (i + 1))).length ≤ N := by
              have h1 : escL s = escL (s.take (i + 1)) ++ escL (s.drop (i + 1)) := by rw [← escL_app, List.take_append_drop]
              have h2 := hNH.out
              rw [h1, List.length_append] at h2
              omega
            have hesc : escL (s.take (i + 1)) = escL (s.take i) ++ escL [c] := by rw [htk, escL_app]
            rw [hesc, List.length_append] at hfit
            have hES := Lib.hid hesc
            have hc256 := c.toNat_lt
            clear hesc htk
            obtain ⟨acc, hacc⟩ : ∃ acc, escL (s.take i) = acc := ⟨_, rfl⟩
            rw [hacc] at hfit hB hES ⊢
            clear hacc
            by_cases he : escB c = true
            · obtain ⟨a, cap, g0, g1⟩ := hRH.out.yes he
              rw [escL_one, if_pos he] at hfit hES
              have hne : ∀ W, (binOp .neq 44 (.slice (some a) 2 cap) (.slice none 0 0)).run Tryz.prog W = .ok (.bool true) W := fun W => Go.run_neq_slice_nil W 44 5 (some a) 2 cap Tryz.underlying44
              have g2 : wr.cell? ⟨r, c.toNat, none⟩ = some (.slice (some a) 2 cap) := Lib.Below.cellOf hB.out.below g0 (Nat.le_refl _)
              have hsl : ∀ W, (Instr.slice 44 (.slice (some ⟨w.heap.size, 0, none⟩) N N) (some (.int .i64 (acc.length : Int))) none none).run Tryz.prog W = .ok (Lib.tailV w.heap.size N acc.length) W := fun W => Lib.run_slice_tailV W 44 5 Tryz.underlying44 sizeU8 _ N acc.length (by omega)
              obtain ⟨w2, hr2, B2⟩ := Lib.copy_part (P := Tryz.prog) w wr.drew w.heap.size N acc [36, c] (.slice (some a) 2 cap) 44 3 5 Tryz.underlying44 (by kernel_rfl) (Nat.le_refl _) (Buf.drew hB.out) g1 (by simpa using hfit)
              have g3 : w2.cell? ⟨r, c.toNat, none⟩ = some (.slice (some a) 2 cap) := Lib.Below.cellOf B2.below g0 (Nat.le_refl _)
              have HB2 := Lib.hid B2
              have hb0 : (0 : Int) ≤ (c.toNat : Int) := by omega
              have hb1 : (c.toNat : Int) < 256 := by omega
              have hb2 : (acc.length : Int) ≤ (N : Int) := by omega
              have hwr : IntKind.i64.wrap ((acc.length : Int) + 2) = (acc.length : Int) + 2 := i64id ((acc.length : Int) + 2) (by omega) (by omega)
              have hb3 : (0 : Int) ≤ (acc.length : Int) := by omega
              clear B2 g0
              have hHB := Lib.hid g1
              clear g1
              go_wp2_with fail
              go_region_held3 (fun w' => w'.cell? ⟨r, c.toNat, none⟩ = some (.slice (some a) 2 cap)) (go_keep) (first | (at_builtin; refine Lib.wp_copy_run _ _ _ 44 44 rfl _ _ rfl rfl hr2 ?_) | (refine Lib.wp_copy_run _ _ _ 44 44 rfl _ _ rfl rfl hr2 ?_))
              go_wp2_with fail
              go_roundg gk
              case measure => omega
              case rel => exact ⟨i + 1, by first | rfl | simp, by omega, by rw [hES.out]; simp, by rw [hES.out]; exact HB2⟩
            · have g0 := hRH.out.no he
              rw [escL_one, if_neg he] at hfit hES
              have hne : ∀ W, (binOp .neq 44 (.slice none 0 0) (.slice none 0 0)).run Tryz.prog W = .ok (.bool false) W := fun W => Go.run_neq_slice_nil W 44 5 none 0 0 Tryz.underlying44
              have g2 : wr.cell? ⟨r, c.toNat, none⟩ = some (.slice none 0 0) := Lib.Below.cellOf hB.out.below g0 (Nat.le_refl _)
              have hfit' : acc.length < N := by have := hfit; simp at this; omega
              obtain ⟨v0, f0⟩ := Option.isSome_iff_exists.1 (hB.out.there acc.length hfit')
              have f1 := hB.out.free acc.length hfit'
              have hlt2 : decide ((acc.length : Int) < (N : Int)) = true := by rw [decide_eq_true_iff]; omega
              have HB2 := Lib.hid (Buf.push hB.out hfit' c)
              clear g0
              go_wp2_with fail
              go_roundg gk
              case measure => omega
              case rel => exact ⟨i + 1, by first | rfl | simp, by omega, by rw [hES.out]; simp, by rw [hES.out]; exact HB2⟩
    | succ gk =>
      have hin : i < s.length := by omega
      have hlt : decide ((i : Int) < (n : Int)) = true := by rw [decide_eq_true_iff]; omega
      obtain ⟨c, hc⟩ : ∃ c, s[i] = c := ⟨_, rfl⟩
      have h0 := byte_at s i c hin hc
      have hcp := countP_take s i hin c hc
      have hc256 := c.toNat_lt
      by_cases he : escB c = true
      · obtain ⟨a, cap, g0, g1⟩ := hRH.out.yes he
        have hne : ∀ W, (binOp .neq 44 (.slice (some a) 2 cap) (.slice none 0 0)).run Tryz.prog W = .ok (.bool true) W := fun W => Go.run_neq_slice_nil W 44 5 (some a) 2 cap Tryz.underlying44
        rw [if_pos he, ← hm.out] at hcp
        have hCP := Lib.hid hcp
        clear hcp g1
        go_wp2_with fail
        go_roundg gk
        case measure => omega
        case rel => exact ⟨i + 1, m + 1, true, by first | rfl | simp, by omega, by first | rfl | (simp; done) | (congr 1; omega), rfl, hCP.out.symm, (by show true = _; simp), by omega, rfl⟩
      · have g0 := hRH.out.no he
        have hne : ∀ W, (binOp .neq 44 (.slice none 0 0) (.slice none 0 0)).run Tryz.prog W = .ok (.bool false) W := fun W => Go.run_neq_slice_nil W 44 5 none 0 0 Tryz.underlying44
        rw [if_neg he, ← hm.out] at hcp
        have hCP := Lib.hid hcp
        clear hcp
        go_wp2_with fail
        go_roundg gk
        case measure => omega
        case rel => exact ⟨i + 1, m, b, by first | rfl | simp, by omega, rfl, rfl, hCP.out.symm, hb, by omega, rfl⟩
def cntTo (s : Txt) (i : Nat) : Nat := ((olds.take i).map fun c => s.count c).sum
theorem cntTo_succ (s : Txt) (i : Nat) (hi : i < 4) : cntTo s (i + 1) = cntTo s i + s.count (olds.getD i 0) := by
  rcases (show i = 0 ∨ i = 1 ∨ i = 2 ∨ i = 3 by omega) with rfl | rfl | rfl | rfl <;> simp [cntTo, olds] <;> omega
theorem cntTo_all (s : Txt) : cntTo s 4 = s.countP escB := by rw [count4]; simp [cntTo, olds]; omega
theorem cntTo_le (s : Txt) (i : Nat) (hi : i ≤ 4) : cntTo s i ≤ s.length := by
  have h1 : cntTo s 4 ≤ s.length := by rw [cntTo_all]; exact List.countP_le_length
  have h2 : ∀ j, j < 4 → cntTo s j ≤ cntTo s (j + 1) := fun j hj => by rw [cntTo_succ s j hj]; omega
  have a0 := h2 0 (by omega)
  have a1 := h2 1 (by omega)
  have a2 := h2 2 (by omega)
  have a3 := h2 3 (by omega)
  simp only [Nat.zero_add, Nat.reduceAdd] at a0 a1 a2 a3
  rcases (show i = 0 ∨ i = 1 ∨ i = 2 ∨ i = 3 ∨ i = 4 by omega) with rfl | rfl | rfl | rfl | rfl <;> omega
theorem olds_esc (i : Nat) (hi : i < 4) : escB (olds.getD i 0) = true := by
  rcases (show i = 0 ∨ i = 1 ∨ i = 2 ∨ i = 3 by omega) with rfl | rfl | rfl | rfl <;> decide
set_option maxRecDepth 100000 in
set_option maxHeartbeats 8000000 in
theorem bsr_big (r : Nat) (s : Txt) (hs : 32 ≤ s.length) (hs2 : s.length ≤ 100000000) (w : World) (hR : RepAt w r) :
    Calls Tryz.prog 194 #[.pointer (some ⟨r, 0, none⟩), .string (B s)] w fun e w' => e = .returned (.string (B (escL s))) ∧ Below w.heap.size w w' := by
  obtain ⟨n, hn⟩ : ∃ n, s.length = n := ⟨_, rfl⟩
  have z1 : (B s).size = n := by rw [size_B, hn]
  have hRH := Lib.hid hR
  obtain ⟨ta, tc, htr, hcell⟩ := hR.tr
  have hTC := Lib.hid hcell
  have t1 : decide ((32 : Int) ≤ (n : Int)) = true := by rw [decide_eq_true_iff]; omega
  clear hR hcell
  go_enter Tryz.func194, Tryz.ntmps194
  go_wp2_with fail
  go_loopg [5, 6, 32] 4 (fun gk s5 s6 s32 wo => ∃ (i m : Nat) (b : Bool), s32 = .int .i64 (i : Int) ∧ i + gk = 4 ∧ s5 = .int .i64 ((n + m : Nat) : Int) ∧ s6 = .bool b ∧ Hid (m = cntTo s i) ∧ Hid (b = decide (0 < m)) ∧ m ≤ n ∧ Hid (∀ a, wo.cell? a = w.cell? a) ∧ Hid (Below w.heap.size w wo))
  case atStart => exact ⟨0, 0, false, rfl, rfl, by simp, rfl, rfl, rfl, Nat.zero_le _, fun _ => rfl, Below.refl _ _⟩
  case round =>
    obtain ⟨wo, hwo⟩ : ∃ x, x = wr := ⟨_, rfl⟩
    subst hwo
    obtain ⟨i, m, b, rfl, hik, rfl, rfl, hm, hb, hmi, hE, hBel⟩ := hrel
    have hRW := Lib.hid (hRH.out.same hE.out)
    clear hRH
    have hRH := hRW
    clear hRW
    cases gk with
    | zero =>
      obtain rfl : i = 4 := by omega
      have hm' : Hid (m = s.countP escB) := by have := hm.out; rwa [cntTo_all] at this
      clear hm
      have hm := hm'
      clear hm'
      cases b with
      | false =>
        have hz : s.countP escB = 0 := by have := hm.out; have := hb.out; simp at this; omega
        have hes := escL_none s hz
        have hES := Lib.hid hes
        clear hes hz
        go_wp2_with fail
        go_ret
        exact ⟨by rw [hES.out]; rfl, hBel.out⟩
      | true =>
        have hN : (escL s).length = n + m := by rw [escL_len, hn, ← hm.out]
        have hmn : m ≤ n := by have := hm.out; have := List.countP_le_length (p := escB) (l := s); omega
        obtain ⟨N, hNN⟩ : ∃ N : Nat, n + m = N := ⟨_, rfl⟩
        rw [hNN] at hN
        have hc0 : ((n : Int) + (m : Int)) = (N : Int) := by omega
        have hmk : (Instr.makeSlice 44 (.int .i64 (N : Int)) (.int .i64 (N : Int))).run Tryz.prog wo = .ok (.slice (some ⟨wo.heap.size, 0, none⟩) N N) (wo.alloc (.cells (madeCells #[.int .u8 0] N) 5)) :=
          run_make_row' (P := Tryz.prog) 44 5 (.int .u8 0) 1 Tryz.underlying44 infoU8 rfl .i64 .i64 N (by omega) (by omega) wo
        have hBuf : Hid (Lib.Buf wo (wo.alloc (.cells (madeCells #[.int .u8 0] N) 5)) wo.heap.size N []) := by
          have := Lib.Buf.start wo (madeCells #[.int .u8 0] N) 5 N 0 (by rw [size_madeCells]; simp)
          exact this
        have hNH := Lib.hid hN
        clear hN hb hm
        go_wp2_with fail
        go_loopg [13, 14] n (fun gk s13 s14 wr => ∃ i : Nat, s14 = .int .i64 (i : Int) ∧ i + gk = n ∧ s13 = .int .i64 ((escL (s.take i)).length : Int) ∧ Hid (Lib.Buf wo wr wo.heap.size N (escL (s.take i))))
        case atStart => exact ⟨0, rfl, Nat.zero_add _, rfl, hBuf⟩
        case round =>
          obtain ⟨i, rfl, hik, rfl, hB⟩ := hrel
          clear hBuf hmk
          cases gk with
          | zero =>
            obtain rfl : i = n := by omega
            have hlt : decide ((i : Int) < (i : Int)) = false := by simp
            rw [List.take_of_length_le (show s.length ≤ i by omega)] at hB ⊢
            have hconv := run_convert_bytes_arg (P := Tryz.prog) wr 44 5 Tryz.underlying44 Tryz.underlying5 wo.heap.size 0 N N (Lib.numsL (escL s)) (by rw [Lib.numsL_length, hNH.out])
              (fun j hj => by
                have hj' : j < (escL s).length := by rw [hNH.out]; exact hj
                rw [Nat.zero_add, hB.out.holds j _ (List.getElem?_eq_getElem hj')]
                simp [Lib.numsL, List.getD_eq_getElem?_getD, hj']) 9 Tryz.underlying9
            rw [show strOfNums (Lib.numsL (escL s)) = B (escL s) from strNums _] at hconv
            go_wp2_with fail
            go_ret
            exact ⟨rfl, hBel.out.next hB.out.below⟩
          | succ gk =>
            have hin : i < s.length := by omega
            have hlt : decide ((i : Int) < (n : Int)) = true := by rw [decide_eq_true_iff]; omega
            obtain ⟨c, hc⟩ : ∃ c, s[i] = c := ⟨_, rfl⟩
            have h0 := byte_at s i c hin hc
            have htk : s.take (i + 1) = s.take i ++ [c] := by rw [List.take_succ_eq_append_getElem hin, hc]
            have hfit : (escL (s.take (i + 1))).length ≤ N := by
              have h1 : escL s = escL (s.take (i + 1)) ++ escL (s.drop (i + 1)) := by rw [← escL_app, List.take_append_drop]
              have h2 := hNH.out
              rw [h1, List.length_append] at h2
              omega
            have hesc : escL (s.take (i + 1)) = escL (s.take i) ++ escL [c] := by rw [htk, escL_app]
            rw [hesc, List.length_append] at hfit
            have hES := Lib.hid hesc
            have hc256 := c.toNat_lt
            clear hesc htk
            obtain ⟨acc, hacc⟩ : ∃ acc, escL (s.take i) = acc := ⟨_, rfl⟩
            rw [hacc] at hfit hB hES ⊢
            clear hacc
            by_cases he : escB c = true
            · obtain ⟨a, cap, g0, g1⟩ := hRH.out.yes he
              rw [escL_one, if_pos he] at hfit hES
              have hne : ∀ W, (binOp .neq 44 (.slice (some a) 2 cap) (.slice none 0 0)).run Tryz.prog W = .ok (.bool true) W := fun W => Go.run_neq_slice_nil W 44 5 (some a) 2 cap Tryz.underlying44
              have g2 : wr.cell? ⟨r, c.toNat, none⟩ = some (.slice (some a) 2 cap) := Lib.Below.cellOf hB.out.below g0 (Nat.le_refl _)
              have hsl : ∀ W, (Instr.slice 44 (.slice (some ⟨wo.heap.size, 0, none⟩) N N) (some (.int .i64 (acc.length : Int))) none none).run Tryz.prog W = .ok (Lib.tailV wo.heap.size N acc.length) W := fun W => Lib.run_slice_tailV W 44 5 Tryz.underlying44 sizeU8 _ N acc.length (by omega)
              obtain ⟨w2, hr2, B2⟩ := Lib.copy_part (P := Tryz.prog) wo wr.drew wo.heap.size N acc [36, c] (.slice (some a) 2 cap) 44 3 5 Tryz.underlying44 (by kernel_rfl) (Nat.le_refl _) (Buf.drew hB.out) g1 (by simpa using hfit)
              have g3 : w2.cell? ⟨r, c.toNat, none⟩ = some (.slice (some a) 2 cap) := Lib.Below.cellOf B2.below g0 (Nat.le_refl _)
              have HB2 := Lib.hid B2
              have hb0 : (0 : Int) ≤ (c.toNat : Int) := by omega
              have hb1 : (c.toNat : Int) < 256 := by omega
              have hb2 : (acc.length : Int) ≤ (N : Int) := by omega
              have hwr : IntKind.i64.wrap ((acc.length : Int) + 2) = (acc.length : Int) + 2 := i64id ((acc.length : Int) + 2) (by omega) (by omega)
              have hb3 : (0 : Int) ≤ (acc.length : Int) := by omega
              clear B2 g0
              have hHB := Lib.hid g1
              clear g1
              go_wp2_with fail
              go_region_held3 (fun wo' => wo'.cell? ⟨r, c.toNat, none⟩ = some (.slice (some a) 2 cap)) (go_keep) (first | (at_builtin; refine Lib.wp_copy_run _ _ _ 44 44 rfl _ _ rfl rfl hr2 ?_) | (refine Lib.wp_copy_run _ _ _ 44 44 rfl _ _ rfl rfl hr2 ?_))
              go_wp2_with fail
              go_roundg gk
              case measure => omega
              case rel => exact ⟨i + 1, by first | rfl | simp, by omega, by rw [hES.out]; simp, by rw [hES.out]; exact HB2⟩
            · have g0 := hRH.out.no he
              rw [escL_one, if_neg he] at hfit hES
              have hne : ∀ W, (binOp .neq 44 (.slice none 0 0) (.slice none 0 0)).run Tryz.prog W = .ok (.bool false) W := fun W => Go.run_neq_slice_nil W 44 5 none 0 0 Tryz.underlying44
              have g2 : wr.cell? ⟨r, c.toNat, none⟩ = some (.slice none 0 0) := Lib.Below.cellOf hB.out.below g0 (Nat.le_refl _)
              have hfit' : acc.length < N := by have := hfit; simp at this; omega
              obtain ⟨v0, f0⟩ := Option.isSome_iff_exists.1 (hB.out.there acc.length hfit')
              have f1 := hB.out.free acc.length hfit'
              have hlt2 : decide ((acc.length : Int) < (N : Int)) = true := by rw [decide_eq_true_iff]; omega
              have HB2 := Lib.hid (Buf.push hB.out hfit' c)
              clear g0
              go_wp2_with fail
              go_roundg gk
              case measure => omega
              case rel => exact ⟨i + 1, by first | rfl | simp, by omega, by rw [hES.out]; simp, by rw [hES.out]; exact HB2⟩
    | succ gk =>
      have hi4 : i < 4 := by omega
      have hlt : decide ((i : Int) < 4) = true := by rw [decide_eq_true_iff]; omega
      have hi0 : (0 : Int) ≤ (i : Int) := by omega
      have hi1 : (i : Int) < 4 := by omega
      obtain ⟨c, hc⟩ : ∃ c, olds.getD i 0 = c := ⟨_, rfl⟩
      have he := olds_esc i hi4
      have hcell := (hE.out _).trans (hTC.out i hi4)
      have hcn := cntTo_succ s i hi4
      have hle := cntTo_le s (i + 1) hi4
      rw [hc] at he hcell hcn
      rw [hcn, ← hm.out, hn] at hle
      rw [← hm.out] at hcn
      have hCN := Lib.hid hcn
      have hCt := Lib.hid (fun W => Tryz.strings_Count_one (B s) c W)
      have ecb : Lib.countByte (B s).data.toList c = s.count c := rfl
      rw [ecb] at hCt
      have hbc : (⟨#[c]⟩ : ByteArray) = B [c] := rfl
      rw [hbc] at hCt
      obtain ⟨q, hq⟩ : ∃ q, s.count c = q := ⟨_, rfl⟩
      rw [hq] at hCt hCN hle
      obtain ⟨a, cap, g0, g1⟩ := hRH.out.yes he
      have hc256 := c.toNat_lt
      have hb0 : (0 : Int) ≤ (c.toNat : Int) := by omega
      have hb1 : (c.toNat : Int) < 256 := by omega
      have h0 : ∀ h : 0 < (B [c]).size, (((B [c])[0]'h).toNat : Int) = (c.toNat : Int) := fun h => rfl
      have hsz1 : (B [c]).size = 1 := rfl
      have htr2 := (hE.out _).trans htr
      clear hcn ecb hbc hc he hq g1
      go_wp2_with fail
      refine (hCt.out _).mono ?_
      rintro e w1 ⟨rfl, rfl⟩
      cases q with
      | zero =>
        go_wp2_with fail
        go_roundg gk
        case measure => omega
        case rel => exact ⟨i + 1, m, b, by first | rfl | simp, by omega, rfl, rfl, hCN.out.symm, hb, by omega, hE, hBel⟩
      | succ q =>
        have hq0 : ((((q + 1 : Nat) : Int)) == 0) = false := by rw [beq_eq_false_iff_ne]; omega
        have hq1 : ((((q + 1 : Nat) : Int)) != 0) = true := by rw [bne_iff_ne]; omega
        have hw0 : IntKind.i64.wrap 1 = 1 := i64id 1 (by decide) (by decide)
        have hw1 : IntKind.i64.wrap ((q : Int) + 1) = (q : Int) + 1 := i64id ((q : Int) + 1) (by omega) (by omega)
        have hw2 : IntKind.i64.wrap ((n : Int) + (m : Int) + ((q : Int) + 1)) = (n : Int) + (m : Int) + ((q : Int) + 1) := i64id ((n : Int) + (m : Int) + ((q : Int) + 1)) (by omega) (by omega)
        go_wp2_with fail
        go_region_held3 (fun w' => w'.cell? ⟨r, c.toNat, none⟩ = some (.slice (some a) 2 cap)) (go_keep) (fail)
        go_wp2_with fail
        go_roundg gk
        case measure => omega
        case rel => exact ⟨i + 1, m + (q + 1), true, by first | rfl | simp, by omega, by first | rfl | (simp; done) | (congr 1; omega) | (congr 1; push_cast; omega), rfl, hCN.out.symm, (by show true = _; symm; rw [decide_eq_true_iff]; omega), by omega, hE, hBel.out.drew⟩
end Go.Proofs.YtbjekebkgidhaaaGreatDoor.Sc
end
section
set_option linter.unusedSimpArgs false
set_option linter.unusedVariables false
namespace Go.Proofs.YtbjekebkgidhaaaGreatDoor.Rep
open Go.RowKit Go.Lib Go.Shelf Go.Proofs.YtbjekebkgidhaaaGreatDoorW.PrintWords Go.Proofs.YtbjekebkgidhaaaGreatDoor.U
abbrev Txt := List UInt8
def pairs : List Txt := [[36], [36, 36], [32], [36, 32], [58], [36, 58], [124], [36, 124]]
theorem infoStr : (Tryz.prog.info? 9).map (fun i => (i.zero, i.size, i.bytes)) = some (some (.string ⟨#[]⟩), 1, 16) := by kernel_rfl
def RowAt (w : World) (g : Nat) : Prop := ∃ cur, w.heap[g]? = some (.cells cur 9 (0, 0)) ∧ cur.toList.take 8 = pairs.map fun t => Value.string (B t)
theorem RowAt.same {w w' : World} {g : Nat} (h : RowAt w g) (e : w'.heap[g]? = w.heap[g]?) : RowAt w' g := by
  obtain ⟨cur, h1, h2⟩ := h
  exact ⟨cur, e.trans h1, h2⟩
theorem RowAt.lt {w : World} {g : Nat} (h : RowAt w g) : g < w.heap.size := by
  obtain ⟨cur, h1, h2⟩ := h
  exact (Array.getElem?_eq_some_iff.1 h1).1
theorem RowAt.cell {w : World} {g : Nat} (h : RowAt w g) (i : Nat) (hi : i < 8) : w.cell? ⟨g, i, none⟩ = some (.string (B (pairs.getD i []))) := by
  obtain ⟨cur, h1, h2⟩ := h
  rw [cell_of_heap h1]
  have h3 : (cur.toList.take 8)[i]? = some (.string (B (pairs.getD i []))) := by
    rw [h2, List.getElem?_map, List.getD_eq_getElem?_getD, List.getElem?_eq_getElem (show i < pairs.length from hi)]; rfl
  rw [List.getElem?_take_of_lt hi] at h3
  simpa using h3
theorem reps_str {R : ByteArray → List Value → Prop} (hR : ∀ x c, R x c → c = [Value.string x]) : ∀ (ps : List ByteArray) (cs : List Value), Reps R 1 ps cs → cs = ps.map Value.string := by
  intro ps cs h
  refine List.ext_getElem? fun j => ?_
  have hl := h.1
  rw [Nat.mul_one] at hl
  by_cases hj : j < ps.length
  · have h1 := hR _ _ (h.2 j _ (List.getElem?_eq_getElem hj))
    rw [Nat.mul_one] at h1
    have h2 : ((cs.drop j).take 1)[0]? = some (.string ps[j]) := by rw [h1]; rfl
    rw [List.getElem?_take_of_lt (by omega), List.getElem?_drop, Nat.add_zero] at h2
    rw [h2, List.getElem?_map, List.getElem?_eq_getElem hj]; rfl
  · rw [List.getElem?_eq_none (by omega), List.getElem?_eq_none (by simp; omega)]
structure Fresh (w : World) (b g q n : Nat) : Prop where
  blk : w.heap[b]? = some (.cells #[.int .u32 0, .int .i32 n, .int .u32 0, .nilIface, .slice (some ⟨g, 0, none⟩) 8 q] 147 (0, 0))
  row : RowAt w g
  ne : g ≠ b
def NewPost (w : World) (e : Ending) (w' : World) : Prop := ∃ b g q, e = .returned (.pointer (some ⟨b, 0, none⟩)) ∧ w.heap.size ≤ b ∧ Fresh w' b g q 0 ∧ Below w.heap.size w w'
set_option maxRecDepth 100000 in
set_option maxHeartbeats 4000000 in
theorem NewReplacer_any (A : Option Addr) (c : Nat) (w : World) (hC : Kd.C Kd.string w A 8 (pairs.map B)) :
    Calls Tryz.prog 57 #[.slice A 8 c] w (NewPost w) := by
  have hCH := Lib.hid hC
  clear hC
  go_enter Tryz.func57, Tryz.ntmps57
  go_wp2_with (at_builtin; refine Kd.R_append_row (w0 := w) Value.string ByteArray.empty (h1 := fun _ => rfl) w.heap.size rfl _ _ 23 9 (.string ⟨#[]⟩) 16 rfl Tryz.underlying23 infoStr rfl (by decide) _ [] (pairs.map B) A 8 c (fun _ => True) rfl rfl (fun _ _ => trivial) (Kd.R_nil _ _ _ _ _) hCH.out (Below.refl _ w) (Nat.le_refl _) (by decide) ?_)
  intro v1 w1 hR hb1 _ _
  have hR1 := hR
  obtain ⟨_, inner, hown, hreps⟩ := hR1
  have hin := reps_str (fun _ _ h => h) _ _ hreps
  rcases hown.2 with ⟨_, h0⟩ | ⟨g, cap, cur, rfl, hg, hh, _, _, _, htk⟩
  · exact absurd h0 (by simp [pairs])
  have hrow : Hid (RowAt w1 g) := ⟨cur, hh, by
    rw [hin] at htk
    exact htk⟩
  have hB1 := Lib.hid hb1
  have hG := Lib.hid hg
  clear hR hb1 hown hreps hin hh htk hg
  go_wp2_with fail
  go_ret
  have hsz := hB1.out.size
  have hgl := hrow.out.lt
  exact ⟨w1.heap.size, g, cap, rfl, hsz, ⟨heap_alloc_new w1 _, hrow.out.same (Below.heap_alloc _ _ _ hgl), by omega⟩, hB1.out.alloc hsz _⟩
end Go.Proofs.YtbjekebkgidhaaaGreatDoor.Rep
end
section
set_option linter.unusedSimpArgs false
set_option linter.unusedVariables false
namespace Go.Proofs.YtbjekebkgidhaaaGreatDoor.Rep
open Go.RowKit Go.Lib Go.Shelf Go.Proofs.YtbjekebkgidhaaaGreatDoorW.PrintWords Go.Proofs.YtbjekebkgidhaaaGreatDoor.U Go.Proofs.YtbjekebkgidhaaaGreatDoor.Sc
def BuildPost (w : World) (e : Ending) (w' : World) : Prop := ∃ r, e = .returned (.iface 196 (.pointer (some ⟨r, 0, none⟩))) ∧ w.heap.size ≤ r ∧ RepAt w' r ∧ Below w.heap.size w w'
theorem four {i : Nat} (h : i < 4) : i = 0 ∨ i = 1 ∨ i = 2 ∨ i = 3 := by omega
theorem make4 (w : World) : (Instr.makeSlice 23 (.int .i64 0) (.int .i64 4)).run Tryz.prog w = .ok (.slice (some ⟨w.heap.size, 0, none⟩) 0 4) (w.alloc (.cells (madeCells #[.string ⟨#[]⟩] 4) 9)) := by
  obtain ⟨i, hi, hzz⟩ := Option.map_eq_some_iff.1 infoStr
  simp only [Prod.mk.injEq] at hzz
  obtain ⟨hz, hs, hb⟩ := hzz
  have h := run_make (P := Tryz.prog) w 23 9 i (.string ⟨#[]⟩) Tryz.underlying23 hi hz .i64 .i64 0 4 (by decide) (by decide) (by rw [hb]; decide) (by decide)
  rw [hs] at h
  exact h
theorem zero115 : Tryz.zeroCells195 = Array.replicate 257 (.slice none 0 0) := by kernel_rfl
def RepYes (W : World) (c : UInt8) (v : Value) : Prop := ∃ x cap xs fr, v = .slice (some ⟨x, 0, none⟩) 2 cap ∧ W.heap[x]? = some (.cells xs 5 fr) ∧ xs[0]? = some (.int .u8 36) ∧ xs[1]? = some (.int .u8 (c.toNat : Int))
theorem RepYes.same {W W' : World} {c : UInt8} {v : Value} (h : RepYes W c v) (e : ∀ (x : Nat) (xs : Array Value) (fr : Nat × Nat), W.heap[x]? = some (Obj.cells xs 5 fr) → W'.heap[x]? = W.heap[x]?) : RepYes W' c v := by
  obtain ⟨x, cap, xs, fr, h1, h2, h3, h4⟩ := h
  exact ⟨x, cap, xs, fr, h1, (e x xs fr h2).trans h2, h3, h4⟩
structure BInv (w0 : World) (k : Nat) (cs : Array Value) (T : Value) (W : World) : Prop where
  bel : Below w0.heap.size w0 W
  blk : W.heap[w0.heap.size + 1]? = some (.cells cs 195 (0, 0))
  size : cs.size = 257
  tr : cs[256]? = some T
  own : W.ownsRow w0.heap.size 9 1 T k ((olds.take k).map fun c => .string (B [c]))
  yes : ∀ c : UInt8, c ∈ olds.take k → ∃ v, cs[c.toNat]? = some v ∧ RepYes W c v
  no : ∀ c : UInt8, c ∉ olds.take k → cs[c.toNat]? = some (.slice none 0 0)
theorem ne_type {W : World} {x y : Nat} {xs ys : Array Value} {t u : TypeId} {fr fr' : Nat × Nat} (h : W.heap[x]? = some (.cells xs t fr)) (h' : W.heap[y]? = some (.cells ys u fr')) (hne : t ≠ u) : x ≠ y := by
  rintro rfl
  rw [h] at h'
  injection h' with h'
  injection h' with _ h2 _
  exact hne h2
theorem first (w : World) (m4 : Array Value) (hm : m4.size = 4) :
    ∃ W cs, (storeCells ⟨w.heap.size + 1, 0, none⟩ (Tryz.zeroCells195.toList.set 256 (.slice (some ⟨w.heap.size, 0, none⟩) 0 4))).run Tryz.prog ((w.alloc (.cells m4 9)).alloc (.cells Tryz.zeroCells195 195)) = .ok () W ∧
      BInv w 0 cs (.slice (some ⟨w.heap.size, 0, none⟩) 0 4) W := by
  rw [zero115]
  obtain ⟨n, hn⟩ : ∃ n, n = 257 := ⟨_, rfl⟩
  rw [← hn]
  have h0 : ((w.alloc (.cells m4 9)).alloc (.cells (Array.replicate n (.slice none 0 0)) 195)).heap[w.heap.size + 1]? = some (.cells (Array.replicate n (.slice none 0 0)) 195 (0, 0)) := by
    have := heap_alloc_new (w.alloc (.cells m4 9)) (.cells (Array.replicate n (.slice none 0 0)) 195)
    rwa [show (w.alloc (.cells m4 9)).heap.size = w.heap.size + 1 by simp] at this
  have hr := run_storeCells_from (P := Tryz.prog) (w.heap.size + 1) 195 ((Array.replicate n (Value.slice none 0 0)).toList.set 256 (.slice (some ⟨w.heap.size, 0, none⟩) 0 4)) 0 _ _ h0 (by simp)
    (fun v hv => by
      rcases List.mem_or_eq_of_mem_set hv with h | h
      · have : v = .slice none 0 0 := by
          rw [Array.toList_replicate] at h
          exact List.eq_of_mem_replicate h
        rw [this]; rfl
      · rw [h]; rfl)
  rw [List.take_zero, List.nil_append] at hr
  refine ⟨_, _, hr, ?_, setRow_heap _ _ _ _ _ _ h0, by rw [List.size_toArray, List.length_set, Array.length_toList, Array.size_replicate, hn], ?_, ?_, fun c hc => by simp at hc, fun c _ => ?_⟩
  · exact below_setRow (((Below.refl _ w).alloc (Nat.le_refl _) _).alloc (by simp) _) (by omega) _
  · rw [List.getElem?_toArray, List.getElem?_set_self (by rw [Array.length_toList, Array.size_replicate]; omega)]
  · refine ⟨by simp, .inr ⟨w.heap.size, 4, m4, rfl, Nat.le_refl _, ?_, by decide, by decide, by rw [hm], by simp⟩⟩
    rw [setRow_other _ _ _ _ (by omega)]
    exact (Below.heap_alloc _ _ _ (by simp)).trans (heap_alloc_new w _)
  · have hc := c.toNat_lt
    rw [List.getElem?_toArray, List.getElem?_set_ne (by omega), Array.toList_replicate, List.getElem?_replicate, if_pos (by omega)]
theorem pairs_at (k : Nat) (hk : k < 4) : pairs.getD (6 - 2 * k) [] = [olds.getD k 0] ∧ pairs.getD (6 - 2 * k + 1) [] = [36, olds.getD k 0] := by
  rcases four hk with rfl | rfl | rfl | rfl <;> exact ⟨rfl, rfl⟩
theorem olds_new (k : Nat) (hk : k < 4) : olds.getD k 0 ∉ olds.take k := by
  rcases four hk with rfl | rfl | rfl | rfl <;> decide
theorem heap_set {w : World} {b : Nat} {cs : Array Value} {t : TypeId} (h : w.heap[b]? = some (.cells cs t (0, 0))) (j : Nat) (v : Value) : (w.setCell ⟨b, j, none⟩ v).heap[b]? = some (.cells (cs.setIfInBounds j v) t (0, 0)) := by
  have hlt := (Array.getElem?_eq_some_iff.1 h).1
  have h' : w.heap[b] = .cells cs t (0, 0) := by simpa [Array.getElem?_eq_getElem hlt] using h
  show (w.heap.modify b _)[b]? = _
  rw [Array.getElem?_eq_getElem (by simpa using hlt), Array.getElem_modify_self, h']
  rfl
theorem bytes_below (w : World) (e : TypeId) (s : ByteArray) : Below w.heap.size w (Lib.bytesWorld w e s) :=
  ⟨rfl, rfl, rfl, by rw [Lib.bytesWorld_size]; omega, fun k hk => Lib.bytesWorld_at_old w e s k hk⟩
theorem BInv.next {w0 : World} {k : Nat} {cs : Array Value} {T : Value} {W : World} (h : BInv w0 k cs T W) (hk : k < 4) {c : UInt8} (hc : olds.getD k 0 = c) {o : Obj} {v1 : Value} {w1 : World}
    (hown : w1.ownsRow w0.heap.size 9 1 v1 (k + 1) ((olds.take k).map (fun c => Value.string (B [c])) ++ [.string (B [c])])) (hb : Below w0.heap.size w0 w1) (hg : (W.alloc o).grownBy w1 T.ownBlock) :
    w1.heap[w0.heap.size + 1]? = some (.cells cs 195 (0, 0)) ∧
    ∀ w2 w3, w2 = w1.setCell ⟨w0.heap.size + 1, 256, none⟩ v1 → w3 = Lib.bytesWorld w2 5 (B [36, c]) →
      w3.heap[w0.heap.size + 1]? = some (.cells (cs.setIfInBounds 256 v1) 195 (0, 0)) ∧
      ∀ cap, BInv w0 (k + 1) ((cs.setIfInBounds 256 v1).setIfInBounds c.toNat (.slice (some ⟨w2.heap.size, 0, none⟩) 2 cap)) v1 (w3.setCell ⟨w0.heap.size + 1, c.toNat, none⟩ (.slice (some ⟨w2.heap.size, 0, none⟩) 2 cap)) := by
  have hlt : w0.heap.size + 1 < W.heap.size := (Array.getElem?_eq_some_iff.1 h.blk).1
  have hne : some (w0.heap.size + 1) ≠ T.ownBlock := by
    intro e
    obtain ⟨cells, hcl⟩ := own_typed h.own _ e.symm
    exact ne_type h.blk hcl (by decide) rfl
  have hW1 : w1.heap[w0.heap.size + 1]? = some (.cells cs 195 (0, 0)) :=
    (hg.block _ (by simp; omega) hne).trans ((Below.heap_alloc _ _ _ hlt).trans h.blk)
  refine ⟨hW1, ?_⟩
  intro w2 w3 e2 e3
  have hlt1 := (Array.getElem?_eq_some_iff.1 hW1).1
  have hs2 : w2.heap.size = w1.heap.size := by rw [e2]; exact World.size_setCell _ _ _
  have hW2 : w2.heap[w0.heap.size + 1]? = some (.cells (cs.setIfInBounds 256 v1) 195 (0, 0)) := by rw [e2]; exact heap_set hW1 256 v1
  have hb23 : Below w2.heap.size w2 w3 := by rw [e3]; exact bytes_below _ _ _
  have hW3 : w3.heap[w0.heap.size + 1]? = some (.cells (cs.setIfInBounds 256 v1) 195 (0, 0)) := (hb23.block _ (by omega)).trans hW2
  refine ⟨hW3, ?_⟩
  intro cap
  have hc256 := c.toNat_lt
  have htk : olds.take (k + 1) = olds.take k ++ [c] := by rcases four hk with rfl | rfl | rfl | rfl <;> (subst hc; rfl)
  have hnew : c ∉ olds.take k := by rw [← hc]; exact olds_new k hk
  have own2 : w2.ownsRow w0.heap.size 9 1 v1 (k + 1) ((olds.take (k + 1)).map fun c => .string (B [c])) := by
    rw [htk, List.map_append, e2]
    exact own_setCell hown (own_ne hown hW1 (by decide)) v1
  have own3 := pw_own_below own2 hb23
  have keep : ∀ (x : Nat) (xs : Array Value) (fr : Nat × Nat), W.heap[x]? = some (Obj.cells xs 5 fr) → (w3.setCell ⟨w0.heap.size + 1, c.toNat, none⟩ (.slice (some ⟨w2.heap.size, 0, none⟩) 2 cap)).heap[x]? = W.heap[x]? := by
    intro x xs fr hx
    have hxl := (Array.getElem?_eq_some_iff.1 hx).1
    have hx1 : x ≠ w0.heap.size + 1 := ne_type hx h.blk (by decide)
    have hxT : some x ≠ T.ownBlock := by
      intro e
      obtain ⟨cells, hcl⟩ := own_typed h.own _ e.symm
      exact ne_type hx hcl (by decide) rfl
    have hx2 : x < w2.heap.size := by
      have := hg.size
      simp at this
      omega
    rw [Below.heap_setCell _ _ _ _ hx1, hb23.block _ hx2, e2, Below.heap_setCell _ _ _ _ hx1]
    exact (hg.block _ (by simp; omega) hxT).trans (Below.heap_alloc _ _ _ hxl)
  refine ⟨?_, heap_set hW3 _ _, by simp [h.size], ?_, own_setCell own3 (own_ne own3 hW3 (by decide)) _, fun c' hc' => ?_, fun c' hc' => ?_⟩
  · have hb2 : Below w0.heap.size w0 w2 := by rw [e2]; exact hb.setCell (p := ⟨w0.heap.size + 1, 256, none⟩) (by show w0.heap.size ≤ w0.heap.size + 1; omega) v1
    exact (hb2.next hb23).setCell (p := ⟨w0.heap.size + 1, c.toNat, none⟩) (by show w0.heap.size ≤ w0.heap.size + 1; omega) _
  · rw [Array.getElem?_setIfInBounds_ne (by omega), Array.getElem?_setIfInBounds_self_of_lt (by rw [h.size]; omega)]
  · rw [htk, List.mem_append] at hc'
    by_cases hcc : c' = c
    · subst hcc
      refine ⟨_, Array.getElem?_setIfInBounds_self_of_lt (by simp [h.size]; omega), w2.heap.size, cap, Lib.bytesCells w2 5 (B [36, c']), ((Lib.bytesCells w2 5 (B [36, c'])).size, (Lib.bytesCells w2 5 (B [36, c'])).size + 1), rfl, ?_, ?_, ?_⟩
      · rw [Below.heap_setCell _ _ _ _ (show w2.heap.size ≠ w0.heap.size + 1 by omega), e3]
        exact Lib.bytesWorld_at_new w2 5 (B [36, c'])
      · unfold Lib.bytesCells; rw [Array.getElem?_append_left (by simp [B]), Array.getElem?_map]; rfl
      · unfold Lib.bytesCells; rw [Array.getElem?_append_left (by simp [B]), Array.getElem?_map]; rfl
    · have hin : c' ∈ olds.take k := hc'.resolve_right (fun h1 => hcc (by simpa using h1))
      obtain ⟨v, g1, g2⟩ := h.yes c' hin
      have hc'256 := c'.toNat_lt
      refine ⟨v, ?_, g2.same keep⟩
      rw [Array.getElem?_setIfInBounds_ne (fun e => hcc (UInt8.toNat_inj.1 e.symm)), Array.getElem?_setIfInBounds_ne (by omega)]
      exact g1
  · rw [htk, List.mem_append, not_or] at hc'
    have hcc : c' ≠ c := by simpa using hc'.2
    have hc'256 := c'.toNat_lt
    rw [Array.getElem?_setIfInBounds_ne (fun e => hcc (UInt8.toNat_inj.1 e.symm)), Array.getElem?_setIfInBounds_ne (by omega)]
    exact h.no c' hc'.1
theorem BInv.done {w0 : World} {cs : Array Value} {T : Value} {W : World} (h : BInv w0 4 cs T W) : RepAt W (w0.heap.size + 1) := by
  refine ⟨fun c => ?_, ?_⟩
  · have hmem : escB c = true ↔ c ∈ olds.take 4 := by rw [escB_iff]; simp [olds]
    by_cases he : escB c = true
    · obtain ⟨v, g1, x, cap, xs, fr, rfl, g2, g3, g4⟩ := h.yes c (hmem.1 he)
      refine ⟨_, (cell_of_heap h.blk _).trans g1, ?_⟩
      unfold RepCell
      rw [if_pos he]
      exact ⟨⟨x, 0, none⟩, cap, rfl, by simp [World.cell?, g2, g3], by simp [World.cell?, Addr.add, g2, g4]⟩
    · refine ⟨_, (cell_of_heap h.blk _).trans (h.no c (fun e => he (hmem.2 e))), ?_⟩
      unfold RepCell
      rw [if_neg he]
  · rcases h.own.2 with ⟨_, h0⟩ | ⟨x, cap, cur, hT, _, hh, _, _, _, htk⟩
    · exact absurd h0 (by decide)
    · refine ⟨⟨x, 0, none⟩, cap, by rw [cell_of_heap h.blk, h.tr, hT], fun i hi => ?_⟩
      have ha : (⟨x, 0, none⟩ : Addr).add i = ⟨x, i, none⟩ := by unfold Addr.add; by_cases hq : i = 0 <;> simp [hq]
      rw [ha, cell_of_heap hh]
      have h3 : (cur.toList.take (4 * 1))[i]? = some (.string (B [olds.getD i 0])) := by
        rw [htk]; rcases four hi with rfl | rfl | rfl | rfl <;> rfl
      rw [List.getElem?_take_of_lt (by omega)] at h3
      simpa using h3
set_option maxRecDepth 100000 in
set_option maxHeartbeats 4000000 in
theorem build_any (b g q : Nat) (w : World) (hF : Fresh w b g q 1) :
    Calls Tryz.prog 112 #[.pointer (some ⟨b, 0, none⟩)] w (BuildPost w) := by
  obtain ⟨hblk, hrow, hne⟩ := hF
  have hR := Lib.hid hrow
  have b2 : w.cell? ⟨b, 4, none⟩ = some (.slice (some ⟨g, 0, none⟩) 8 q) := by rw [cell_of_heap hblk]; rfl
  clear hrow hblk hne
  go_enter Tryz.func112, Tryz.ntmps112
  go_wp2_with fail
  go_loopg [4, 5] 4 (fun gk s4 s5 wr => ∃ i : Nat, s5 = .int .i64 ((2 * i : Nat) : Int) ∧ i + gk = 4 ∧ s4 = .bool (decide (i = 0)) ∧ w = wr)
  case atStart => exact ⟨0, rfl, rfl, rfl, rfl⟩
  case round =>
    obtain ⟨i, rfl, hik, rfl, rfl⟩ := hrel
    cases gk with
    | zero =>
      obtain rfl : i = 4 := by omega
      have hmk := make4 w
      have hm4 : (madeCells #[.string ⟨#[]⟩] 4).size = 4 := by rw [size_madeCells]
      generalize madeCells #[.string ⟨#[]⟩] 4 = m4 at hmk hm4
      obtain ⟨W2, cs2, hst, hI2⟩ := first w m4 hm4
      have HI2 := Lib.hid hI2
      clear hI2 hm4
      go_wp2_with fail
      go_loopg [12] 4 (fun gk s12 wr => ∃ (k : Nat) (cs : Array Value) (T : Value), s12 = .int .i64 (6 - 2 * (k : Int)) ∧ k + gk = 4 ∧ Hid (BInv w k cs T wr))
      case atStart => exact ⟨0, cs2, _, rfl, rfl, HI2⟩
      case round =>
        obtain ⟨k, cs, T, rfl, hk4, hI⟩ := hrel
        clear hmk hst HI2
        cases gk with
        | zero =>
          obtain rfl : k = 4 := by omega
          go_wp2_with fail
          go_ret
          exact ⟨w.heap.size + 1, rfl, by omega, hI.out.done, hI.out.bel⟩
        | succ gk =>
          have hk : k < 4 := by omega
          obtain ⟨p, hp⟩ : ∃ p, 6 - 2 * k = p := ⟨_, rfl⟩
          have hpk : (6 - 2 * (k : Int)) = (p : Int) := by omega
          have hp8 : p + 1 < 8 := by omega
          obtain ⟨e0, e1⟩ := pairs_at k hk
          obtain ⟨c, hc⟩ : ∃ c, olds.getD k 0 = c := ⟨_, rfl⟩
          rw [hp, hc] at e0 e1
          have hnew := olds_new k hk
          rw [hc] at hnew
          have hgl := hR.out.lt
          have c0 : wr.cell? ⟨g, p, none⟩ = some (.string (B [c])) := by rw [hI.out.bel.cell hgl, hR.out.cell p (by omega), e0]
          have c1 : wr.cell? ⟨g, p + 1, none⟩ = some (.string (B [36, c])) := by rw [hI.out.bel.cell hgl, hR.out.cell (p + 1) hp8, e1]
          have hc256 := c.toNat_lt
          have c2 : wr.cell? ⟨w.heap.size + 1, c.toNat, none⟩ = some (.slice none 0 0) := by rw [cell_of_heap hI.out.blk]; exact hI.out.no c hnew
          have c3 : wr.cell? ⟨w.heap.size + 1, 256, none⟩ = some T := by rw [cell_of_heap hI.out.blk]; exact hI.out.tr
          have hpi : decide ((0 : Int) ≤ (p : Int)) = true := by rw [decide_eq_true_iff]; omega
          have z0 : (B [c]).size = 1 := rfl
          have h0 : ∀ h : 0 < (B [c]).size, (((B [c])[0]'h).toNat : Int) = (c.toNat : Int) := fun h => rfl
          have heq : ∀ W, (binOp .eql 44 (.slice none 0 0) (.slice none 0 0)).run Tryz.prog W = .ok (.bool true) W := fun W => Lib.run_eql_slice_nil_nil W _ _ Tryz.underlying44
          have hce := Lib.hid hc
          clear hc e0 e1 hnew hgl hk
          have hcv : (convert 44 9 (.slice (some ⟨wr.heap.size, 0, none⟩) 1 1)).run Tryz.prog (wr.alloc (.cells #[.int .u8 (c.toNat : Int)] 5)) = .ok (.string (B [c])) (wr.alloc (.cells #[.int .u8 (c.toNat : Int)] 5)) := by
            have h := run_convert_bytes_arg (P := Tryz.prog) (wr.alloc (.cells #[.int .u8 (c.toNat : Int)] 5)) 44 5 Tryz.underlying44 Tryz.underlying5 wr.heap.size 0 1 1 (Lib.numsL [c]) rfl
              (fun i hi => by
                obtain rfl : i = 0 := by omega
                rw [cell_of_heap (heap_alloc_new wr _)]; rfl) 9 Tryz.underlying9
            rwa [strNums] at h
          have HO := (hI.out.own.alloc (.cells #[.int .u8 (c.toNat : Int)] 5))
          have HB : Below w.heap.size w (wr.alloc (.cells #[.int .u8 (c.toNat : Int)] 5)) := hI.out.bel.alloc hI.out.bel.size _
          have hbs := HB.size
          rw [hpk]
          go_wp2_with (at_builtin; refine print_append_cells (w0 := w) (W := wr.alloc (.cells #[.int .u8 (c.toNat : Int)] 5)) w.heap.size rfl _ _ 23 9 (.string ⟨#[]⟩) 1 16 rfl Tryz.underlying23 infoStr rfl (by decide) (by decide) T k _ [.string (B [c])] rfl (by rw [show (wr.alloc (.cells #[.int .u8 (c.toNat : Int)] 5)).heap.size = wr.heap.size + 1 by simp]; rfl) rfl (by intro u hu; rw [List.mem_singleton.1 hu]; rfl) HO HB hbs (by omega) ?_)
          intro v1 w1 hown hb1 hg1 _
          rw [← List.map_take] at hown
          obtain ⟨A1, cp1, rfl⟩ := own_slice hown
          obtain ⟨q1, q2⟩ := hI.out.next (show k < 4 by omega) hce.out hown hb1 hg1
          have f1 : w1.cell? ⟨w.heap.size + 1, 256, none⟩ = some T := by rw [cell_of_heap q1]; exact hI.out.tr
          have f2 : w1.frozen? ⟨w.heap.size + 1, 256, none⟩ = false := frozen_of_heap q1 256
          obtain ⟨w2, hw2⟩ : ∃ w2, w1.setCell ⟨w.heap.size + 1, 256, none⟩ (.slice A1 (k + 1) cp1) = w2 := ⟨_, rfl⟩
          obtain ⟨w3, hw3⟩ : ∃ w3, Lib.bytesWorld w2 5 (B [36, c]) = w3 := ⟨_, rfl⟩
          obtain ⟨q3, q4⟩ := q2 w2 w3 hw2.symm hw3.symm
          have hcv2 := Lib.run_convert_string_bytes (P := Tryz.prog) w2 9 44 5 (B [36, c]) Tryz.underlying9 Tryz.underlying44 Tryz.underlying5
          rw [hw3] at hcv2
          have hIn := Lib.hid (q4 (grownCap w2 (B [36, c]).size 0 5))
          have hcsz : (cs.setIfInBounds 256 (.slice A1 (k + 1) cp1)).size = 257 := by rw [Array.size_setIfInBounds]; exact hI.out.size
          obtain ⟨v3, f3⟩ : ∃ v, w3.cell? ⟨w.heap.size + 1, c.toNat, none⟩ = some v := ⟨_, by rw [cell_of_heap q3, Array.getElem?_eq_getElem (by rw [hcsz]; omega)]⟩
          have f4 : w3.frozen? ⟨w.heap.size + 1, c.toNat, none⟩ = false := frozen_of_heap q3 c.toNat
          generalize grownCap w2 (B [36, c]).size 0 5 = cap at *
          clear hown hb1 hg1 q1 q2 q3 q4 hcv HO HB hbs c0 c1 c2 c3 hw3 hcsz
          have hb0 : (0 : Int) ≤ (c.toNat : Int) := by omega
          have hb1 : (c.toNat : Int) < 256 := by omega
          go_wp2_with fail
          go_roundg gk
          case measure => omega
          case rel => exact ⟨k + 1, _, _, by congr 1; omega, by omega, hIn⟩
    | succ gk =>
      rcases four (show i < 4 by omega) with rfl | rfl | rfl | rfl
      · have c0 : w.cell? ⟨g, 0, none⟩ = some (.string (B [36])) := hR.out.cell 0 (by omega)
        have c1 : w.cell? ⟨g, 1, none⟩ = some (.string (B [36, 36])) := hR.out.cell 1 (by omega)
        have z0 : (B [36]).size = 1 := rfl
        have z1 : (B [36, 36]).size = 2 := rfl
        go_wp2_with fail
        go_roundg gk
        case measure => omega
        case rel => exact ⟨1, rfl, by omega, rfl, rfl⟩
      · have c0 : w.cell? ⟨g, 2, none⟩ = some (.string (B [32])) := hR.out.cell 2 (by omega)
        have c1 : w.cell? ⟨g, 3, none⟩ = some (.string (B [36, 32])) := hR.out.cell 3 (by omega)
        have z0 : (B [32]).size = 1 := rfl
        have z1 : (B [36, 32]).size = 2 := rfl
        go_wp2_with fail
        go_roundg gk
        case measure => omega
        case rel => exact ⟨2, rfl, by omega, rfl, rfl⟩
      · have c0 : w.cell? ⟨g, 4, none⟩ = some (.string (B [58])) := hR.out.cell 4 (by omega)
        have c1 : w.cell? ⟨g, 5, none⟩ = some (.string (B [36, 58])) := hR.out.cell 5 (by omega)
        have z0 : (B [58]).size = 1 := rfl
        have z1 : (B [36, 58]).size = 2 := rfl
        go_wp2_with fail
        go_roundg gk
        case measure => omega
        case rel => exact ⟨3, rfl, by omega, rfl, rfl⟩
      · have c0 : w.cell? ⟨g, 6, none⟩ = some (.string (B [124])) := hR.out.cell 6 (by omega)
        have c1 : w.cell? ⟨g, 7, none⟩ = some (.string (B [36, 124])) := hR.out.cell 7 (by omega)
        have z0 : (B [124]).size = 1 := rfl
        have z1 : (B [36, 124]).size = 2 := rfl
        go_wp2_with fail
        go_roundg gk
        case measure => omega
        case rel => exact ⟨4, rfl, by omega, rfl, rfl⟩
end Go.Proofs.YtbjekebkgidhaaaGreatDoor.Rep
end
section
set_option linter.unusedSimpArgs false
set_option linter.unusedVariables false
namespace Go.Proofs.YtbjekebkgidhaaaGreatDoor.Rep
open Go.RowKit Go.Lib Go.Shelf Go.Proofs.YtbjekebkgidhaaaGreatDoorW.PrintWords Go.Proofs.YtbjekebkgidhaaaGreatDoor.U Go.Proofs.YtbjekebkgidhaaaGreatDoor.Sc
theorem RepAt.store {w : World} {r : Nat} (h : RepAt w r) {p : Addr} {x : Value} (hp : w.cell? p = some x) (hr : p.block ≠ r) (h1 : ∀ n, x ≠ .int .u8 n) (h2 : ∀ s, x ≠ .string s) (v : Value) : RepAt (w.setCell p v) r := by
  have k1 : ∀ (a : Addr) n, w.cell? a = some (.int .u8 n) → (w.setCell p v).cell? a = some (.int .u8 n) := fun a n ha => by
    rw [World.cell?_setCell_other _ _ _ _ (fun e => by subst e; rw [hp] at ha; exact h1 _ (Option.some.inj ha))]; exact ha
  have k2 : ∀ (a : Addr) s, w.cell? a = some (.string s) → (w.setCell p v).cell? a = some (.string s) := fun a s ha => by
    rw [World.cell?_setCell_other _ _ _ _ (fun e => by subst e; rw [hp] at ha; exact h2 _ (Option.some.inj ha))]; exact ha
  have k3 : ∀ j, (w.setCell p v).cell? ⟨r, j, none⟩ = w.cell? ⟨r, j, none⟩ := fun j => World.cell?_setCell_other _ _ _ _ (fun e => hr (by rw [e]))
  refine ⟨fun c => ?_, ?_⟩
  · obtain ⟨y, g1, g2⟩ := h.cell c
    refine ⟨y, (k3 _).trans g1, ?_⟩
    unfold RepCell at g2 ⊢
    split
    · rename_i hc
      rw [if_pos hc] at g2
      obtain ⟨a, cap, e0, e1, e2⟩ := g2
      exact ⟨a, cap, e0, k1 _ _ e1, k1 _ _ e2⟩
    · rename_i hc
      rw [if_neg hc] at g2
      exact g2
  · obtain ⟨a, cap, g1, g2⟩ := h.tr
    exact ⟨a, cap, (k3 _).trans g1, fun i hi => k2 _ _ (g2 i hi)⟩
def Built (B0 : Nat) (w0 : World) (b : Nat) (W : World) : Prop := ∃ r, W.heap[b]? = some (.cells #[.int .u32 0, .int .i32 1, .int .u32 0, .iface 196 (.pointer (some ⟨r, 0, none⟩)), .slice none 0 0] 147 (0, 0)) ∧ RepAt W r ∧ b ≠ r ∧ Below B0 w0 W
theorem blk_cell {w : World} {b : Nat} {cs : Array Value} {t : TypeId} {fr : Nat × Nat} (h : w.heap[b]? = some (.cells cs t fr)) (j : Nat) (v : Value) (hv : cs[j]? = some v) : w.cell? ⟨b, j, none⟩ = some v := by rw [cell_of_heap h]; exact hv
set_option maxRecDepth 100000 in
set_option maxHeartbeats 4000000 in
theorem buildOnce_any (B0 : Nat) (w0 : World) (b g q : Nat) (w : World) (hF : Fresh w b g q 1) (hB : Below B0 w0 w) (hb : B0 ≤ b) :
    Calls Tryz.prog 84 #[.pointer (some ⟨b, 0, none⟩)] w fun e W => e = .returned (.tuple #[]) ∧ Built B0 w0 b W ∧ Keeps b W := by
  have hBu := Lib.hid (build_any b g q w hF)
  have hlt := (Array.getElem?_eq_some_iff.1 hF.blk).1
  have hblk := Lib.hid hF.blk
  clear hF
  go_enter Tryz.func84, Tryz.ntmps84
  go_wp2_with fail
  refine hBu.out.mono ?_
  rintro e w1 ⟨r, rfl, hr, hrep, hb1⟩
  have h1 : w1.heap[b]? = some (.cells #[.int .u32 0, .int .i32 1, .int .u32 0, .nilIface, .slice (some ⟨g, 0, none⟩) 8 q] 147 (0, 0)) := (hb1.block b hlt).trans hblk.out
  have hrb : b ≠ r := by omega
  have c3 := blk_cell h1 3 _ rfl
  have z3 := frozen_of_heap h1 3
  have h2 := heap_set h1 3 (.iface 196 (.pointer (some ⟨r, 0, none⟩)))
  have r2 := RepAt.store hrep c3 hrb (fun _ => by simp) (fun _ => by simp) (.iface 196 (.pointer (some ⟨r, 0, none⟩)))
  have c4 := blk_cell h2 4 (.slice (some ⟨g, 0, none⟩) 8 q) rfl
  have z4 := frozen_of_heap h2 4
  have h3 := heap_set h2 4 (.slice none 0 0)
  have r3 := RepAt.store r2 c4 hrb (fun _ => by simp) (fun _ => by simp) (.slice none 0 0)
  have hb0 : Below B0 w0 w1 := hB.trans (hb1.mono (Nat.le_trans hb (Nat.le_of_lt hlt)))
  have hb3 : Below B0 w0 ((w1.setCell ⟨b, 3, none⟩ (.iface 196 (.pointer (some ⟨r, 0, none⟩)))).setCell ⟨b, 4, none⟩ (.slice none 0 0)) := (hb0.setCell (p := ⟨b, 3, none⟩) hb _).setCell (p := ⟨b, 4, none⟩) hb _
  have hfin : Hid (Built B0 w0 b ((w1.setCell ⟨b, 3, none⟩ (.iface 196 (.pointer (some ⟨r, 0, none⟩)))).setCell ⟨b, 4, none⟩ (.slice none 0 0))) := ⟨r, h3, r3, hrb, hb3⟩
  have hkp : Hid (Keeps b ((w1.setCell ⟨b, 3, none⟩ (.iface 196 (.pointer (some ⟨r, 0, none⟩)))).setCell ⟨b, 4, none⟩ (.slice none 0 0))) := ⟨blk_cell h3 0 _ rfl, blk_cell h3 1 _ rfl, frozen_of_heap h3 0, frozen_of_heap h3 1⟩
  clear hb1 hb0 hb3 r2 r3 hrep h1 h2 h3
  go_wp2_with fail
  go_end0
  exact ⟨rfl, hfin.out, hkp.out⟩
theorem bsr_any (r : Nat) (s : Txt) (hs : s.length ≤ 100000000) (w : World) (hR : RepAt w r) :
    Calls Tryz.prog 194 #[.pointer (some ⟨r, 0, none⟩), .string (B s)] w fun e w' => e = .returned (.string (B (escL s))) ∧ Below w.heap.size w w' := by
  by_cases h : s.length < 32
  · exact bsr_small r s h w hR
  · exact bsr_big r s (by omega) hs w hR
set_option maxRecDepth 100000 in
set_option maxHeartbeats 4000000 in
theorem Replace_any (B0 : Nat) (w0 : World) (b g q : Nat) (s : Txt) (hs : s.length ≤ 100000000) (w : World) (hF : Fresh w b g q 0) (hB : Below B0 w0 w) (hb : B0 ≤ b) :
    Calls Tryz.prog 58 #[.pointer (some ⟨b, 0, none⟩), .string (B s)] w fun e w' => e = .returned (.string (B (escL s))) ∧ Below B0 w0 w' := by
  have hF1 : Fresh (w.setCell ⟨b, 1, none⟩ (.int .i32 1)) b g q 1 := ⟨heap_set hF.blk 1 _, hF.row.same (Below.heap_setCell _ _ _ _ hF.ne), hF.ne⟩
  have hDo := Lib.hid (do_any b (.pointer (some ⟨b, 0, none⟩)) (Built B0 w0 b) w (blk_cell hF.blk 0 _ rfl) (blk_cell hF.blk 1 _ rfl) (frozen_of_heap hF.blk 0) (frozen_of_heap hF.blk 1)
    (buildOnce_any B0 w0 b g q _ hF1 (hB.setCell (p := ⟨b, 1, none⟩) hb _) hb))
  clear hF hF1 hB
  go_enter Tryz.func58, Tryz.ntmps58
  go_wp2_with fail
  refine hDo.out.mono ?_
  rintro e w1 ⟨rfl, W, ⟨r, g1, g2, g3, g4⟩, ⟨k0, k1, k2, k3⟩, rfl⟩
  have r1 : RepAt W.drew r := g2.same fun _ => rfl
  have h1 : W.drew.heap[b]? = some (.cells #[.int .u32 0, .int .i32 1, .int .u32 0, .iface 196 (.pointer (some ⟨r, 0, none⟩)), .slice none 0 0] 147 (0, 0)) := g1
  have h2 := heap_set h1 0 (.int .u32 1)
  have h3 := heap_set h2 1 (.int .i32 0)
  have r2 := RepAt.store r1 (blk_cell h1 0 _ rfl) g3 (fun _ => by simp) (fun _ => by simp) (.int .u32 1)
  have r3 := RepAt.store r2 (blk_cell h2 1 (.int .i32 1) rfl) g3 (fun _ => by simp) (fun _ => by simp) (.int .i32 0)
  have hb3 : Below B0 w0 ((W.drew.setCell ⟨b, 0, none⟩ (.int .u32 1)).setCell ⟨b, 1, none⟩ (.int .i32 0)) := (g4.drew.setCell (p := ⟨b, 0, none⟩) hb _).setCell (p := ⟨b, 1, none⟩) hb _
  have c3 := blk_cell h3 3 (.iface 196 (.pointer (some ⟨r, 0, none⟩))) rfl
  have hlt3 := (Array.getElem?_eq_some_iff.1 h3).1
  clear g1 g2 g4 k0 k1 k2 k3 r1 r2 h1 h2 h3
  generalize (W.drew.setCell ⟨b, 0, none⟩ (.int .u32 1)).setCell ⟨b, 1, none⟩ (.int .i32 0) = W1 at *
  have hRp := Lib.hid (bsr_any r s hs W1 r3)
  have HB := Lib.hid hb3
  clear r3 hb3
  go_wp2_with fail
  refine hRp.out.mono ?_
  rintro e w2 ⟨rfl, hb2⟩
  go_wp2_with fail
  go_ret
  exact ⟨rfl, HB.out.trans (hb2.mono (by omega))⟩
set_option maxRecDepth 100000 in
set_option maxHeartbeats 4000000 in
theorem Escape_any (s : Txt) (hs : s.length ≤ 100000000) (w : World) :
    Calls Tryz.prog 31 #[.string (B s)] w fun e w' => e = .returned (.string (B (escL s))) ∧ Below w.heap.size w w' := by
  have hNew : Hid (∀ W, W = w.alloc (.cells #[.string (B [36]), .string (B [36, 36]), .string (B [32]), .string (B [36, 32]), .string (B [58]), .string (B [36, 58]), .string (B [124]), .string (B [36, 124])] 9) →
      Calls Tryz.prog 57 #[.slice (some ⟨w.heap.size, 0, none⟩) 8 8] W (NewPost W)) := by
    rintro W rfl
    refine NewReplacer_any (some ⟨w.heap.size, 0, none⟩) 8 _ ⟨rfl, by decide, fun _ => ⟨_, rfl, fun j p hj => ?_⟩⟩
    refine ⟨[.string p], rfl, rfl, fun i u hu => ?_⟩
    have hi : i = 0 := by have := (List.getElem?_eq_some_iff.1 hu).1; simp at this; omega
    subst hi
    have ha : ∀ q : Nat, (⟨w.heap.size, 0, none⟩ : Addr).add q = ⟨w.heap.size, q, none⟩ := fun q => by unfold Addr.add; by_cases hq : q = 0 <;> simp [hq]
    rw [ha, show j * Kd.string.sz + 0 = j by show j * 1 + 0 = j; omega, cell_of_heap (heap_alloc_new w _)]
    have hj8 : j < 8 := by have := (List.getElem?_eq_some_iff.1 hj).1; simpa [pairs] using this
    rcases (show j = 0 ∨ j = 1 ∨ j = 2 ∨ j = 3 ∨ j = 4 ∨ j = 5 ∨ j = 6 ∨ j = 7 by omega) with rfl | rfl | rfl | rfl | rfl | rfl | rfl | rfl <;>
      (cases hj; cases hu; rfl)
  go_enter Tryz.func31, Tryz.ntmps31
  go_wp2_with fail
  refine (hNew.out _ rfl).mono ?_
  rintro e w1 ⟨b, g, q, rfl, hb, hF, hb1⟩
  have hbw : w.heap.size ≤ b := by simp at hb; omega
  have hB1 : Below w.heap.size w w1 := ((Below.refl _ w).alloc (Nat.le_refl _) _).trans (hb1.mono (by simp))
  have hRe := Lib.hid (Replace_any w.heap.size w b g q s hs w1 hF hB1 hbw)
  clear hF hB1 hb1 hb
  go_wp2_with fail
  refine hRe.out.mono ?_
  rintro e w2 ⟨rfl, hb2⟩
  go_wp2_with fail
  go_ret
  exact ⟨rfl, hb2⟩
end Go.Proofs.YtbjekebkgidhaaaGreatDoor.Rep
end
section
set_option linter.unusedVariables false
namespace Go.Proofs.YtbjekebkgidhaaaGreatDoor.P
open Go.RowKit Go.Proofs.YtbjekebkgidhaaaGreatDoor.U Go.Proofs.YtbjekebkgidhaaaGreatDoorW.PrintWords Go.Proofs.YtbjekebkgidhaaaGreatDoorW.PrintLast Go.Proofs.YtbjekebkgidhaaaGreatDoorW.PrintMore
def scope_Escape.f (a0 : ByteArray) : Option ByteArray := if a0.data.toList.length ≤ 100000000 then some (B (Sc.escL a0.data.toList)) else none
theorem scope_Escape.calls (a0 : ByteArray) (r : ByteArray) (w : World) (h : scope_Escape.f a0 = some r) :
    Calls Tryz.prog 31 #[.string a0] w fun e w' => e = .returned (.string r) ∧ Below w.heap.size w w' := by
  unfold scope_Escape.f at h
  split at h
  · rename_i hc
    have h' := Option.some.inj h
    subst h'
    have := Rep.Escape_any a0.data.toList hc w
    rw [← B_of] at this
    exact this
  · cases h
end Go.Proofs.YtbjekebkgidhaaaGreatDoor.P
end
section
set_option linter.unusedVariables false
namespace Go.Proofs.YtbjekebkgidhaaaGreatDoor.P
open Go.RowKit Go.Proofs.YtbjekebkgidhaaaGreatDoorW.PrintWords Go.Proofs.YtbjekebkgidhaaaGreatDoorW.PrintLast Go.Proofs.YtbjekebkgidhaaaGreatDoorW.PrintMore
def strconv_Itoa_30.f (a0 : Int) : Option ByteArray := if 0 ≤ a0 ∧ a0 < 100 then some ⟨(Lib.decDigits a0.toNat).toArray⟩ else none
theorem strconv_Itoa_30.calls (a0 : Int) (r : ByteArray) (w : World) (h : strconv_Itoa_30.f a0 = some r) :
    Calls Tryz.prog 30 #[.int .i64 a0] w fun e w' => e = .returned (.string r) ∧ Below w.heap.size w w' := by
  unfold strconv_Itoa_30.f at h
  split at h
  · rename_i hc
    obtain ⟨i, rfl⟩ : ∃ i : Nat, a0 = (i : Int) := ⟨a0.toNat, by omega⟩
    rw [Int.toNat_natCast] at h
    have h' := Option.some.inj h
    subst h'
    exact (Tryz.strconv_Itoa_small i (by omega) w).mono fun e w' ⟨he, hw⟩ => ⟨he, hw ▸ Below.refl _ _⟩
  · cases h
end Go.Proofs.YtbjekebkgidhaaaGreatDoor.P
end
section
namespace Go.Proofs.YtbjekebkgidhaaaGreatDoor.P
open Go.RowKit Go.Proofs.YtbjekebkgidhaaaGreatDoorW.PrintWords Go.Proofs.YtbjekebkgidhaaaGreatDoorW.PrintLast Go.Proofs.YtbjekebkgidhaaaGreatDoorW.PrintMore
attribute [local go_sem] max2_int min2_int max_two min_two max_three min_three max_four min_four
set_option linter.unusedVariables false
set_option linter.unusedSimpArgs false
theorem wrap_two_YtbjekebkgidhaaaGreatDoorPPrintEdge0 (a b : Nat) (h : a + b ≤ 9223372036854775807) : wrap64 ((a : Int) + (b : Int)) = (a : Int) + (b : Int) := by unfold wrap64; omega
def print_edge.j0 : Nat → ByteArray → ByteArray → List ByteArray → List ByteArray → List ByteArray → List ByteArray → ByteArray → ByteArray → Option (ByteArray)
  | 0, _, _, _, _, _, _, _, _ => none
  | k + 1, x5, x6, x146000, x146001, x146002, x146003, x146004, x146005 => (print_row.f (⟨#[98, 117, 105, 108, 100]⟩ : ByteArray) x146000).bind fun t149 => (if x6.size + t149.size ≤ 9223372036854775807 then (if (x6 ++ t149).size + 2 ≤ 9223372036854775807 then (if ((x6 ++ t149) ++ (⟨#[58, 32]⟩ : ByteArray)).size + x5.size ≤ 9223372036854775807 then ((print_row.f (⟨#[]⟩ : ByteArray) x146001).bind fun t150 => (if (((x6 ++ t149) ++ (⟨#[58, 32]⟩ : ByteArray)) ++ x5).size + t150.size ≤ 9223372036854775807 then ((print_row.f (⟨#[32, 124]⟩ : ByteArray) x146002).bind fun t151 => (if ((((x6 ++ t149) ++ (⟨#[58, 32]⟩ : ByteArray)) ++ x5) ++ t150).size + t151.size ≤ 9223372036854775807 then ((print_row.f (⟨#[32, 124, 124]⟩ : ByteArray) x146003).bind fun t152 => (if (((((x6 ++ t149) ++ (⟨#[58, 32]⟩ : ByteArray)) ++ x5) ++ t150) ++ t151).size + t152.size ≤ 9223372036854775807 then (if ((((((x6 ++ t149) ++ (⟨#[58, 32]⟩ : ByteArray)) ++ x5) ++ t150) ++ t151) ++ t152).size + 1 ≤ 9223372036854775807 then (some (((((((x6 ++ t149) ++ (⟨#[58, 32]⟩ : ByteArray)) ++ x5) ++ t150) ++ t151) ++ t152) ++ (⟨#[10]⟩ : ByteArray))) else (none)) else (none))) else (none))) else (none))) else (none)) else (none)) else (none))
def print_edge.f (k : Nat) (a0 : Int) (l1_0 : List ByteArray) (l1_1 : List ByteArray) (l1_2 : List ByteArray) (l1_3 : List ByteArray) (a1_4 : ByteArray) (a1_5 : ByteArray) : Option (ByteArray) := (strconv_Itoa_30.f a0).bind fun t146 => (if 1 + t146.size ≤ 9223372036854775807 then (if 5 + ((⟨#[114]⟩ : ByteArray) ++ t146).size ≤ 9223372036854775807 then (if ((⟨#[114, 117, 108, 101, 32]⟩ : ByteArray) ++ ((⟨#[114]⟩ : ByteArray) ++ t146)).size + 13 ≤ 9223372036854775807 then ((scope_Escape.f a1_4).bind fun t147 => (if (((⟨#[114, 117, 108, 101, 32]⟩ : ByteArray) ++ ((⟨#[114]⟩ : ByteArray) ++ t146)) ++ (⟨#[10, 32, 32, 99, 111, 109, 109, 97, 110, 100, 32, 61, 32]⟩ : ByteArray)).size + t147.size ≤ 9223372036854775807 then (if ((((⟨#[114, 117, 108, 101, 32]⟩ : ByteArray) ++ ((⟨#[114]⟩ : ByteArray) ++ t146)) ++ (⟨#[10, 32, 32, 99, 111, 109, 109, 97, 110, 100, 32, 61, 32]⟩ : ByteArray)) ++ t147).size + 1 ≤ 9223372036854775807 then (if a1_5.toList = ([] : List UInt8) then (print_edge.j0 k ((⟨#[114]⟩ : ByteArray) ++ t146) (((((⟨#[114, 117, 108, 101, 32]⟩ : ByteArray) ++ ((⟨#[114]⟩ : ByteArray) ++ t146)) ++ (⟨#[10, 32, 32, 99, 111, 109, 109, 97, 110, 100, 32, 61, 32]⟩ : ByteArray)) ++ t147) ++ (⟨#[10]⟩ : ByteArray)) l1_0 l1_1 l1_2 l1_3 a1_4 a1_5) else ((scope_Escape.f a1_5).bind fun t148 => (if 12 + t148.size ≤ 9223372036854775807 then (if ((⟨#[32, 32, 100, 101, 112, 102, 105, 108, 101, 32, 61, 32]⟩ : ByteArray) ++ t148).size + 1 ≤ 9223372036854775807 then (if (((((⟨#[114, 117, 108, 101, 32]⟩ : ByteArray) ++ ((⟨#[114]⟩ : ByteArray) ++ t146)) ++ (⟨#[10, 32, 32, 99, 111, 109, 109, 97, 110, 100, 32, 61, 32]⟩ : ByteArray)) ++ t147) ++ (⟨#[10]⟩ : ByteArray)).size + (((⟨#[32, 32, 100, 101, 112, 102, 105, 108, 101, 32, 61, 32]⟩ : ByteArray) ++ t148) ++ (⟨#[10]⟩ : ByteArray)).size ≤ 9223372036854775807 then (print_edge.j0 k ((⟨#[114]⟩ : ByteArray) ++ t146) ((((((⟨#[114, 117, 108, 101, 32]⟩ : ByteArray) ++ ((⟨#[114]⟩ : ByteArray) ++ t146)) ++ (⟨#[10, 32, 32, 99, 111, 109, 109, 97, 110, 100, 32, 61, 32]⟩ : ByteArray)) ++ t147) ++ (⟨#[10]⟩ : ByteArray)) ++ (((⟨#[32, 32, 100, 101, 112, 102, 105, 108, 101, 32, 61, 32]⟩ : ByteArray) ++ t148) ++ (⟨#[10]⟩ : ByteArray))) l1_0 l1_1 l1_2 l1_3 a1_4 a1_5) else (none)) else (none)) else (none)))) else (none)) else (none))) else (none)) else (none)) else (none))
theorem print_edge.mono_l : ∀ k, (∀ y0 y1 y2 y3 y4 y5 y6 y7, LeO (print_edge.j0 k y0 y1 y2 y3 y4 y5 y6 y7) (print_edge.j0 (k + 1) y0 y1 y2 y3 y4 y5 y6 y7))
  | 0 => fun _ _ _ _ _ _ _ _ r h => by simp [print_edge.j0] at h
  | k + 1 => by
    have ih0 := print_edge.mono_l k
    · intro y0 y1 y2 y3 y4 y5 y6 y7
      unfold print_edge.j0
      repeat' first
      | (with_reducible exact ih0 _ _ _ _ _ _ _ _)
      | (with_reducible exact LeO.refl _)
      | (with_reducible exact LeO.none _)
      | (with_reducible refine LeO.ite ?_ ?_)
      | (with_reducible refine LeO.bind ?_ (fun _ => ?_))
      | exact ih0 _ _ _ _ _ _ _ _
      | exact LeO.none _
      | refine LeO.ite ?_ ?_
      | refine LeO.bind ?_ (fun _ => ?_)
theorem print_edge.mono : ∀ a0 a1 a2 a3 a4 a5 a6 k, LeO (print_edge.f k a0 a1 a2 a3 a4 a5 a6) (print_edge.f (k + 1) a0 a1 a2 a3 a4 a5 a6) := by
  intro a0 a1 a2 a3 a4 a5 a6 k
  have ih0 := print_edge.mono_l k
  unfold print_edge.f
  repeat' first
      | (with_reducible exact ih0 _ _ _ _ _ _ _ _)
      | (with_reducible exact LeO.refl _)
      | (with_reducible exact LeO.none _)
      | (with_reducible refine LeO.ite ?_ ?_)
      | (with_reducible refine LeO.bind ?_ (fun _ => ?_))
      | exact ih0 _ _ _ _ _ _ _ _
      | exact LeO.none _
      | refine LeO.ite ?_ ?_
      | refine LeO.bind ?_ (fun _ => ?_)
def print_edge.T5 : Bool × List (List Nat × List Nat) := (true, [([], []), ([], []), ([1], [1]), ([2], [2]), ([0, 3], [0, 3]), ([4], [4]), ([], []), ([5, 6], [5, 6]), ([], []), ([8], [8]), ([9, 3], [9]), ([7, 10], [7, 10]), ([], []), ([12], [12]), ([13, 10], [13]), ([11, 14], [11, 14]), ([], []), ([16], [16]), ([17, 14], [17]), ([15, 18], [15, 18]), ([19], [19]), ([20, 18, 0, 1, 2, 3, 4, 5, 6, 7, 8, 9, 10, 11, 12, 13, 14, 15, 16, 17, 18, 19, 20], [20])])
def print_edge.B5 : List Nat := [0, 0, 2, 6, 15, 31, 0, 127, 0, 256, 782, 2047, 0, 4096, 14094, 32767, 0, 65536, 227086, 524287, 1048575, 2097151]
theorem print_edge.tab5 : rtab .any (opsOf Tryz.f14 5) = print_edge.T5 := by kernel_rfl
theorem print_edge.bits5 : waitsOk print_edge.T5.2 print_edge.B5 = true := by kernel_rfl
set_option maxHeartbeats 8000000 in
set_option maxRecDepth 100000 in
theorem print_edge.calls (k : Nat) (a0 : Int) (A1_0 : Option Addr) (c1_0 : Nat) (l1_0 : List ByteArray) (A1_1 : Option Addr) (c1_1 : Nat) (l1_1 : List ByteArray) (A1_2 : Option Addr) (c1_2 : Nat) (l1_2 : List ByteArray) (A1_3 : Option Addr) (c1_3 : Nat) (l1_3 : List ByteArray) (a1_4 : ByteArray) (a1_5 : ByteArray) (r : ByteArray) (w : World) (hr1_0 : Kd.C Kd.string w A1_0 l1_0.length l1_0) (hc1_0 : l1_0.length ≤ c1_0) (hr1_1 : Kd.C Kd.string w A1_1 l1_1.length l1_1) (hc1_1 : l1_1.length ≤ c1_1) (hr1_2 : Kd.C Kd.string w A1_2 l1_2.length l1_2) (hc1_2 : l1_2.length ≤ c1_2) (hr1_3 : Kd.C Kd.string w A1_3 l1_3.length l1_3) (hc1_3 : l1_3.length ≤ c1_3) (h : print_edge.f k a0 l1_0 l1_1 l1_2 l1_3 a1_4 a1_5 = some r) :
    Calls Tryz.prog 14 #[.int .i64 a0, .agg #[.slice A1_0 l1_0.length c1_0, .slice A1_1 l1_1.length c1_1, .slice A1_2 l1_2.length c1_2, .slice A1_3 l1_3.length c1_3, .string a1_4, .string a1_5]] w fun e w' => e = .returned (.string r) ∧ Below w.heap.size w w' := by
  have hu47 := Tryz.underlying47
  have HR1_0 := Aside0.mk hr1_0
  have HC1_0 := Aside0.mk hc1_0
  clear hr1_0 hc1_0
  have HR1_1 := Aside0.mk hr1_1
  have HC1_1 := Aside0.mk hc1_1
  clear hr1_1 hc1_1
  have HR1_2 := Aside0.mk hr1_2
  have HC1_2 := Aside0.mk hc1_2
  clear hr1_2 hc1_2
  have HR1_3 := Aside0.mk hr1_3
  have HC1_3 := Aside0.mk hc1_3
  clear hr1_3 hc1_3
  have HB := Aside0.mk (Below.refl w.heap.size w)
  have H : ((strconv_Itoa_30.f a0).bind fun t146 => (if 1 + t146.size ≤ 9223372036854775807 then (if 5 + ((⟨#[114]⟩ : ByteArray) ++ t146).size ≤ 9223372036854775807 then (if ((⟨#[114, 117, 108, 101, 32]⟩ : ByteArray) ++ ((⟨#[114]⟩ : ByteArray) ++ t146)).size + 13 ≤ 9223372036854775807 then ((scope_Escape.f a1_4).bind fun t147 => (if (((⟨#[114, 117, 108, 101, 32]⟩ : ByteArray) ++ ((⟨#[114]⟩ : ByteArray) ++ t146)) ++ (⟨#[10, 32, 32, 99, 111, 109, 109, 97, 110, 100, 32, 61, 32]⟩ : ByteArray)).size + t147.size ≤ 9223372036854775807 then (if ((((⟨#[114, 117, 108, 101, 32]⟩ : ByteArray) ++ ((⟨#[114]⟩ : ByteArray) ++ t146)) ++ (⟨#[10, 32, 32, 99, 111, 109, 109, 97, 110, 100, 32, 61, 32]⟩ : ByteArray)) ++ t147).size + 1 ≤ 9223372036854775807 then (if a1_5.toList = ([] : List UInt8) then (print_edge.j0 k ((⟨#[114]⟩ : ByteArray) ++ t146) (((((⟨#[114, 117, 108, 101, 32]⟩ : ByteArray) ++ ((⟨#[114]⟩ : ByteArray) ++ t146)) ++ (⟨#[10, 32, 32, 99, 111, 109, 109, 97, 110, 100, 32, 61, 32]⟩ : ByteArray)) ++ t147) ++ (⟨#[10]⟩ : ByteArray)) l1_0 l1_1 l1_2 l1_3 a1_4 a1_5) else ((scope_Escape.f a1_5).bind fun t148 => (if 12 + t148.size ≤ 9223372036854775807 then (if ((⟨#[32, 32, 100, 101, 112, 102, 105, 108, 101, 32, 61, 32]⟩ : ByteArray) ++ t148).size + 1 ≤ 9223372036854775807 then (if (((((⟨#[114, 117, 108, 101, 32]⟩ : ByteArray) ++ ((⟨#[114]⟩ : ByteArray) ++ t146)) ++ (⟨#[10, 32, 32, 99, 111, 109, 109, 97, 110, 100, 32, 61, 32]⟩ : ByteArray)) ++ t147) ++ (⟨#[10]⟩ : ByteArray)).size + (((⟨#[32, 32, 100, 101, 112, 102, 105, 108, 101, 32, 61, 32]⟩ : ByteArray) ++ t148) ++ (⟨#[10]⟩ : ByteArray)).size ≤ 9223372036854775807 then (print_edge.j0 k ((⟨#[114]⟩ : ByteArray) ++ t146) ((((((⟨#[114, 117, 108, 101, 32]⟩ : ByteArray) ++ ((⟨#[114]⟩ : ByteArray) ++ t146)) ++ (⟨#[10, 32, 32, 99, 111, 109, 109, 97, 110, 100, 32, 61, 32]⟩ : ByteArray)) ++ t147) ++ (⟨#[10]⟩ : ByteArray)) ++ (((⟨#[32, 32, 100, 101, 112, 102, 105, 108, 101, 32, 61, 32]⟩ : ByteArray) ++ t148) ++ (⟨#[10]⟩ : ByteArray))) l1_0 l1_1 l1_2 l1_3 a1_4 a1_5) else (none)) else (none)) else (none)))) else (none)) else (none))) else (none)) else (none)) else (none))) = some r := h
  clear h
  replace H := Option.bind_eq_some_iff.mp H
  obtain ⟨t146, A30, H⟩ := H
  replace H : (if 1 + t146.size ≤ 9223372036854775807 then (if 5 + ((⟨#[114]⟩ : ByteArray) ++ t146).size ≤ 9223372036854775807 then (if ((⟨#[114, 117, 108, 101, 32]⟩ : ByteArray) ++ ((⟨#[114]⟩ : ByteArray) ++ t146)).size + 13 ≤ 9223372036854775807 then ((scope_Escape.f a1_4).bind fun t147 => (if (((⟨#[114, 117, 108, 101, 32]⟩ : ByteArray) ++ ((⟨#[114]⟩ : ByteArray) ++ t146)) ++ (⟨#[10, 32, 32, 99, 111, 109, 109, 97, 110, 100, 32, 61, 32]⟩ : ByteArray)).size + t147.size ≤ 9223372036854775807 then (if ((((⟨#[114, 117, 108, 101, 32]⟩ : ByteArray) ++ ((⟨#[114]⟩ : ByteArray) ++ t146)) ++ (⟨#[10, 32, 32, 99, 111, 109, 109, 97, 110, 100, 32, 61, 32]⟩ : ByteArray)) ++ t147).size + 1 ≤ 9223372036854775807 then (if a1_5.toList = ([] : List UInt8) then (print_edge.j0 k ((⟨#[114]⟩ : ByteArray) ++ t146) (((((⟨#[114, 117, 108, 101, 32]⟩ : ByteArray) ++ ((⟨#[114]⟩ : ByteArray) ++ t146)) ++ (⟨#[10, 32, 32, 99, 111, 109, 109, 97, 110, 100, 32, 61, 32]⟩ : ByteArray)) ++ t147) ++ (⟨#[10]⟩ : ByteArray)) l1_0 l1_1 l1_2 l1_3 a1_4 a1_5) else ((scope_Escape.f a1_5).bind fun t148 => (if 12 + t148.size ≤ 9223372036854775807 then (if ((⟨#[32, 32, 100, 101, 112, 102, 105, 108, 101, 32, 61, 32]⟩ : ByteArray) ++ t148).size + 1 ≤ 9223372036854775807 then (if (((((⟨#[114, 117, 108, 101, 32]⟩ : ByteArray) ++ ((⟨#[114]⟩ : ByteArray) ++ t146)) ++ (⟨#[10, 32, 32, 99, 111, 109, 109, 97, 110, 100, 32, 61, 32]⟩ : ByteArray)) ++ t147) ++ (⟨#[10]⟩ : ByteArray)).size + (((⟨#[32, 32, 100, 101, 112, 102, 105, 108, 101, 32, 61, 32]⟩ : ByteArray) ++ t148) ++ (⟨#[10]⟩ : ByteArray)).size ≤ 9223372036854775807 then (print_edge.j0 k ((⟨#[114]⟩ : ByteArray) ++ t146) ((((((⟨#[114, 117, 108, 101, 32]⟩ : ByteArray) ++ ((⟨#[114]⟩ : ByteArray) ++ t146)) ++ (⟨#[10, 32, 32, 99, 111, 109, 109, 97, 110, 100, 32, 61, 32]⟩ : ByteArray)) ++ t147) ++ (⟨#[10]⟩ : ByteArray)) ++ (((⟨#[32, 32, 100, 101, 112, 102, 105, 108, 101, 32, 61, 32]⟩ : ByteArray) ++ t148) ++ (⟨#[10]⟩ : ByteArray))) l1_0 l1_1 l1_2 l1_3 a1_4 a1_5) else (none)) else (none)) else (none)))) else (none)) else (none))) else (none)) else (none)) else (none)) = some r := H
  have A3 := Aside0.mk A30
  clear A30
  by_cases c4 : 1 + t146.size ≤ 9223372036854775807
  · rw [if_pos c4] at H
    have c4b0 := eq_true c4
    have c4b1 : decide (1 + t146.size ≤ 9223372036854775807) = true := decide_eq_true c4
    try have c4b2 : (9223372036854775807 < 1 + t146.size) = False := eq_false (Nat.not_lt.2 c4)
    have c4x : 1 + t146.size ≤ 9223372036854775807 := by have hh_ := c4; (try simp only [ByteArray.size_append] at hh_); exact hh_
    try have c4x0 : (9223372036854775807 < 1 + t146.size) = False := eq_false (by omega)
    by_cases c5 : 5 + ((⟨#[114]⟩ : ByteArray) ++ t146).size ≤ 9223372036854775807
    · rw [if_pos c5] at H
      have c5b0 := eq_true c5
      have c5b1 : decide (5 + ((⟨#[114]⟩ : ByteArray) ++ t146).size ≤ 9223372036854775807) = true := decide_eq_true c5
      try have c5b2 : (9223372036854775807 < 5 + ((⟨#[114]⟩ : ByteArray) ++ t146).size) = False := eq_false (Nat.not_lt.2 c5)
      have c5x : 5 + (1 + t146.size) ≤ 9223372036854775807 := by have hh_ := c5; (try simp only [ByteArray.size_append] at hh_); exact hh_
      try have c5x0 : (9223372036854775807 < 5 + (1 + t146.size)) = False := eq_false (by omega)
      by_cases c6 : ((⟨#[114, 117, 108, 101, 32]⟩ : ByteArray) ++ ((⟨#[114]⟩ : ByteArray) ++ t146)).size + 13 ≤ 9223372036854775807
      · rw [if_pos c6] at H
        have c6b0 := eq_true c6
        have c6b1 : decide (((⟨#[114, 117, 108, 101, 32]⟩ : ByteArray) ++ ((⟨#[114]⟩ : ByteArray) ++ t146)).size + 13 ≤ 9223372036854775807) = true := decide_eq_true c6
        try have c6b2 : (9223372036854775807 < ((⟨#[114, 117, 108, 101, 32]⟩ : ByteArray) ++ ((⟨#[114]⟩ : ByteArray) ++ t146)).size + 13) = False := eq_false (Nat.not_lt.2 c6)
        have c6x : 5 + (1 + t146.size) + 13 ≤ 9223372036854775807 := by have hh_ := c6; (try simp only [ByteArray.size_append] at hh_); exact hh_
        try have c6x0 : (9223372036854775807 < 5 + (1 + t146.size) + 13) = False := eq_false (by omega)
        try have c6x1 : (9223372036854775794 < 5 + (1 + t146.size)) = False := eq_false (by omega)
        try have c6b7 : (9223372036854775794 < ((⟨#[114, 117, 108, 101, 32]⟩ : ByteArray) ++ ((⟨#[114]⟩ : ByteArray) ++ t146)).size) = False := eq_false (by omega)
        replace H := Option.bind_eq_some_iff.mp H
        obtain ⟨t147, A70, H⟩ := H
        replace H : (if (((⟨#[114, 117, 108, 101, 32]⟩ : ByteArray) ++ ((⟨#[114]⟩ : ByteArray) ++ t146)) ++ (⟨#[10, 32, 32, 99, 111, 109, 109, 97, 110, 100, 32, 61, 32]⟩ : ByteArray)).size + t147.size ≤ 9223372036854775807 then (if ((((⟨#[114, 117, 108, 101, 32]⟩ : ByteArray) ++ ((⟨#[114]⟩ : ByteArray) ++ t146)) ++ (⟨#[10, 32, 32, 99, 111, 109, 109, 97, 110, 100, 32, 61, 32]⟩ : ByteArray)) ++ t147).size + 1 ≤ 9223372036854775807 then (if a1_5.toList = ([] : List UInt8) then (print_edge.j0 k ((⟨#[114]⟩ : ByteArray) ++ t146) (((((⟨#[114, 117, 108, 101, 32]⟩ : ByteArray) ++ ((⟨#[114]⟩ : ByteArray) ++ t146)) ++ (⟨#[10, 32, 32, 99, 111, 109, 109, 97, 110, 100, 32, 61, 32]⟩ : ByteArray)) ++ t147) ++ (⟨#[10]⟩ : ByteArray)) l1_0 l1_1 l1_2 l1_3 a1_4 a1_5) else ((scope_Escape.f a1_5).bind fun t148 => (if 12 + t148.size ≤ 9223372036854775807 then (if ((⟨#[32, 32, 100, 101, 112, 102, 105, 108, 101, 32, 61, 32]⟩ : ByteArray) ++ t148).size + 1 ≤ 9223372036854775807 then (if (((((⟨#[114, 117, 108, 101, 32]⟩ : ByteArray) ++ ((⟨#[114]⟩ : ByteArray) ++ t146)) ++ (⟨#[10, 32, 32, 99, 111, 109, 109, 97, 110, 100, 32, 61, 32]⟩ : ByteArray)) ++ t147) ++ (⟨#[10]⟩ : ByteArray)).size + (((⟨#[32, 32, 100, 101, 112, 102, 105, 108, 101, 32, 61, 32]⟩ : ByteArray) ++ t148) ++ (⟨#[10]⟩ : ByteArray)).size ≤ 9223372036854775807 then (print_edge.j0 k ((⟨#[114]⟩ : ByteArray) ++ t146) ((((((⟨#[114, 117, 108, 101, 32]⟩ : ByteArray) ++ ((⟨#[114]⟩ : ByteArray) ++ t146)) ++ (⟨#[10, 32, 32, 99, 111, 109, 109, 97, 110, 100, 32, 61, 32]⟩ : ByteArray)) ++ t147) ++ (⟨#[10]⟩ : ByteArray)) ++ (((⟨#[32, 32, 100, 101, 112, 102, 105, 108, 101, 32, 61, 32]⟩ : ByteArray) ++ t148) ++ (⟨#[10]⟩ : ByteArray))) l1_0 l1_1 l1_2 l1_3 a1_4 a1_5) else (none)) else (none)) else (none)))) else (none)) else (none)) = some r := H
        have A7 := Aside0.mk A70
        clear A70
        by_cases c8 : (((⟨#[114, 117, 108, 101, 32]⟩ : ByteArray) ++ ((⟨#[114]⟩ : ByteArray) ++ t146)) ++ (⟨#[10, 32, 32, 99, 111, 109, 109, 97, 110, 100, 32, 61, 32]⟩ : ByteArray)).size + t147.size ≤ 9223372036854775807
        · rw [if_pos c8] at H
          have c8b0 := eq_true c8
          have c8b1 : decide ((((⟨#[114, 117, 108, 101, 32]⟩ : ByteArray) ++ ((⟨#[114]⟩ : ByteArray) ++ t146)) ++ (⟨#[10, 32, 32, 99, 111, 109, 109, 97, 110, 100, 32, 61, 32]⟩ : ByteArray)).size + t147.size ≤ 9223372036854775807) = true := decide_eq_true c8
          try have c8b2 : (9223372036854775807 < (((⟨#[114, 117, 108, 101, 32]⟩ : ByteArray) ++ ((⟨#[114]⟩ : ByteArray) ++ t146)) ++ (⟨#[10, 32, 32, 99, 111, 109, 109, 97, 110, 100, 32, 61, 32]⟩ : ByteArray)).size + t147.size) = False := eq_false (Nat.not_lt.2 c8)
          have c8x : 5 + (1 + t146.size) + 13 + t147.size ≤ 9223372036854775807 := by have hh_ := c8; (try simp only [ByteArray.size_append] at hh_); exact hh_
          try have c8x0 : (9223372036854775807 < 5 + (1 + t146.size) + 13 + t147.size) = False := eq_false (by omega)
          by_cases c9 : ((((⟨#[114, 117, 108, 101, 32]⟩ : ByteArray) ++ ((⟨#[114]⟩ : ByteArray) ++ t146)) ++ (⟨#[10, 32, 32, 99, 111, 109, 109, 97, 110, 100, 32, 61, 32]⟩ : ByteArray)) ++ t147).size + 1 ≤ 9223372036854775807
          · rw [if_pos c9] at H
            have c9b0 := eq_true c9
            have c9b1 : decide (((((⟨#[114, 117, 108, 101, 32]⟩ : ByteArray) ++ ((⟨#[114]⟩ : ByteArray) ++ t146)) ++ (⟨#[10, 32, 32, 99, 111, 109, 109, 97, 110, 100, 32, 61, 32]⟩ : ByteArray)) ++ t147).size + 1 ≤ 9223372036854775807) = true := decide_eq_true c9
            try have c9b2 : (9223372036854775807 < ((((⟨#[114, 117, 108, 101, 32]⟩ : ByteArray) ++ ((⟨#[114]⟩ : ByteArray) ++ t146)) ++ (⟨#[10, 32, 32, 99, 111, 109, 109, 97, 110, 100, 32, 61, 32]⟩ : ByteArray)) ++ t147).size + 1) = False := eq_false (Nat.not_lt.2 c9)
            have c9x : 5 + (1 + t146.size) + 13 + t147.size + 1 ≤ 9223372036854775807 := by have hh_ := c9; (try simp only [ByteArray.size_append] at hh_); exact hh_
            try have c9x0 : (9223372036854775807 < 5 + (1 + t146.size) + 13 + t147.size + 1) = False := eq_false (by omega)
            try have c9x1 : (9223372036854775806 < 5 + (1 + t146.size) + 13 + t147.size) = False := eq_false (by omega)
            try have c9b7 : (9223372036854775806 < ((((⟨#[114, 117, 108, 101, 32]⟩ : ByteArray) ++ ((⟨#[114]⟩ : ByteArray) ++ t146)) ++ (⟨#[10, 32, 32, 99, 111, 109, 109, 97, 110, 100, 32, 61, 32]⟩ : ByteArray)) ++ t147).size) = False := eq_false (by omega)
            have HC10 := Aside0.mk H
            clear H
            go_enter Tryz.func14, Tryz.ntmps14
            go_upto_if 20 with (first | ((with_reducible refine gate_dst (N := 3) rfl ?_); refine box_event ?hg (N := 3) ?hd (cs := #[.slice A1_0 l1_0.length c1_0, .slice A1_1 l1_1.length c1_1, .slice A1_2 l1_2.length c1_2, .slice A1_3 l1_3.length c1_3, .string a1_4, .string a1_5]) (t := 47) ?hr ?_; (case hd => rfl); (case hg => rfl); (case hr => first | (go_simp; done) | (go_simp; rfl)); intro gb145 hg w11 hbox hb; have n0_ := Aside0.mk (below_step (by repeat (first | (with_reducible first | exact HB.out | apply below_alloc | apply pw_below_drewN | apply below_drew1) | exact HB.out)) hb); have n1_ := Aside0.mk (hbox); have n2_ := Aside0.mk ((by rw [hg]; exact (below_size (by repeat (first | (with_reducible first | exact HB.out | apply below_alloc | apply pw_below_drewN | apply below_drew1) | exact HB.out))) : w.heap.size ≤ gb145)); have n3_ := Aside0.mk ((by rw [hg]; exact (below_size (by repeat (first | (with_reducible first | exact HB.out | apply below_alloc | apply pw_below_drewN | apply below_drew1) | exact HB.out))) : w.heap.size ≤ gb145)); clear HB; have HB := n0_; have BK145 := n1_; have GW145 := n2_; have GE145 := n3_; clear n0_ n1_ n2_ n3_; clear hb hbox hg) | ((with_reducible refine gate_callee (f := 30) rfl ?_); refine goesL_ (some 8) rfl rfl Tryz.func30 (by kernel_rfl) rfl #[.int .i64 a0] rfl (by (try simp only [List.map_toArray, List.map_cons, List.map_nil]); first | done | rfl | (simp only [List.length_drop, List.length_take]; rfl)) ?_; (with_reducible refine (strconv_Itoa_30.calls a0 t146 _ A3.out).mono ?_); rintro e w12 ⟨rfl, hb⟩; refine ⟨_, rfl, ?_⟩; have n0_ := Aside0.mk (blk_below (g := gb145) (o := .cells #[.slice A1_0 l1_0.length c1_0, .slice A1_1 l1_1.length c1_1, .slice A1_2 l1_2.length c1_2, .slice A1_3 l1_3.length c1_3, .string a1_4, .string a1_5] 47 (0, 0)) (by (with_reducible repeat (first | refine blk_drewN ?_ _ | refine blk_drew ?_ | refine blk_alloc ?_ _)); exact BK145.out) hb); have n1_ := Aside0.mk (below_step (by repeat (first | (with_reducible first | exact HB.out | apply below_alloc | apply pw_below_drewN | apply below_drew1 | refine below_set ?_ GE145.out) | exact HB.out)) hb); clear BK145; clear HB; have BK145 := n0_; have HB := n1_; clear n0_ n1_; (try clear hb); (try clear hb2); (try clear hk); (try clear hi); have hcz13_0 : w12.cell? ⟨gb145, 0, none⟩ = some (.slice A1_0 l1_0.length c1_0) := (blk_cell BK145.out 0).trans rfl; have hcz13_1 : w12.cell? ⟨gb145, 1, none⟩ = some (.slice A1_1 l1_1.length c1_1) := (blk_cell BK145.out 1).trans rfl; have hcz13_2 : w12.cell? ⟨gb145, 2, none⟩ = some (.slice A1_2 l1_2.length c1_2) := (blk_cell BK145.out 2).trans rfl; have hcz13_3 : w12.cell? ⟨gb145, 3, none⟩ = some (.slice A1_3 l1_3.length c1_3) := (blk_cell BK145.out 3).trans rfl; have hcz13_4 : w12.cell? ⟨gb145, 4, none⟩ = some (.string a1_4) := (blk_cell BK145.out 4).trans rfl; have hcz13_5 : w12.cell? ⟨gb145, 5, none⟩ = some (.string a1_5) := (blk_cell BK145.out 5).trans rfl; have hfz13_0 := blk_frozen BK145.out 0; have hfz13_1 := blk_frozen BK145.out 1; have hfz13_2 := blk_frozen BK145.out 2; have hfz13_3 := blk_frozen BK145.out 3; have hfz13_4 := blk_frozen BK145.out 4; have hfz13_5 := blk_frozen BK145.out 5) | ((with_reducible refine gate_callee (f := 31) rfl ?_); refine goesL_ (some 15) rfl rfl Tryz.func31 (by kernel_rfl) rfl #[.string a1_4] rfl (by (try simp only [List.map_toArray, List.map_cons, List.map_nil]); first | done | rfl | (simp only [List.length_drop, List.length_take]; rfl)) ?_; (with_reducible refine (scope_Escape.calls a1_4 t147 _ A7.out).mono ?_); rintro e w14 ⟨rfl, hb⟩; refine ⟨_, rfl, ?_⟩; have n0_ := Aside0.mk (blk_below (g := gb145) (o := .cells #[.slice A1_0 l1_0.length c1_0, .slice A1_1 l1_1.length c1_1, .slice A1_2 l1_2.length c1_2, .slice A1_3 l1_3.length c1_3, .string a1_4, .string a1_5] 47 (0, 0)) (by (with_reducible repeat (first | refine blk_drewN ?_ _ | refine blk_drew ?_ | refine blk_alloc ?_ _)); exact BK145.out) hb); have n1_ := Aside0.mk (below_step (by repeat (first | (with_reducible first | exact HB.out | apply below_alloc | apply pw_below_drewN | apply below_drew1 | refine below_set ?_ GE145.out) | exact HB.out)) hb); clear BK145; clear HB; have BK145 := n0_; have HB := n1_; clear n0_ n1_; (try clear hb); (try clear hb2); (try clear hk); (try clear hi); have hcz15_0 : w14.cell? ⟨gb145, 0, none⟩ = some (.slice A1_0 l1_0.length c1_0) := (blk_cell BK145.out 0).trans rfl; have hcz15_1 : w14.cell? ⟨gb145, 1, none⟩ = some (.slice A1_1 l1_1.length c1_1) := (blk_cell BK145.out 1).trans rfl; have hcz15_2 : w14.cell? ⟨gb145, 2, none⟩ = some (.slice A1_2 l1_2.length c1_2) := (blk_cell BK145.out 2).trans rfl; have hcz15_3 : w14.cell? ⟨gb145, 3, none⟩ = some (.slice A1_3 l1_3.length c1_3) := (blk_cell BK145.out 3).trans rfl; have hcz15_4 : w14.cell? ⟨gb145, 4, none⟩ = some (.string a1_4) := (blk_cell BK145.out 4).trans rfl; have hcz15_5 : w14.cell? ⟨gb145, 5, none⟩ = some (.string a1_5) := (blk_cell BK145.out 5).trans rfl; have hfz15_0 := blk_frozen BK145.out 0; have hfz15_1 := blk_frozen BK145.out 1; have hfz15_2 := blk_frozen BK145.out 2; have hfz15_3 := blk_frozen BK145.out 3; have hfz15_4 := blk_frozen BK145.out 4; have hfz15_5 := blk_frozen BK145.out 5))
            (try simp only [Act.put, pA,pB,pC])
            go_cut [6] (fun v6 wc => ∃ (kq : Nat) (x6_9 : ByteArray), v6 = .string x6_9 ∧ Aside0 (print_edge.j0 kq ((⟨#[114]⟩ : ByteArray) ++ t146) x6_9 l1_0 l1_1 l1_2 l1_3 a1_4 a1_5 = some r) ∧ Aside0 (kq ≤ k) ∧ Aside0 (wc.heap[gb145]? = some (.cells #[(.slice A1_0 l1_0.length c1_0), (.slice A1_1 l1_1.length c1_1), (.slice A1_2 l1_2.length c1_2), (.slice A1_3 l1_3.length c1_3), .string a1_4, .string a1_5] 47 (0, 0))) ∧ Aside0 (Below w.heap.size w wc))
            case first =>
              have H := HC10.out
              clear HC10
              by_cases c16 : a1_5.toList = ([] : List UInt8)
              · rw [if_pos c16] at H
                have c16b0 : (a1_5.toList == ([] : List UInt8)) = true := beq_iff_eq.mpr c16
                try have c16b7 : a1_5.toList.isEmpty = true := List.isEmpty_iff.2 (beq_iff_eq.1 c16b0)
                try have c16b8 : (!a1_5.toList.isEmpty) = false := by rw [c16b7]; rfl
                have c16b1 : (a1_5.toList != ([] : List UInt8)) = false := bne_eq_false_iff_eq.mpr c16
                clear c16
                (first | rw [c16b8] | rw [c16b0] | (simp only [i64_w, i32_w]; rw [c16b0]) | skip)
                have H' := Aside0.mk H
                clear H
                go_wp2
                go_meet
                case rel => exact ⟨_, (((((⟨#[114, 117, 108, 101, 32]⟩ : ByteArray) ++ ((⟨#[114]⟩ : ByteArray) ++ t146)) ++ (⟨#[10, 32, 32, 99, 111, 109, 109, 97, 110, 100, 32, 61, 32]⟩ : ByteArray)) ++ t147) ++ (⟨#[10]⟩ : ByteArray)), (by first | rfl | (simp; done) | (simp [*]; done)), H', ⟨by first | omega | exact Nat.le_refl _⟩, ⟨by (with_reducible repeat (first | refine blk_drewN ?_ _ | refine blk_drew ?_ | refine blk_alloc ?_ _)); exact BK145.out⟩, ⟨by repeat (first | (with_reducible first | exact HB.out | apply below_alloc | apply pw_below_drewN | apply below_drew1 | refine below_set ?_ GE145.out) | exact HB.out)⟩⟩
              · rw [if_neg c16] at H
                have c16b0 : (a1_5.toList == ([] : List UInt8)) = false := beq_eq_false_iff_ne.mpr c16
                try have c16b7 : a1_5.toList.isEmpty = false := by have hh_ := beq_eq_false_iff_ne.1 c16b0; cases hq_ : a1_5.toList with | nil => exact absurd hq_ hh_ | cons _ _ => rfl
                try have c16b8 : (!a1_5.toList.isEmpty) = true := by rw [c16b7]; rfl
                have c16b1 : (a1_5.toList != ([] : List UInt8)) = true := bne_iff_ne.mpr c16
                (first | rw [c16b8] | rw [c16b0] | (simp only [i64_w, i32_w]; rw [c16b0]) | skip)
                replace H := Option.bind_eq_some_iff.mp H
                obtain ⟨t148, A170, H⟩ := H
                replace H : (if 12 + t148.size ≤ 9223372036854775807 then (if ((⟨#[32, 32, 100, 101, 112, 102, 105, 108, 101, 32, 61, 32]⟩ : ByteArray) ++ t148).size + 1 ≤ 9223372036854775807 then (if (((((⟨#[114, 117, 108, 101, 32]⟩ : ByteArray) ++ ((⟨#[114]⟩ : ByteArray) ++ t146)) ++ (⟨#[10, 32, 32, 99, 111, 109, 109, 97, 110, 100, 32, 61, 32]⟩ : ByteArray)) ++ t147) ++ (⟨#[10]⟩ : ByteArray)).size + (((⟨#[32, 32, 100, 101, 112, 102, 105, 108, 101, 32, 61, 32]⟩ : ByteArray) ++ t148) ++ (⟨#[10]⟩ : ByteArray)).size ≤ 9223372036854775807 then (print_edge.j0 k ((⟨#[114]⟩ : ByteArray) ++ t146) ((((((⟨#[114, 117, 108, 101, 32]⟩ : ByteArray) ++ ((⟨#[114]⟩ : ByteArray) ++ t146)) ++ (⟨#[10, 32, 32, 99, 111, 109, 109, 97, 110, 100, 32, 61, 32]⟩ : ByteArray)) ++ t147) ++ (⟨#[10]⟩ : ByteArray)) ++ (((⟨#[32, 32, 100, 101, 112, 102, 105, 108, 101, 32, 61, 32]⟩ : ByteArray) ++ t148) ++ (⟨#[10]⟩ : ByteArray))) l1_0 l1_1 l1_2 l1_3 a1_4 a1_5) else (none)) else (none)) else (none)) = some r := H
                have A17 := Aside0.mk A170
                clear A170
                by_cases c18 : 12 + t148.size ≤ 9223372036854775807
                · rw [if_pos c18] at H
                  have c18b0 := eq_true c18
                  have c18b1 : decide (12 + t148.size ≤ 9223372036854775807) = true := decide_eq_true c18
                  try have c18b2 : (9223372036854775807 < 12 + t148.size) = False := eq_false (Nat.not_lt.2 c18)
                  have c18x : 12 + t148.size ≤ 9223372036854775807 := by have hh_ := c18; (try simp only [ByteArray.size_append] at hh_); exact hh_
                  try have c18x0 : (9223372036854775807 < 12 + t148.size) = False := eq_false (by omega)
                  by_cases c19 : ((⟨#[32, 32, 100, 101, 112, 102, 105, 108, 101, 32, 61, 32]⟩ : ByteArray) ++ t148).size + 1 ≤ 9223372036854775807
                  · rw [if_pos c19] at H
                    have c19b0 := eq_true c19
                    have c19b1 : decide (((⟨#[32, 32, 100, 101, 112, 102, 105, 108, 101, 32, 61, 32]⟩ : ByteArray) ++ t148).size + 1 ≤ 9223372036854775807) = true := decide_eq_true c19
                    try have c19b2 : (9223372036854775807 < ((⟨#[32, 32, 100, 101, 112, 102, 105, 108, 101, 32, 61, 32]⟩ : ByteArray) ++ t148).size + 1) = False := eq_false (Nat.not_lt.2 c19)
                    have c19x : 12 + t148.size + 1 ≤ 9223372036854775807 := by have hh_ := c19; (try simp only [ByteArray.size_append] at hh_); exact hh_
                    try have c19x0 : (9223372036854775807 < 12 + t148.size + 1) = False := eq_false (by omega)
                    try have c19x1 : (9223372036854775806 < 12 + t148.size) = False := eq_false (by omega)
                    try have c19b7 : (9223372036854775806 < ((⟨#[32, 32, 100, 101, 112, 102, 105, 108, 101, 32, 61, 32]⟩ : ByteArray) ++ t148).size) = False := eq_false (by omega)
                    have c19e : 12 + t148.size + 1 ≤ 9223372036854775807 := by have hh_ := c19; rw [ByteArray.size_append] at hh_; exact hh_
                    try have c19e0 : (9223372036854775806 < 12 + t148.size) = False := eq_false (by omega)
                    try have c19e1 : (9223372036854775794 < t148.size) = False := eq_false (by omega)
                    try have c19e2 : (9223372036854775807 < 12 + t148.size + 1) = False := eq_false (by omega)
                    try have c19e3 : (9223372036854775806 < t148.size + 12) = False := eq_false (by omega)
                    try have c19e4 : (9223372036854775807 < t148.size + 12 + 1) = False := eq_false (by omega)
                    by_cases c20 : (((((⟨#[114, 117, 108, 101, 32]⟩ : ByteArray) ++ ((⟨#[114]⟩ : ByteArray) ++ t146)) ++ (⟨#[10, 32, 32, 99, 111, 109, 109, 97, 110, 100, 32, 61, 32]⟩ : ByteArray)) ++ t147) ++ (⟨#[10]⟩ : ByteArray)).size + (((⟨#[32, 32, 100, 101, 112, 102, 105, 108, 101, 32, 61, 32]⟩ : ByteArray) ++ t148) ++ (⟨#[10]⟩ : ByteArray)).size ≤ 9223372036854775807
                    · rw [if_pos c20] at H
                      have c20b0 := eq_true c20
                      have c20b1 : decide ((((((⟨#[114, 117, 108, 101, 32]⟩ : ByteArray) ++ ((⟨#[114]⟩ : ByteArray) ++ t146)) ++ (⟨#[10, 32, 32, 99, 111, 109, 109, 97, 110, 100, 32, 61, 32]⟩ : ByteArray)) ++ t147) ++ (⟨#[10]⟩ : ByteArray)).size + (((⟨#[32, 32, 100, 101, 112, 102, 105, 108, 101, 32, 61, 32]⟩ : ByteArray) ++ t148) ++ (⟨#[10]⟩ : ByteArray)).size ≤ 9223372036854775807) = true := decide_eq_true c20
                      try have c20b2 : (9223372036854775807 < (((((⟨#[114, 117, 108, 101, 32]⟩ : ByteArray) ++ ((⟨#[114]⟩ : ByteArray) ++ t146)) ++ (⟨#[10, 32, 32, 99, 111, 109, 109, 97, 110, 100, 32, 61, 32]⟩ : ByteArray)) ++ t147) ++ (⟨#[10]⟩ : ByteArray)).size + (((⟨#[32, 32, 100, 101, 112, 102, 105, 108, 101, 32, 61, 32]⟩ : ByteArray) ++ t148) ++ (⟨#[10]⟩ : ByteArray)).size) = False := eq_false (Nat.not_lt.2 c20)
                      have c20x : 5 + (1 + t146.size) + 13 + t147.size + 1 + (12 + t148.size + 1) ≤ 9223372036854775807 := by have hh_ := c20; (try simp only [ByteArray.size_append] at hh_); exact hh_
                      try have c20x0 : (9223372036854775807 < 5 + (1 + t146.size) + 13 + t147.size + 1 + (12 + t148.size + 1)) = False := eq_false (by omega)
                      try have c20x1 : (9223372036854775806 < 5 + (1 + t146.size) + 13 + t147.size + 1 + (12 + t148.size)) = False := eq_false (by omega)
                      have H' := Aside0.mk H
                      clear H
                      have hcz21_0 : w14.cell? ⟨gb145, 0, none⟩ = some (.slice A1_0 l1_0.length c1_0) := (blk_cell BK145.out 0).trans rfl
                      have hcz21_1 : w14.cell? ⟨gb145, 1, none⟩ = some (.slice A1_1 l1_1.length c1_1) := (blk_cell BK145.out 1).trans rfl
                      have hcz21_2 : w14.cell? ⟨gb145, 2, none⟩ = some (.slice A1_2 l1_2.length c1_2) := (blk_cell BK145.out 2).trans rfl
                      have hcz21_3 : w14.cell? ⟨gb145, 3, none⟩ = some (.slice A1_3 l1_3.length c1_3) := (blk_cell BK145.out 3).trans rfl
                      have hcz21_4 : w14.cell? ⟨gb145, 4, none⟩ = some (.string a1_4) := (blk_cell BK145.out 4).trans rfl
                      have hcz21_5 : w14.cell? ⟨gb145, 5, none⟩ = some (.string a1_5) := (blk_cell BK145.out 5).trans rfl
                      have hfz21_0 := blk_frozen BK145.out 0
                      have hfz21_1 := blk_frozen BK145.out 1
                      have hfz21_2 := blk_frozen BK145.out 2
                      have hfz21_3 := blk_frozen BK145.out 3
                      have hfz21_4 := blk_frozen BK145.out 4
                      have hfz21_5 := blk_frozen BK145.out 5
                      go_wp2_with (first | ((with_reducible refine gate_callee (f := 31) rfl ?_); refine goesL_ (some 24) rfl rfl Tryz.func31 (by kernel_rfl) rfl #[.string a1_5] rfl (by (try simp only [List.map_toArray, List.map_cons, List.map_nil]); first | done | rfl | (simp only [List.length_drop, List.length_take]; rfl)) ?_; (with_reducible refine (scope_Escape.calls a1_5 t148 _ A17.out).mono ?_); rintro e w22 ⟨rfl, hb⟩; refine ⟨_, rfl, ?_⟩; have n0_ := Aside0.mk (blk_below (g := gb145) (o := .cells #[.slice A1_0 l1_0.length c1_0, .slice A1_1 l1_1.length c1_1, .slice A1_2 l1_2.length c1_2, .slice A1_3 l1_3.length c1_3, .string a1_4, .string a1_5] 47 (0, 0)) (by (with_reducible repeat (first | refine blk_drewN ?_ _ | refine blk_drew ?_ | refine blk_alloc ?_ _)); exact BK145.out) hb); have n1_ := Aside0.mk (below_step (by repeat (first | (with_reducible first | exact HB.out | apply below_alloc | apply pw_below_drewN | apply below_drew1 | refine below_set ?_ GE145.out) | exact HB.out)) hb); clear BK145; clear HB; have BK145 := n0_; have HB := n1_; clear n0_ n1_; (try clear hb); (try clear hb2); (try clear hk); (try clear hi)))
                      go_meet
                      case rel => exact ⟨_, ((((((⟨#[114, 117, 108, 101, 32]⟩ : ByteArray) ++ ((⟨#[114]⟩ : ByteArray) ++ t146)) ++ (⟨#[10, 32, 32, 99, 111, 109, 109, 97, 110, 100, 32, 61, 32]⟩ : ByteArray)) ++ t147) ++ (⟨#[10]⟩ : ByteArray)) ++ (((⟨#[32, 32, 100, 101, 112, 102, 105, 108, 101, 32, 61, 32]⟩ : ByteArray) ++ t148) ++ (⟨#[10]⟩ : ByteArray))), (by first | rfl | (simp; done) | (simp [*]; done)), H', ⟨by first | omega | exact Nat.le_refl _⟩, ⟨by (with_reducible repeat (first | refine blk_drewN ?_ _ | refine blk_drew ?_ | refine blk_alloc ?_ _)); exact BK145.out⟩, ⟨by repeat (first | (with_reducible first | exact HB.out | apply below_alloc | apply pw_below_drewN | apply below_drew1 | refine below_set ?_ GE145.out) | exact HB.out)⟩⟩
                    · rw [if_neg c20] at H
                      exact absurd H (by simp)
                  · rw [if_neg c19] at H
                    exact absurd H (by simp)
                · rw [if_neg c18] at H
                  exact absurd H (by simp)
            case rest =>
              clear HC10
              try clear c1
              try clear c2
              try clear p2
              try clear c3
              try clear c4
              try clear c4b0
              try clear c4b1
              try clear c4b2
              try clear c5
              try clear c5b0
              try clear c5b1
              try clear c5b2
              try clear c6
              try clear c6b0
              try clear c6b1
              try clear c6b2
              try clear c8
              try clear c8b0
              try clear c8b1
              try clear c8b2
              try clear c9
              try clear c9b0
              try clear c9b1
              try clear c9b2
              try clear c14
              try clear c16
              try clear c16b0
              try clear c16b1
              try clear c18
              try clear c18b0
              try clear c18b1
              try clear c18b2
              try clear c19
              try clear c19b0
              try clear c19b1
              try clear c19b2
              try clear c20
              try clear c20b0
              try clear c20b1
              try clear c20b2
              try clear hcz13_0
              try clear hcz13_1
              try clear hcz13_2
              try clear hcz13_3
              try clear hcz13_4
              try clear hcz13_5
              try clear hcz15_0
              try clear hcz15_1
              try clear hcz15_2
              try clear hcz15_3
              try clear hcz15_4
              try clear hcz15_5
              try clear hcz21_0
              try clear hcz21_1
              try clear hcz21_2
              try clear hcz21_3
              try clear hcz21_4
              try clear hcz21_5
              try clear hfz13_0
              try clear hfz13_1
              try clear hfz13_2
              try clear hfz13_3
              try clear hfz13_4
              try clear hfz13_5
              try clear hfz15_0
              try clear hfz15_1
              try clear hfz15_2
              try clear hfz15_3
              try clear hfz15_4
              try clear hfz15_5
              try clear hfz21_0
              try clear hfz21_1
              try clear hfz21_2
              try clear hfz21_3
              try clear hfz21_4
              try clear hfz21_5
              obtain ⟨kq, x6_9, rfl, HA, HJ9, BK145, HB⟩ := hcut
              cases kq with
              | zero => exact absurd HA.out (by simp [print_edge.j0])
              | succ kj9 =>
                have H := HA.out
                clear HA
                simp only [print_edge.j0] at H
                replace H := Option.bind_eq_some_iff.mp H
                obtain ⟨t149, A230, H⟩ := H
                replace H : (if x6_9.size + t149.size ≤ 9223372036854775807 then (if (x6_9 ++ t149).size + 2 ≤ 9223372036854775807 then (if ((x6_9 ++ t149) ++ (⟨#[58, 32]⟩ : ByteArray)).size + ((⟨#[114]⟩ : ByteArray) ++ t146).size ≤ 9223372036854775807 then ((print_row.f (⟨#[]⟩ : ByteArray) l1_1).bind fun t150 => (if (((x6_9 ++ t149) ++ (⟨#[58, 32]⟩ : ByteArray)) ++ ((⟨#[114]⟩ : ByteArray) ++ t146)).size + t150.size ≤ 9223372036854775807 then ((print_row.f (⟨#[32, 124]⟩ : ByteArray) l1_2).bind fun t151 => (if ((((x6_9 ++ t149) ++ (⟨#[58, 32]⟩ : ByteArray)) ++ ((⟨#[114]⟩ : ByteArray) ++ t146)) ++ t150).size + t151.size ≤ 9223372036854775807 then ((print_row.f (⟨#[32, 124, 124]⟩ : ByteArray) l1_3).bind fun t152 => (if (((((x6_9 ++ t149) ++ (⟨#[58, 32]⟩ : ByteArray)) ++ ((⟨#[114]⟩ : ByteArray) ++ t146)) ++ t150) ++ t151).size + t152.size ≤ 9223372036854775807 then (if ((((((x6_9 ++ t149) ++ (⟨#[58, 32]⟩ : ByteArray)) ++ ((⟨#[114]⟩ : ByteArray) ++ t146)) ++ t150) ++ t151) ++ t152).size + 1 ≤ 9223372036854775807 then (some (((((((x6_9 ++ t149) ++ (⟨#[58, 32]⟩ : ByteArray)) ++ ((⟨#[114]⟩ : ByteArray) ++ t146)) ++ t150) ++ t151) ++ t152) ++ (⟨#[10]⟩ : ByteArray))) else (none)) else (none))) else (none))) else (none))) else (none)) else (none)) else (none)) = some r := H
                have A23 := Aside0.mk A230
                clear A230
                by_cases c24 : x6_9.size + t149.size ≤ 9223372036854775807
                · rw [if_pos c24] at H
                  have c24b0 := eq_true c24
                  have c24b1 : decide (x6_9.size + t149.size ≤ 9223372036854775807) = true := decide_eq_true c24
                  try have c24b2 : (9223372036854775807 < x6_9.size + t149.size) = False := eq_false (Nat.not_lt.2 c24)
                  have c24x : x6_9.size + t149.size ≤ 9223372036854775807 := by have hh_ := c24; (try simp only [ByteArray.size_append] at hh_); exact hh_
                  try have c24x0 : (9223372036854775807 < x6_9.size + t149.size) = False := eq_false (by omega)
                  have c24w : wrap64 ((x6_9.size : Int) + (t149.size : Int)) = (x6_9.size : Int) + (t149.size : Int) := wrap_two_YtbjekebkgidhaaaGreatDoorPPrintEdge0 _ _ c24
                  clear c24w
                  by_cases c25 : (x6_9 ++ t149).size + 2 ≤ 9223372036854775807
                  · rw [if_pos c25] at H
                    have c25b0 := eq_true c25
                    have c25b1 : decide ((x6_9 ++ t149).size + 2 ≤ 9223372036854775807) = true := decide_eq_true c25
                    try have c25b2 : (9223372036854775807 < (x6_9 ++ t149).size + 2) = False := eq_false (Nat.not_lt.2 c25)
                    have c25x : x6_9.size + t149.size + 2 ≤ 9223372036854775807 := by have hh_ := c25; (try simp only [ByteArray.size_append] at hh_); exact hh_
                    try have c25x0 : (9223372036854775807 < x6_9.size + t149.size + 2) = False := eq_false (by omega)
                    try have c25x1 : (9223372036854775805 < x6_9.size + t149.size) = False := eq_false (by omega)
                    try have c25b7 : (9223372036854775805 < (x6_9 ++ t149).size) = False := eq_false (by omega)
                    try have c25b8 : (9223372036854775807 < x6_9.size + t149.size + 2) = False := by simpa only [ByteArray.size_append] using c25b2
                    try have c25b9 : (9223372036854775805 < x6_9.size + t149.size) = False := eq_false (by have hh_ := c25; rw [ByteArray.size_append] at hh_; omega)
                    by_cases c26 : ((x6_9 ++ t149) ++ (⟨#[58, 32]⟩ : ByteArray)).size + ((⟨#[114]⟩ : ByteArray) ++ t146).size ≤ 9223372036854775807
                    · rw [if_pos c26] at H
                      have c26b0 := eq_true c26
                      have c26b1 : decide (((x6_9 ++ t149) ++ (⟨#[58, 32]⟩ : ByteArray)).size + ((⟨#[114]⟩ : ByteArray) ++ t146).size ≤ 9223372036854775807) = true := decide_eq_true c26
                      try have c26b2 : (9223372036854775807 < ((x6_9 ++ t149) ++ (⟨#[58, 32]⟩ : ByteArray)).size + ((⟨#[114]⟩ : ByteArray) ++ t146).size) = False := eq_false (Nat.not_lt.2 c26)
                      have c26x : x6_9.size + t149.size + 2 + (1 + t146.size) ≤ 9223372036854775807 := by have hh_ := c26; (try simp only [ByteArray.size_append] at hh_); exact hh_
                      try have c26x0 : (9223372036854775807 < x6_9.size + t149.size + 2 + (1 + t146.size)) = False := eq_false (by omega)
                      replace H := Option.bind_eq_some_iff.mp H
                      obtain ⟨t150, A270, H⟩ := H
                      replace H : (if (((x6_9 ++ t149) ++ (⟨#[58, 32]⟩ : ByteArray)) ++ ((⟨#[114]⟩ : ByteArray) ++ t146)).size + t150.size ≤ 9223372036854775807 then ((print_row.f (⟨#[32, 124]⟩ : ByteArray) l1_2).bind fun t151 => (if ((((x6_9 ++ t149) ++ (⟨#[58, 32]⟩ : ByteArray)) ++ ((⟨#[114]⟩ : ByteArray) ++ t146)) ++ t150).size + t151.size ≤ 9223372036854775807 then ((print_row.f (⟨#[32, 124, 124]⟩ : ByteArray) l1_3).bind fun t152 => (if (((((x6_9 ++ t149) ++ (⟨#[58, 32]⟩ : ByteArray)) ++ ((⟨#[114]⟩ : ByteArray) ++ t146)) ++ t150) ++ t151).size + t152.size ≤ 9223372036854775807 then (if ((((((x6_9 ++ t149) ++ (⟨#[58, 32]⟩ : ByteArray)) ++ ((⟨#[114]⟩ : ByteArray) ++ t146)) ++ t150) ++ t151) ++ t152).size + 1 ≤ 9223372036854775807 then (some (((((((x6_9 ++ t149) ++ (⟨#[58, 32]⟩ : ByteArray)) ++ ((⟨#[114]⟩ : ByteArray) ++ t146)) ++ t150) ++ t151) ++ t152) ++ (⟨#[10]⟩ : ByteArray))) else (none)) else (none))) else (none))) else (none)) = some r := H
                      have A27 := Aside0.mk A270
                      clear A270
                      by_cases c28 : (((x6_9 ++ t149) ++ (⟨#[58, 32]⟩ : ByteArray)) ++ ((⟨#[114]⟩ : ByteArray) ++ t146)).size + t150.size ≤ 9223372036854775807
                      · rw [if_pos c28] at H
                        have c28b0 := eq_true c28
                        have c28b1 : decide ((((x6_9 ++ t149) ++ (⟨#[58, 32]⟩ : ByteArray)) ++ ((⟨#[114]⟩ : ByteArray) ++ t146)).size + t150.size ≤ 9223372036854775807) = true := decide_eq_true c28
                        try have c28b2 : (9223372036854775807 < (((x6_9 ++ t149) ++ (⟨#[58, 32]⟩ : ByteArray)) ++ ((⟨#[114]⟩ : ByteArray) ++ t146)).size + t150.size) = False := eq_false (Nat.not_lt.2 c28)
                        have c28x : x6_9.size + t149.size + 2 + (1 + t146.size) + t150.size ≤ 9223372036854775807 := by have hh_ := c28; (try simp only [ByteArray.size_append] at hh_); exact hh_
                        try have c28x0 : (9223372036854775807 < x6_9.size + t149.size + 2 + (1 + t146.size) + t150.size) = False := eq_false (by omega)
                        replace H := Option.bind_eq_some_iff.mp H
                        obtain ⟨t151, A290, H⟩ := H
                        replace H : (if ((((x6_9 ++ t149) ++ (⟨#[58, 32]⟩ : ByteArray)) ++ ((⟨#[114]⟩ : ByteArray) ++ t146)) ++ t150).size + t151.size ≤ 9223372036854775807 then ((print_row.f (⟨#[32, 124, 124]⟩ : ByteArray) l1_3).bind fun t152 => (if (((((x6_9 ++ t149) ++ (⟨#[58, 32]⟩ : ByteArray)) ++ ((⟨#[114]⟩ : ByteArray) ++ t146)) ++ t150) ++ t151).size + t152.size ≤ 9223372036854775807 then (if ((((((x6_9 ++ t149) ++ (⟨#[58, 32]⟩ : ByteArray)) ++ ((⟨#[114]⟩ : ByteArray) ++ t146)) ++ t150) ++ t151) ++ t152).size + 1 ≤ 9223372036854775807 then (some (((((((x6_9 ++ t149) ++ (⟨#[58, 32]⟩ : ByteArray)) ++ ((⟨#[114]⟩ : ByteArray) ++ t146)) ++ t150) ++ t151) ++ t152) ++ (⟨#[10]⟩ : ByteArray))) else (none)) else (none))) else (none)) = some r := H
                        have A29 := Aside0.mk A290
                        clear A290
                        by_cases c30 : ((((x6_9 ++ t149) ++ (⟨#[58, 32]⟩ : ByteArray)) ++ ((⟨#[114]⟩ : ByteArray) ++ t146)) ++ t150).size + t151.size ≤ 9223372036854775807
                        · rw [if_pos c30] at H
                          have c30b0 := eq_true c30
                          have c30b1 : decide (((((x6_9 ++ t149) ++ (⟨#[58, 32]⟩ : ByteArray)) ++ ((⟨#[114]⟩ : ByteArray) ++ t146)) ++ t150).size + t151.size ≤ 9223372036854775807) = true := decide_eq_true c30
                          try have c30b2 : (9223372036854775807 < ((((x6_9 ++ t149) ++ (⟨#[58, 32]⟩ : ByteArray)) ++ ((⟨#[114]⟩ : ByteArray) ++ t146)) ++ t150).size + t151.size) = False := eq_false (Nat.not_lt.2 c30)
                          have c30x : x6_9.size + t149.size + 2 + (1 + t146.size) + t150.size + t151.size ≤ 9223372036854775807 := by have hh_ := c30; (try simp only [ByteArray.size_append] at hh_); exact hh_
                          try have c30x0 : (9223372036854775807 < x6_9.size + t149.size + 2 + (1 + t146.size) + t150.size + t151.size) = False := eq_false (by omega)
                          replace H := Option.bind_eq_some_iff.mp H
                          obtain ⟨t152, A310, H⟩ := H
                          replace H : (if (((((x6_9 ++ t149) ++ (⟨#[58, 32]⟩ : ByteArray)) ++ ((⟨#[114]⟩ : ByteArray) ++ t146)) ++ t150) ++ t151).size + t152.size ≤ 9223372036854775807 then (if ((((((x6_9 ++ t149) ++ (⟨#[58, 32]⟩ : ByteArray)) ++ ((⟨#[114]⟩ : ByteArray) ++ t146)) ++ t150) ++ t151) ++ t152).size + 1 ≤ 9223372036854775807 then (some (((((((x6_9 ++ t149) ++ (⟨#[58, 32]⟩ : ByteArray)) ++ ((⟨#[114]⟩ : ByteArray) ++ t146)) ++ t150) ++ t151) ++ t152) ++ (⟨#[10]⟩ : ByteArray))) else (none)) else (none)) = some r := H
                          have A31 := Aside0.mk A310
                          clear A310
                          by_cases c32 : (((((x6_9 ++ t149) ++ (⟨#[58, 32]⟩ : ByteArray)) ++ ((⟨#[114]⟩ : ByteArray) ++ t146)) ++ t150) ++ t151).size + t152.size ≤ 9223372036854775807
                          · rw [if_pos c32] at H
                            have c32b0 := eq_true c32
                            have c32b1 : decide ((((((x6_9 ++ t149) ++ (⟨#[58, 32]⟩ : ByteArray)) ++ ((⟨#[114]⟩ : ByteArray) ++ t146)) ++ t150) ++ t151).size + t152.size ≤ 9223372036854775807) = true := decide_eq_true c32
                            try have c32b2 : (9223372036854775807 < (((((x6_9 ++ t149) ++ (⟨#[58, 32]⟩ : ByteArray)) ++ ((⟨#[114]⟩ : ByteArray) ++ t146)) ++ t150) ++ t151).size + t152.size) = False := eq_false (Nat.not_lt.2 c32)
                            have c32x : x6_9.size + t149.size + 2 + (1 + t146.size) + t150.size + t151.size + t152.size ≤ 9223372036854775807 := by have hh_ := c32; (try simp only [ByteArray.size_append] at hh_); exact hh_
                            try have c32x0 : (9223372036854775807 < x6_9.size + t149.size + 2 + (1 + t146.size) + t150.size + t151.size + t152.size) = False := eq_false (by omega)
                            by_cases c33 : ((((((x6_9 ++ t149) ++ (⟨#[58, 32]⟩ : ByteArray)) ++ ((⟨#[114]⟩ : ByteArray) ++ t146)) ++ t150) ++ t151) ++ t152).size + 1 ≤ 9223372036854775807
                            · rw [if_pos c33] at H
                              have c33b0 := eq_true c33
                              have c33b1 : decide (((((((x6_9 ++ t149) ++ (⟨#[58, 32]⟩ : ByteArray)) ++ ((⟨#[114]⟩ : ByteArray) ++ t146)) ++ t150) ++ t151) ++ t152).size + 1 ≤ 9223372036854775807) = true := decide_eq_true c33
                              try have c33b2 : (9223372036854775807 < ((((((x6_9 ++ t149) ++ (⟨#[58, 32]⟩ : ByteArray)) ++ ((⟨#[114]⟩ : ByteArray) ++ t146)) ++ t150) ++ t151) ++ t152).size + 1) = False := eq_false (Nat.not_lt.2 c33)
                              have c33x : x6_9.size + t149.size + 2 + (1 + t146.size) + t150.size + t151.size + t152.size + 1 ≤ 9223372036854775807 := by have hh_ := c33; (try simp only [ByteArray.size_append] at hh_); exact hh_
                              try have c33x0 : (9223372036854775807 < x6_9.size + t149.size + 2 + (1 + t146.size) + t150.size + t151.size + t152.size + 1) = False := eq_false (by omega)
                              try have c33x1 : (9223372036854775806 < x6_9.size + t149.size + 2 + (1 + t146.size) + t150.size + t151.size + t152.size) = False := eq_false (by omega)
                              try have c33b7 : (9223372036854775806 < ((((((x6_9 ++ t149) ++ (⟨#[58, 32]⟩ : ByteArray)) ++ ((⟨#[114]⟩ : ByteArray) ++ t146)) ++ t150) ++ t151) ++ t152).size) = False := eq_false (by omega)
                              obtain rfl := Option.some.inj H
                              try go_wp2
                              have n0_ := Aside0.mk (blk_drew BK145.out)
                              have n1_ := Aside0.mk (below_drew1 HB.out)
                              clear BK145
                              clear HB
                              have BK145 := n0_
                              have HB := n1_
                              clear n0_ n1_
                              refine start_ (n := 22) (S := fun w' => w'.cell? ⟨gb145, 0, none⟩ = some (.slice A1_0 l1_0.length c1_0) ∧ w'.cell? ⟨gb145, 1, none⟩ = some (.slice A1_1 l1_1.length c1_1) ∧ w'.cell? ⟨gb145, 2, none⟩ = some (.slice A1_2 l1_2.length c1_2) ∧ w'.cell? ⟨gb145, 3, none⟩ = some (.slice A1_3 l1_3.length c1_3) ∧ w'.cell? ⟨gb145, 4, none⟩ = some (.string a1_4) ∧ w'.cell? ⟨gb145, 5, none⟩ = some (.string a1_5)) (ds := []) #[false, false, false, false, false, false, false, false, false, false, false, false, false, false, false, false, false, false, false, false, false, false] (by kernel_rfl) rfl rfl ⟨(blk_cell BK145.out 0).trans rfl, (blk_cell BK145.out 1).trans rfl, (blk_cell BK145.out 2).trans rfl, (blk_cell BK145.out 3).trans rfl, (blk_cell BK145.out 4).trans rfl, (blk_cell BK145.out 5).trans rfl⟩ (fun hHeld => ?_); refine with_tabW print_edge.tab5 print_edge.bits5 (fun HT_ HW_ => ?_)
                              generalize wc.drew = w34 at BK145 HB hHeld ⊢
                              refine pure_ (i := 0) (N := some 28) (v := ?_) (a' := ?_) #[true, false, false, false, false, false, false, false, false, false, false, false, false, false, false, false, false, false, false, false, false, false] rfl rfl (any_of HT_.out (by kernel_rfl)) (fun _ _ _ h => h) (Or.inl ⟨by rfl, ?_⟩) ?_ ?_
                              rotate_left
                              · intro w'
                                go_simp
                                with_reducible rfl
                              rotate_left
                              · simp only [Act.put, pA,pB,pC, i64_w, i32_w]
                                rfl
                              refine pure_ (i := 1) (N := some 29) (v := ?_) (a' := ?_) #[true, true, false, false, false, false, false, false, false, false, false, false, false, false, false, false, false, false, false, false, false, false] rfl rfl (any_of HT_.out (by kernel_rfl)) (fun _ _ _ h => h) (Or.inl ⟨by rfl, ?_⟩) ?_ ?_
                              rotate_left
                              · intro w'
                                go_simp
                                with_reducible rfl
                              rotate_left
                              · simp only [Act.put, pA,pB,pC, i64_w, i32_w]
                                rfl
                              refine pure_ (i := 6) (N := some 34) (v := ?_) (a' := ?_) #[true, true, false, false, false, false, true, false, false, false, false, false, false, false, false, false, false, false, false, false, false, false] rfl rfl (any_of HT_.out (by kernel_rfl)) (fun _ _ _ h => h) (Or.inl ⟨by rfl, ?_⟩) ?_ ?_
                              rotate_left
                              · intro w'
                                go_simp
                                with_reducible rfl
                              rotate_left
                              · simp only [Act.put, pA,pB,pC, i64_w, i32_w]
                                rfl
                              refine pure_ (i := 8) (N := some 36) (v := ?_) (a' := ?_) #[true, true, false, false, false, false, true, false, true, false, false, false, false, false, false, false, false, false, false, false, false, false] rfl rfl (any_of HT_.out (by kernel_rfl)) (fun _ _ _ h => h) (Or.inl ⟨by rfl, ?_⟩) ?_ ?_
                              rotate_left
                              · intro w'
                                go_simp
                                with_reducible rfl
                              rotate_left
                              · simp only [Act.put, pA,pB,pC, i64_w, i32_w]
                                rfl
                              refine pure_ (i := 12) (N := some 40) (v := ?_) (a' := ?_) #[true, true, false, false, false, false, true, false, true, false, false, false, true, false, false, false, false, false, false, false, false, false] rfl rfl (any_of HT_.out (by kernel_rfl)) (fun _ _ _ h => h) (Or.inl ⟨by rfl, ?_⟩) ?_ ?_
                              rotate_left
                              · intro w'
                                go_simp
                                with_reducible rfl
                              rotate_left
                              · simp only [Act.put, pA,pB,pC, i64_w, i32_w]
                                rfl
                              refine pure_ (i := 16) (N := some 44) (v := ?_) (a' := ?_) #[true, true, false, false, false, false, true, false, true, false, false, false, true, false, false, false, true, false, false, false, false, false] rfl rfl (any_of HT_.out (by kernel_rfl)) (fun _ _ _ h => h) (Or.inl ⟨by rfl, ?_⟩) ?_ ?_
                              rotate_left
                              · intro w'
                                go_simp
                                with_reducible rfl
                              rotate_left
                              · simp only [Act.put, pA,pB,pC, i64_w, i32_w]
                                rfl
                              refine take_ (i := 2) (N := some 30) (v := ?_) (a' := ?_) #[true, true, true, false, false, false, true, false, true, false, false, false, true, false, false, false, true, false, false, false, false, false] rfl rfl (take_ofW HT_.out HW_.out (by kernel_rfl)) (fun _ _ _ h => h) (Or.inl ⟨by rfl, ?_⟩) hHeld ?_ ?_
                              rotate_left
                              · rintro w' ⟨s0, s1, s2, s3, s4, s5⟩
                                go_simp
                                with_reducible rfl
                              rotate_left
                              · simp only [Act.put, pA,pB,pC, i64_w, i32_w]
                                rfl
                              refine take_ (i := 9) (N := some 37) (v := ?_) (a' := ?_) #[true, true, true, false, false, false, true, false, true, true, false, false, true, false, false, false, true, false, false, false, false, false] rfl rfl (take_ofW HT_.out HW_.out (by kernel_rfl)) (fun _ _ _ h => h) (Or.inl ⟨by rfl, ?_⟩) hHeld ?_ ?_
                              rotate_left
                              · rintro w' ⟨s0, s1, s2, s3, s4, s5⟩
                                go_simp
                                with_reducible rfl
                              rotate_left
                              · simp only [Act.put, pA,pB,pC, i64_w, i32_w]
                                rfl
                              refine take_ (i := 13) (N := some 41) (v := ?_) (a' := ?_) #[true, true, true, false, false, false, true, false, true, true, false, false, true, true, false, false, true, false, false, false, false, false] rfl rfl (take_ofW HT_.out HW_.out (by kernel_rfl)) (fun _ _ _ h => h) (Or.inl ⟨by rfl, ?_⟩) hHeld ?_ ?_
                              rotate_left
                              · rintro w' ⟨s0, s1, s2, s3, s4, s5⟩
                                go_simp
                                with_reducible rfl
                              rotate_left
                              · simp only [Act.put, pA,pB,pC, i64_w, i32_w]
                                rfl
                              refine take_ (i := 17) (N := some 45) (v := ?_) (a' := ?_) #[true, true, true, false, false, false, true, false, true, true, false, false, true, true, false, false, true, true, false, false, false, false] rfl rfl (take_ofW HT_.out HW_.out (by kernel_rfl)) (fun _ _ _ h => h) (Or.inl ⟨by rfl, ?_⟩) hHeld ?_ ?_
                              rotate_left
                              · rintro w' ⟨s0, s1, s2, s3, s4, s5⟩
                                go_simp
                                with_reducible rfl
                              rotate_left
                              · simp only [Act.put, pA,pB,pC, i64_w, i32_w]
                                rfl
                              refine one_ (i := 3) (N := some 31) #[true, true, true, true, false, false, true, false, true, true, false, false, true, true, false, false, true, true, false, false, false, false] rfl rfl (one_of HT_.out (by kernel_rfl)) (by decide) (fun K hK => ?_)
                              refine goes_ Tryz.func15 (by kernel_rfl) rfl #[.string (⟨#[98, 117, 105, 108, 100]⟩ : ByteArray), .slice A1_0 l1_0.length c1_0] (by rfl) rfl rfl (by (try simp only [List.map_toArray, List.map_cons, List.map_nil]); first | done | rfl | (simp only [List.length_drop, List.length_take]; rfl)) ?_
                              with_reducible refine (print_row.calls (⟨#[98, 117, 105, 108, 100]⟩ : ByteArray) _ _ l1_0 t149 _ ?side1 ?side2 A23.out).mono ?_
                              (case side1 => repeat (first | exact (Kd.C_below HR1_0.out HB.out) | (with_reducible refine Kd.C_alloc ?_ _) | (with_reducible refine Kd.C_drewN ?_ _) | (with_reducible refine Kd.C_drew ?_)))
                              (case side2 => exact HC1_0.out)
                              rintro e w35 ⟨rfl, hb⟩
                              refine ⟨_, rfl, ?_⟩
                              have n0_ := Aside0.mk (blk_below (g := gb145) (o := .cells #[.slice A1_0 l1_0.length c1_0, .slice A1_1 l1_1.length c1_1, .slice A1_2 l1_2.length c1_2, .slice A1_3 l1_3.length c1_3, .string a1_4, .string a1_5] 47 (0, 0)) (by (with_reducible repeat (first | refine blk_drewN ?_ _ | refine blk_drew ?_ | refine blk_alloc ?_ _)); exact BK145.out) hb)
                              have n1_ := Aside0.mk (below_step (by repeat (first | (with_reducible first | exact HB.out | apply below_alloc | apply pw_below_drewN | apply below_drew1 | refine below_set ?_ GE145.out) | exact HB.out)) hb)
                              clear BK145
                              clear HB
                              have BK145 := n0_
                              have HB := n1_
                              clear n0_ n1_
                              (try clear hb)
                              (try clear hb2)
                              (try clear hk)
                              (try clear hi)
                              refine hK.out _ _ ⟨(blk_cell BK145.out 0).trans rfl, (blk_cell BK145.out 1).trans rfl, (blk_cell BK145.out 2).trans rfl, (blk_cell BK145.out 3).trans rfl, (blk_cell BK145.out 4).trans rfl, (blk_cell BK145.out 5).trans rfl⟩ (fun hHeld => ?_)
                              clear hK K
                              refine norm_ (a' := ?_) ?_ ?_
                              rotate_left
                              · show Act.put _ (some 31) _ = _
                                simp only [Act.put, pA,pB,pC, i64_w, i32_w]
                                rfl
                              refine pure_ (i := 4) (N := some 32) (v := ?_) (a' := ?_) #[true, true, true, true, true, false, true, false, true, true, false, false, true, true, false, false, true, true, false, false, false, false] rfl rfl (any_of HT_.out (by kernel_rfl)) (fun _ _ _ h => h) (Or.inl ⟨by rfl, ?_⟩) ?_ ?_
                              rotate_left
                              · intro w'
                                go_simp
                                with_reducible rfl
                              rotate_left
                              · simp only [Act.put, pA,pB,pC, i64_w, i32_w]
                                rfl
                              refine pure_ (i := 5) (N := some 33) (v := ?_) (a' := ?_) #[true, true, true, true, true, true, true, false, true, true, false, false, true, true, false, false, true, true, false, false, false, false] rfl rfl (any_of HT_.out (by kernel_rfl)) (fun _ _ _ h => h) (Or.inl ⟨by rfl, ?_⟩) ?_ ?_
                              rotate_left
                              · intro w'
                                go_simp
                                with_reducible rfl
                              rotate_left
                              · simp only [Act.put, pA,pB,pC, i64_w, i32_w]
                                rfl
                              refine pure_ (i := 7) (N := some 35) (v := ?_) (a' := ?_) #[true, true, true, true, true, true, true, true, true, true, false, false, true, true, false, false, true, true, false, false, false, false] rfl rfl (any_of HT_.out (by kernel_rfl)) (fun _ _ _ h => h) (Or.inl ⟨by rfl, ?_⟩) ?_ ?_
                              rotate_left
                              · intro w'
                                go_simp
                                with_reducible rfl
                              rotate_left
                              · simp only [Act.put, pA,pB,pC, i64_w, i32_w]
                                rfl
                              refine one_ (i := 10) (N := some 38) #[true, true, true, true, true, true, true, true, true, true, true, false, true, true, false, false, true, true, false, false, false, false] rfl rfl (one_of HT_.out (by kernel_rfl)) (by decide) (fun K hK => ?_)
                              refine goes_ Tryz.func15 (by kernel_rfl) rfl #[.string (⟨#[]⟩ : ByteArray), .slice A1_1 l1_1.length c1_1] (by rfl) rfl rfl (by (try simp only [List.map_toArray, List.map_cons, List.map_nil]); first | done | rfl | (simp only [List.length_drop, List.length_take]; rfl)) ?_
                              with_reducible refine (print_row.calls (⟨#[]⟩ : ByteArray) _ _ l1_1 t150 _ ?side1 ?side2 A27.out).mono ?_
                              (case side1 => repeat (first | exact (Kd.C_below HR1_1.out HB.out) | (with_reducible refine Kd.C_alloc ?_ _) | (with_reducible refine Kd.C_drewN ?_ _) | (with_reducible refine Kd.C_drew ?_)))
                              (case side2 => exact HC1_1.out)
                              rintro e w36 ⟨rfl, hb⟩
                              refine ⟨_, rfl, ?_⟩
                              have n0_ := Aside0.mk (blk_below (g := gb145) (o := .cells #[.slice A1_0 l1_0.length c1_0, .slice A1_1 l1_1.length c1_1, .slice A1_2 l1_2.length c1_2, .slice A1_3 l1_3.length c1_3, .string a1_4, .string a1_5] 47 (0, 0)) (by (with_reducible repeat (first | refine blk_drewN ?_ _ | refine blk_drew ?_ | refine blk_alloc ?_ _)); exact BK145.out) hb)
                              have n1_ := Aside0.mk (below_step (by repeat (first | (with_reducible first | exact HB.out | apply below_alloc | apply pw_below_drewN | apply below_drew1 | refine below_set ?_ GE145.out) | exact HB.out)) hb)
                              clear BK145
                              clear HB
                              have BK145 := n0_
                              have HB := n1_
                              clear n0_ n1_
                              (try clear hb)
                              (try clear hb2)
                              (try clear hk)
                              (try clear hi)
                              refine hK.out _ _ ⟨(blk_cell BK145.out 0).trans rfl, (blk_cell BK145.out 1).trans rfl, (blk_cell BK145.out 2).trans rfl, (blk_cell BK145.out 3).trans rfl, (blk_cell BK145.out 4).trans rfl, (blk_cell BK145.out 5).trans rfl⟩ (fun hHeld => ?_)
                              clear hK K
                              refine norm_ (a' := ?_) ?_ ?_
                              rotate_left
                              · show Act.put _ (some 38) _ = _
                                simp only [Act.put, pA,pB,pC, i64_w, i32_w]
                                rfl
                              refine pure_ (i := 11) (N := some 39) (v := ?_) (a' := ?_) #[true, true, true, true, true, true, true, true, true, true, true, true, true, true, false, false, true, true, false, false, false, false] rfl rfl (any_of HT_.out (by kernel_rfl)) (fun _ _ _ h => h) (Or.inl ⟨by rfl, ?_⟩) ?_ ?_
                              rotate_left
                              · intro w'
                                go_simp
                                with_reducible rfl
                              rotate_left
                              · simp only [Act.put, pA,pB,pC, i64_w, i32_w]
                                rfl
                              refine one_ (i := 14) (N := some 42) #[true, true, true, true, true, true, true, true, true, true, true, true, true, true, true, false, true, true, false, false, false, false] rfl rfl (one_of HT_.out (by kernel_rfl)) (by decide) (fun K hK => ?_)
                              refine goes_ Tryz.func15 (by kernel_rfl) rfl #[.string (⟨#[32, 124]⟩ : ByteArray), .slice A1_2 l1_2.length c1_2] (by rfl) rfl rfl (by (try simp only [List.map_toArray, List.map_cons, List.map_nil]); first | done | rfl | (simp only [List.length_drop, List.length_take]; rfl)) ?_
                              with_reducible refine (print_row.calls (⟨#[32, 124]⟩ : ByteArray) _ _ l1_2 t151 _ ?side1 ?side2 A29.out).mono ?_
                              (case side1 => repeat (first | exact (Kd.C_below HR1_2.out HB.out) | (with_reducible refine Kd.C_alloc ?_ _) | (with_reducible refine Kd.C_drewN ?_ _) | (with_reducible refine Kd.C_drew ?_)))
                              (case side2 => exact HC1_2.out)
                              rintro e w37 ⟨rfl, hb⟩
                              refine ⟨_, rfl, ?_⟩
                              have n0_ := Aside0.mk (blk_below (g := gb145) (o := .cells #[.slice A1_0 l1_0.length c1_0, .slice A1_1 l1_1.length c1_1, .slice A1_2 l1_2.length c1_2, .slice A1_3 l1_3.length c1_3, .string a1_4, .string a1_5] 47 (0, 0)) (by (with_reducible repeat (first | refine blk_drewN ?_ _ | refine blk_drew ?_ | refine blk_alloc ?_ _)); exact BK145.out) hb)
                              have n1_ := Aside0.mk (below_step (by repeat (first | (with_reducible first | exact HB.out | apply below_alloc | apply pw_below_drewN | apply below_drew1 | refine below_set ?_ GE145.out) | exact HB.out)) hb)
                              clear BK145
                              clear HB
                              have BK145 := n0_
                              have HB := n1_
                              clear n0_ n1_
                              (try clear hb)
                              (try clear hb2)
                              (try clear hk)
                              (try clear hi)
                              refine hK.out _ _ ⟨(blk_cell BK145.out 0).trans rfl, (blk_cell BK145.out 1).trans rfl, (blk_cell BK145.out 2).trans rfl, (blk_cell BK145.out 3).trans rfl, (blk_cell BK145.out 4).trans rfl, (blk_cell BK145.out 5).trans rfl⟩ (fun hHeld => ?_)
                              clear hK K
                              refine norm_ (a' := ?_) ?_ ?_
                              rotate_left
                              · show Act.put _ (some 42) _ = _
                                simp only [Act.put, pA,pB,pC, i64_w, i32_w]
                                rfl
                              refine pure_ (i := 15) (N := some 43) (v := ?_) (a' := ?_) #[true, true, true, true, true, true, true, true, true, true, true, true, true, true, true, true, true, true, false, false, false, false] rfl rfl (any_of HT_.out (by kernel_rfl)) (fun _ _ _ h => h) (Or.inl ⟨by rfl, ?_⟩) ?_ ?_
                              rotate_left
                              · intro w'
                                go_simp
                                with_reducible rfl
                              rotate_left
                              · simp only [Act.put, pA,pB,pC, i64_w, i32_w]
                                rfl
                              refine one_ (i := 18) (N := some 46) #[true, true, true, true, true, true, true, true, true, true, true, true, true, true, true, true, true, true, true, false, false, false] rfl rfl (one_of HT_.out (by kernel_rfl)) (by decide) (fun K hK => ?_)
                              refine goes_ Tryz.func15 (by kernel_rfl) rfl #[.string (⟨#[32, 124, 124]⟩ : ByteArray), .slice A1_3 l1_3.length c1_3] (by rfl) rfl rfl (by (try simp only [List.map_toArray, List.map_cons, List.map_nil]); first | done | rfl | (simp only [List.length_drop, List.length_take]; rfl)) ?_
                              with_reducible refine (print_row.calls (⟨#[32, 124, 124]⟩ : ByteArray) _ _ l1_3 t152 _ ?side1 ?side2 A31.out).mono ?_
                              (case side1 => repeat (first | exact (Kd.C_below HR1_3.out HB.out) | (with_reducible refine Kd.C_alloc ?_ _) | (with_reducible refine Kd.C_drewN ?_ _) | (with_reducible refine Kd.C_drew ?_)))
                              (case side2 => exact HC1_3.out)
                              rintro e w38 ⟨rfl, hb⟩
                              refine ⟨_, rfl, ?_⟩
                              have n0_ := Aside0.mk (blk_below (g := gb145) (o := .cells #[.slice A1_0 l1_0.length c1_0, .slice A1_1 l1_1.length c1_1, .slice A1_2 l1_2.length c1_2, .slice A1_3 l1_3.length c1_3, .string a1_4, .string a1_5] 47 (0, 0)) (by (with_reducible repeat (first | refine blk_drewN ?_ _ | refine blk_drew ?_ | refine blk_alloc ?_ _)); exact BK145.out) hb)
                              have n1_ := Aside0.mk (below_step (by repeat (first | (with_reducible first | exact HB.out | apply below_alloc | apply pw_below_drewN | apply below_drew1 | refine below_set ?_ GE145.out) | exact HB.out)) hb)
                              clear BK145
                              clear HB
                              have BK145 := n0_
                              have HB := n1_
                              clear n0_ n1_
                              (try clear hb)
                              (try clear hb2)
                              (try clear hk)
                              (try clear hi)
                              refine hK.out _ _ ⟨(blk_cell BK145.out 0).trans rfl, (blk_cell BK145.out 1).trans rfl, (blk_cell BK145.out 2).trans rfl, (blk_cell BK145.out 3).trans rfl, (blk_cell BK145.out 4).trans rfl, (blk_cell BK145.out 5).trans rfl⟩ (fun hHeld => ?_)
                              clear hK K
                              refine norm_ (a' := ?_) ?_ ?_
                              rotate_left
                              · show Act.put _ (some 46) _ = _
                                simp only [Act.put, pA,pB,pC, i64_w, i32_w]
                                rfl
                              refine pure_ (i := 19) (N := some 47) (v := ?_) (a' := ?_) #[true, true, true, true, true, true, true, true, true, true, true, true, true, true, true, true, true, true, true, true, false, false] rfl rfl (any_of HT_.out (by kernel_rfl)) (fun _ _ _ h => h) (Or.inl ⟨by rfl, ?_⟩) ?_ ?_
                              rotate_left
                              · intro w'
                                go_simp
                                with_reducible rfl
                              rotate_left
                              · simp only [Act.put, pA,pB,pC, i64_w, i32_w]
                                rfl
                              refine pure_ (i := 20) (N := some 48) (v := ?_) (a' := ?_) #[true, true, true, true, true, true, true, true, true, true, true, true, true, true, true, true, true, true, true, true, true, false] rfl rfl (any_of HT_.out (by kernel_rfl)) (fun _ _ _ h => h) (Or.inl ⟨by rfl, ?_⟩) ?_ ?_
                              rotate_left
                              · intro w'
                                go_simp
                                with_reducible rfl
                              rotate_left
                              · simp only [Act.put, pA,pB,pC, i64_w, i32_w]
                                rfl
                              refine pure_ (i := 21) (N := some 4) (v := ?_) (a' := ?_) #[true, true, true, true, true, true, true, true, true, true, true, true, true, true, true, true, true, true, true, true, true, true] rfl rfl (any_of HT_.out (by kernel_rfl)) (fun _ _ _ h => h) (Or.inl ⟨by rfl, ?_⟩) ?_ ?_
                              rotate_left
                              · intro w'
                                go_simp
                                with_reducible rfl
                              rotate_left
                              · simp only [Act.put, pA,pB,pC, i64_w, i32_w]
                                rfl
                              refine done_ (done_of HT_.out (by kernel_rfl)) ?_
                              try go_wp2
                              go_ret
                              exact ⟨by first | rfl | (simp [errW_none, errW_some] <;> rfl) | (simp [*, errW_none, errW_some] <;> rfl), by repeat (first | (with_reducible first | exact HB.out | apply below_alloc | apply pw_below_drewN | apply below_drew1 | refine below_set ?_ GE145.out) | exact HB.out)⟩
                            · rw [if_neg c33] at H
                              exact absurd H (by simp)
                          · rw [if_neg c32] at H
                            exact absurd H (by simp)
                        · rw [if_neg c30] at H
                          exact absurd H (by simp)
                      · rw [if_neg c28] at H
                        exact absurd H (by simp)
                    · rw [if_neg c26] at H
                      exact absurd H (by simp)
                  · rw [if_neg c25] at H
                    exact absurd H (by simp)
                · rw [if_neg c24] at H
                  exact absurd H (by simp)
          · rw [if_neg c9] at H
            exact absurd H (by simp)
        · rw [if_neg c8] at H
          exact absurd H (by simp)
      · rw [if_neg c6] at H
        exact absurd H (by simp)
    · rw [if_neg c5] at H
      exact absurd H (by simp)
  · rw [if_neg c4] at H
    exact absurd H (by simp)
end Go.Proofs.YtbjekebkgidhaaaGreatDoor.P
end
section
set_option linter.unusedSimpArgs false
set_option linter.unusedVariables false
namespace Go.Proofs.YtbjekebkgidhaaaGreatDoor.P
open Go.RowKit Go.Lib Go.Shelf Go.Proofs.YtbjekebkgidhaaaGreatDoorW.PrintWords Go.Proofs.YtbjekebkgidhaaaGreatDoorW.PrintLast Go.Proofs.YtbjekebkgidhaaaGreatDoorW.PrintMore Go.Proofs.YtbjekebkgidhaaaGreatDoor.U Go.Proofs.YtbjekebkgidhaaaGreatDoor.PTh
def rowL (wd : List UInt8) (l : List (List UInt8)) : List UInt8 := if l = [] then [] else wd ++ [32] ++ Lib.join l [32]
def headL (i : Nat) (x : S47) : List UInt8 := [114, 117, 108, 101, 32] ++ ([114] ++ Lib.decDigits i) ++ [10, 32, 32, 99, 111, 109, 109, 97, 110, 100, 32, 61, 32] ++ Sc.escL (toL x.f4) ++ [10]
def depL (x : S47) : List UInt8 := if toL x.f5 = [] then [] else [32, 32, 100, 101, 112, 102, 105, 108, 101, 32, 61, 32] ++ Sc.escL (toL x.f5) ++ [10]
def edgeL (i : Nat) (x : S47) : List UInt8 :=
  headL i x ++ depL x ++ rowL [98, 117, 105, 108, 100] (x.f0.map toL) ++ [58, 32] ++ ([114] ++ Lib.decDigits i) ++ rowL [] (x.f1.map toL) ++ rowL [32, 124] (x.f2.map toL) ++ rowL [32, 124, 124] (x.f3.map toL) ++ [10]
def edgesL : Nat → List S47 → List UInt8
  | _, [] => []
  | i, x :: xs => edgeL i x ++ edgesL (i + 1) xs
def defL (l : List ByteArray) : List UInt8 := if l = [] then [] else rowL [100, 101, 102, 97, 117, 108, 116] (l.map toL) ++ [10]
def boundN (l : List ByteArray) : Bool := decide (l.length ≤ 1000) && l.all fun a => decide (a.size ≤ 1000)
def boundS (x : S47) : Bool := boundN x.f0 && boundN x.f1 && boundN x.f2 && boundN x.f3 && decide (x.f4.size ≤ 100000) && decide (x.f5.size ≤ 100000)
theorem B_app (a b : List UInt8) : B (a ++ b) = B a ++ B b := by
  apply ByteArray.ext; simp [B, ByteArray.data_append]
theorem B_size (a : List UInt8) : (B a).size = a.length := by simp [B, ByteArray.size]
theorem toL_length (a : ByteArray) : (toL a).length = a.size := Array.length_toList
theorem toL_eq (a : ByteArray) : a.toList = toL a := ByteArray.toList_eq a
theorem digits_len (i : Nat) (h : i < 100) : (Lib.decDigits i).length ≤ 2 := by
  by_cases h1 : i < 10
  · rw [Lib.decDigits_one h1]; simp
  · rw [Lib.decDigits_two h1 h]; simp
theorem lens_le (l : List ByteArray) (h : l.all (fun a => decide (a.size ≤ 1000)) = true) : Lib.lens (l.map toL) ≤ 1000 * l.length := by
  induction l with
  | nil => simp [Lib.lens]
  | cons a l ih =>
    rw [List.all_cons, Bool.and_eq_true, decide_eq_true_iff] at h
    have := ih h.2
    simp only [Lib.lens, List.map_cons, List.sum_cons, List.length_cons] at this ⊢
    rw [toL_length]; omega
theorem join_len (l : List ByteArray) (h : boundN l = true) : (Lib.join (l.map toL) [32]).length ≤ 1001000 := by
  rw [boundN, Bool.and_eq_true, decide_eq_true_iff] at h
  have h1 := lens_le l h.2
  cases l with
  | nil => exact Nat.zero_le _
  | cons a l =>
    rw [List.map_cons] at h1 ⊢
    rw [Lib.join_length, List.length_map]
    have h2 := h.1
    rw [List.length_cons] at h1 h2
    simp only [List.length_singleton]
    omega
theorem row_len (wd : List UInt8) (l : List ByteArray) (h : boundN l = true) : (rowL wd (l.map toL)).length ≤ wd.length + 1001001 := by
  have := join_len l h
  unfold rowL
  split
  · simp
  · simp only [List.length_append, List.length_singleton]; omega
theorem row_f (wd : List UInt8) (l : List ByteArray) (hw : wd.length ≤ 100) (h : boundN l = true) : print_row.f (B wd) l = some (B (rowL wd (l.map toL))) := by
  have hj := join_len l h
  unfold print_row.f rowL
  by_cases h0 : l = []
  · subst h0; rfl
  · have hp : 0 < l.length := List.length_pos_iff.2 h0
    have n1 : ¬ (l.length : Int) = 0 := by omega
    have n2 : ¬ l.map toL = [] := by simpa using h0
    rw [if_neg n1, if_neg n2, B_size, if_pos (by omega)]
    have hS : strings_Join.f l (⟨#[32]⟩ : ByteArray) = some (B (Lib.join (l.map toL) [32])) := by
      unfold strings_Join.f
      rw [if_pos]
      · rfl
      · rw [boundN, Bool.and_eq_true, decide_eq_true_iff] at h
        refine ⟨by omega, ?_⟩
        have : (Lib.join (l.map toL) [32]).length ≤ 140737488355328 := by omega
        exact this
    have e1 : (⟨#[32]⟩ : ByteArray) = B [32] := rfl
    rw [hS, Option.bind_some, e1, ByteArray.size_append, B_size, B_size, B_size, if_pos (by simp only [List.length_singleton]; omega), B_app, B_app]
theorem escL_le (l : List UInt8) : (Sc.escL l).length ≤ 2 * l.length := by
  rw [Sc.escL_len]; have := List.countP_le_length (p := Sc.escB) (l := l); omega
theorem esc_f (a : ByteArray) (h : a.size ≤ 100000) : scope_Escape.f a = some (B (Sc.escL (toL a))) := by
  unfold scope_Escape.f
  rw [if_pos]
  · rfl
  · have := toL_length a; simp only [toL] at this; omega
theorem itoa_f (i : Nat) (h : i < 100) : strconv_Itoa_30.f (i : Int) = some (B (Lib.decDigits i)) := by
  unfold strconv_Itoa_30.f
  rw [if_pos (by omega), Int.toNat_natCast]
  try rfl
theorem edge_len (i : Nat) (x : S47) (hi : i < 100) (h : boundS x = true) : (edgeL i x).length ≤ 10000000 := by
  simp only [boundS, Bool.and_eq_true, decide_eq_true_iff] at h
  obtain ⟨⟨⟨⟨⟨h0, h1⟩, h2⟩, h3⟩, h4⟩, h5⟩ := h
  have d := digits_len i hi
  have e4 := escL_le (toL x.f4)
  have e5 := escL_le (toL x.f5)
  rw [toL_length] at e4 e5
  have r0 := row_len [98, 117, 105, 108, 100] x.f0 h0
  have r1 := row_len [] x.f1 h1
  have r2 := row_len [32, 124] x.f2 h2
  have r3 := row_len [32, 124, 124] x.f3 h3
  simp only [List.length_cons, List.length_nil] at r0 r1 r2 r3
  have ed : (depL x).length ≤ 200013 := by
    unfold depL
    split
    · simp
    · simp only [List.length_append, List.length_cons, List.length_nil]; omega
  simp only [edgeL, headL, List.length_append, List.length_cons, List.length_nil]
  omega
set_option maxRecDepth 100000 in
set_option maxHeartbeats 4000000 in
theorem edge_j (s : List UInt8) (own : List UInt8) (x : S47) (h : boundS x = true) (hs : s.length ≤ 1000000) (ho : own.length ≤ 100) :
    print_edge.j0 1 (B own) (B s) x.f0 x.f1 x.f2 x.f3 x.f4 x.f5 = some (B (s ++ rowL [98, 117, 105, 108, 100] (x.f0.map toL) ++ [58, 32] ++ own ++ rowL [] (x.f1.map toL) ++ rowL [32, 124] (x.f2.map toL) ++ rowL [32, 124, 124] (x.f3.map toL) ++ [10])) := by
  simp only [boundS, Bool.and_eq_true, decide_eq_true_iff] at h
  obtain ⟨⟨⟨⟨⟨h0, h1⟩, h2⟩, h3⟩, h4⟩, h5⟩ := h
  have r0 := row_len [98, 117, 105, 108, 100] x.f0 h0
  have r1 := row_len [] x.f1 h1
  have r2 := row_len [32, 124] x.f2 h2
  have r3 := row_len [32, 124, 124] x.f3 h3
  simp only [List.length_cons, List.length_nil] at r0 r1 r2 r3
  have q0 := row_f [98, 117, 105, 108, 100] x.f0 (by simp) h0
  have q1 := row_f [] x.f1 (by simp) h1
  have q2 := row_f [32, 124] x.f2 (by simp) h2
  have q3 := row_f [32, 124, 124] x.f3 (by simp) h3
  generalize rowL [98, 117, 105, 108, 100] (x.f0.map toL) = R0 at *
  generalize rowL [] (x.f1.map toL) = R1 at *
  generalize rowL [32, 124] (x.f2.map toL) = R2 at *
  generalize rowL [32, 124, 124] (x.f3.map toL) = R3 at *
  have e1 : (⟨#[98, 117, 105, 108, 100]⟩ : ByteArray) = B [98, 117, 105, 108, 100] := rfl
  have e2 : (⟨#[]⟩ : ByteArray) = B [] := rfl
  have e3 : (⟨#[32, 124]⟩ : ByteArray) = B [32, 124] := rfl
  have e4 : (⟨#[32, 124, 124]⟩ : ByteArray) = B [32, 124, 124] := rfl
  have e5 : (⟨#[58, 32]⟩ : ByteArray) = B [58, 32] := rfl
  have e6 : (⟨#[10]⟩ : ByteArray) = B [10] := rfl
  rw [print_edge.j0]
  rw [e1, e2, e3, e4, e5, e6, q0, q1, q2, q3]
  simp only [Option.bind_some, ← B_app, B_size, List.length_append, List.length_cons, List.length_nil]
  rw [if_pos (by omega), if_pos (by omega), if_pos (by omega), if_pos (by omega), if_pos (by omega), if_pos (by omega), if_pos (by omega)]
set_option maxRecDepth 100000 in
set_option maxHeartbeats 4000000 in
theorem edge_f (i : Nat) (x : S47) (hi : i < 100) (h : boundS x = true) : print_edge.f 1 (i : Int) x.f0 x.f1 x.f2 x.f3 x.f4 x.f5 = some (B (edgeL i x)) := by
  have h' := h
  simp only [boundS, Bool.and_eq_true, decide_eq_true_iff] at h'
  obtain ⟨⟨⟨⟨⟨h0, h1⟩, h2⟩, h3⟩, h4⟩, h5⟩ := h'
  have d := digits_len i hi
  have g4 := escL_le (toL x.f4)
  have g5 := escL_le (toL x.f5)
  rw [toL_length] at g4 g5
  have e1 : (⟨#[114]⟩ : ByteArray) = B [114] := rfl
  have e2 : (⟨#[114, 117, 108, 101, 32]⟩ : ByteArray) = B [114, 117, 108, 101, 32] := rfl
  have e3 : (⟨#[10, 32, 32, 99, 111, 109, 109, 97, 110, 100, 32, 61, 32]⟩ : ByteArray) = B [10, 32, 32, 99, 111, 109, 109, 97, 110, 100, 32, 61, 32] := rfl
  have e4 : (⟨#[10]⟩ : ByteArray) = B [10] := rfl
  have e5 : (⟨#[32, 32, 100, 101, 112, 102, 105, 108, 101, 32, 61, 32]⟩ : ByteArray) = B [32, 32, 100, 101, 112, 102, 105, 108, 101, 32, 61, 32] := rfl
  unfold print_edge.f edgeL headL depL
  rw [itoa_f i hi, esc_f x.f4 h4, esc_f x.f5 h5, toL_eq, e1, e2, e3, e4, e5]
  simp only [Option.bind_some, ← B_app, B_size, List.length_append, List.length_cons, List.length_nil]
  generalize Sc.escL (toL x.f4) = E4 at *
  generalize Sc.escL (toL x.f5) = E5 at *
  generalize Lib.decDigits i = D at *
  rw [if_pos (by omega), if_pos (by omega), if_pos (by omega), if_pos (by omega), if_pos (by omega)]
  by_cases hz : toL x.f5 = []
  · rw [if_pos hz, if_pos hz, edge_j _ _ x h (by simp; omega) (by simp; omega), List.append_nil]
  · rw [if_neg hz, if_neg hz, if_pos (by omega), if_pos (by omega), if_pos (by omega), edge_j _ _ x h (by simp; omega) (by simp; omega)]
    try simp only [List.append_assoc]
end Go.Proofs.YtbjekebkgidhaaaGreatDoor.P
end
section
set_option linter.unusedVariables false
namespace Go.Proofs.YtbjekebkgidhaaaGreatDoor.P
open Go.RowKit Go.Lib Go.Proofs.YtbjekebkgidhaaaGreatDoorW.PrintWords Go.Proofs.YtbjekebkgidhaaaGreatDoorW.PrintLast Go.Proofs.YtbjekebkgidhaaaGreatDoorW.PrintMore
def strconv_ItoaN.f (a0 : Int) : Option ByteArray := if 0 ≤ a0 ∧ a0 < 1000 then some ⟨(Lib.decDigits a0.toNat).toArray⟩ else none
theorem strconv_ItoaN.calls (a0 : Int) (r : ByteArray) (w : World) (ht : Tab w) (h : strconv_ItoaN.f a0 = some r) :
    Calls Tryz.prog 30 #[.int .i64 a0] w fun e w' => e = .returned (.string r) ∧ Below w.heap.size w w' := by
  unfold strconv_ItoaN.f at h
  split at h
  · rename_i hc
    have h' := Option.some.inj h
    subst h'
    refine (Tryz.strconv_Itoa a0 (by omega) (by omega) w ht).mono ?_
    rintro e w' ⟨rfl, k, os, rfl⟩
    refine ⟨?_, below_grow _ w (Nat.le_refl _) k os⟩
    rw [Lib.itoa, if_neg (by omega)]
  · cases h
end Go.Proofs.YtbjekebkgidhaaaGreatDoor.P
end
section
namespace Go.Proofs.YtbjekebkgidhaaaGreatDoor.P
open Go.RowKit Go.Proofs.YtbjekebkgidhaaaGreatDoorW.PrintWords Go.Proofs.YtbjekebkgidhaaaGreatDoorW.PrintLast Go.Proofs.YtbjekebkgidhaaaGreatDoorW.PrintMore
attribute [local go_sem] max2_int min2_int max_two min_two max_three min_three max_four min_four
set_option linter.unusedVariables false
set_option linter.unusedSimpArgs false
theorem wrap_two_YtbjekebkgidhaaaGreatDoorPPrintEdgeN (a b : Nat) (h : a + b ≤ 9223372036854775807) : wrap64 ((a : Int) + (b : Int)) = (a : Int) + (b : Int) := by unfold wrap64; omega
def print_edgN.j0 : Nat → ByteArray → ByteArray → List ByteArray → List ByteArray → List ByteArray → List ByteArray → ByteArray → ByteArray → Option (ByteArray)
  | 0, _, _, _, _, _, _, _, _ => none
  | k + 1, x5, x6, x146000, x146001, x146002, x146003, x146004, x146005 => (print_row.f (⟨#[98, 117, 105, 108, 100]⟩ : ByteArray) x146000).bind fun t149 => (if x6.size + t149.size ≤ 9223372036854775807 then (if (x6 ++ t149).size + 2 ≤ 9223372036854775807 then (if ((x6 ++ t149) ++ (⟨#[58, 32]⟩ : ByteArray)).size + x5.size ≤ 9223372036854775807 then ((print_row.f (⟨#[]⟩ : ByteArray) x146001).bind fun t150 => (if (((x6 ++ t149) ++ (⟨#[58, 32]⟩ : ByteArray)) ++ x5).size + t150.size ≤ 9223372036854775807 then ((print_row.f (⟨#[32, 124]⟩ : ByteArray) x146002).bind fun t151 => (if ((((x6 ++ t149) ++ (⟨#[58, 32]⟩ : ByteArray)) ++ x5) ++ t150).size + t151.size ≤ 9223372036854775807 then ((print_row.f (⟨#[32, 124, 124]⟩ : ByteArray) x146003).bind fun t152 => (if (((((x6 ++ t149) ++ (⟨#[58, 32]⟩ : ByteArray)) ++ x5) ++ t150) ++ t151).size + t152.size ≤ 9223372036854775807 then (if ((((((x6 ++ t149) ++ (⟨#[58, 32]⟩ : ByteArray)) ++ x5) ++ t150) ++ t151) ++ t152).size + 1 ≤ 9223372036854775807 then (some (((((((x6 ++ t149) ++ (⟨#[58, 32]⟩ : ByteArray)) ++ x5) ++ t150) ++ t151) ++ t152) ++ (⟨#[10]⟩ : ByteArray))) else (none)) else (none))) else (none))) else (none))) else (none)) else (none)) else (none))
def print_edgN.f (k : Nat) (a0 : Int) (l1_0 : List ByteArray) (l1_1 : List ByteArray) (l1_2 : List ByteArray) (l1_3 : List ByteArray) (a1_4 : ByteArray) (a1_5 : ByteArray) : Option (ByteArray) := (strconv_ItoaN.f a0).bind fun t146 => (if 1 + t146.size ≤ 9223372036854775807 then (if 5 + ((⟨#[114]⟩ : ByteArray) ++ t146).size ≤ 9223372036854775807 then (if ((⟨#[114, 117, 108, 101, 32]⟩ : ByteArray) ++ ((⟨#[114]⟩ : ByteArray) ++ t146)).size + 13 ≤ 9223372036854775807 then ((scope_Escape.f a1_4).bind fun t147 => (if (((⟨#[114, 117, 108, 101, 32]⟩ : ByteArray) ++ ((⟨#[114]⟩ : ByteArray) ++ t146)) ++ (⟨#[10, 32, 32, 99, 111, 109, 109, 97, 110, 100, 32, 61, 32]⟩ : ByteArray)).size + t147.size ≤ 9223372036854775807 then (if ((((⟨#[114, 117, 108, 101, 32]⟩ : ByteArray) ++ ((⟨#[114]⟩ : ByteArray) ++ t146)) ++ (⟨#[10, 32, 32, 99, 111, 109, 109, 97, 110, 100, 32, 61, 32]⟩ : ByteArray)) ++ t147).size + 1 ≤ 9223372036854775807 then (if a1_5.toList = ([] : List UInt8) then (print_edgN.j0 k ((⟨#[114]⟩ : ByteArray) ++ t146) (((((⟨#[114, 117, 108, 101, 32]⟩ : ByteArray) ++ ((⟨#[114]⟩ : ByteArray) ++ t146)) ++ (⟨#[10, 32, 32, 99, 111, 109, 109, 97, 110, 100, 32, 61, 32]⟩ : ByteArray)) ++ t147) ++ (⟨#[10]⟩ : ByteArray)) l1_0 l1_1 l1_2 l1_3 a1_4 a1_5) else ((scope_Escape.f a1_5).bind fun t148 => (if 12 + t148.size ≤ 9223372036854775807 then (if ((⟨#[32, 32, 100, 101, 112, 102, 105, 108, 101, 32, 61, 32]⟩ : ByteArray) ++ t148).size + 1 ≤ 9223372036854775807 then (if (((((⟨#[114, 117, 108, 101, 32]⟩ : ByteArray) ++ ((⟨#[114]⟩ : ByteArray) ++ t146)) ++ (⟨#[10, 32, 32, 99, 111, 109, 109, 97, 110, 100, 32, 61, 32]⟩ : ByteArray)) ++ t147) ++ (⟨#[10]⟩ : ByteArray)).size + (((⟨#[32, 32, 100, 101, 112, 102, 105, 108, 101, 32, 61, 32]⟩ : ByteArray) ++ t148) ++ (⟨#[10]⟩ : ByteArray)).size ≤ 9223372036854775807 then (print_edgN.j0 k ((⟨#[114]⟩ : ByteArray) ++ t146) ((((((⟨#[114, 117, 108, 101, 32]⟩ : ByteArray) ++ ((⟨#[114]⟩ : ByteArray) ++ t146)) ++ (⟨#[10, 32, 32, 99, 111, 109, 109, 97, 110, 100, 32, 61, 32]⟩ : ByteArray)) ++ t147) ++ (⟨#[10]⟩ : ByteArray)) ++ (((⟨#[32, 32, 100, 101, 112, 102, 105, 108, 101, 32, 61, 32]⟩ : ByteArray) ++ t148) ++ (⟨#[10]⟩ : ByteArray))) l1_0 l1_1 l1_2 l1_3 a1_4 a1_5) else (none)) else (none)) else (none)))) else (none)) else (none))) else (none)) else (none)) else (none))
theorem print_edgN.mono_l : ∀ k, (∀ y0 y1 y2 y3 y4 y5 y6 y7, LeO (print_edgN.j0 k y0 y1 y2 y3 y4 y5 y6 y7) (print_edgN.j0 (k + 1) y0 y1 y2 y3 y4 y5 y6 y7))
  | 0 => fun _ _ _ _ _ _ _ _ r h => by simp [print_edgN.j0] at h
  | k + 1 => by
    have ih0 := print_edgN.mono_l k
    · intro y0 y1 y2 y3 y4 y5 y6 y7
      unfold print_edgN.j0
      repeat' first
      | (with_reducible exact ih0 _ _ _ _ _ _ _ _)
      | (with_reducible exact LeO.refl _)
      | (with_reducible exact LeO.none _)
      | (with_reducible refine LeO.ite ?_ ?_)
      | (with_reducible refine LeO.bind ?_ (fun _ => ?_))
      | exact ih0 _ _ _ _ _ _ _ _
      | exact LeO.none _
      | refine LeO.ite ?_ ?_
      | refine LeO.bind ?_ (fun _ => ?_)
theorem print_edgN.mono : ∀ a0 a1 a2 a3 a4 a5 a6 k, LeO (print_edgN.f k a0 a1 a2 a3 a4 a5 a6) (print_edgN.f (k + 1) a0 a1 a2 a3 a4 a5 a6) := by
  intro a0 a1 a2 a3 a4 a5 a6 k
  have ih0 := print_edgN.mono_l k
  unfold print_edgN.f
  repeat' first
      | (with_reducible exact ih0 _ _ _ _ _ _ _ _)
      | (with_reducible exact LeO.refl _)
      | (with_reducible exact LeO.none _)
      | (with_reducible refine LeO.ite ?_ ?_)
      | (with_reducible refine LeO.bind ?_ (fun _ => ?_))
      | exact ih0 _ _ _ _ _ _ _ _
      | exact LeO.none _
      | refine LeO.ite ?_ ?_
      | refine LeO.bind ?_ (fun _ => ?_)
def print_edgN.T5 : Bool × List (List Nat × List Nat) := (true, [([], []), ([], []), ([1], [1]), ([2], [2]), ([0, 3], [0, 3]), ([4], [4]), ([], []), ([5, 6], [5, 6]), ([], []), ([8], [8]), ([9, 3], [9]), ([7, 10], [7, 10]), ([], []), ([12], [12]), ([13, 10], [13]), ([11, 14], [11, 14]), ([], []), ([16], [16]), ([17, 14], [17]), ([15, 18], [15, 18]), ([19], [19]), ([20, 18, 0, 1, 2, 3, 4, 5, 6, 7, 8, 9, 10, 11, 12, 13, 14, 15, 16, 17, 18, 19, 20], [20])])
def print_edgN.B5 : List Nat := [0, 0, 2, 6, 15, 31, 0, 127, 0, 256, 782, 2047, 0, 4096, 14094, 32767, 0, 65536, 227086, 524287, 1048575, 2097151]
theorem print_edgN.tab5 : rtab .any (opsOf Tryz.f14 5) = print_edgN.T5 := by kernel_rfl
theorem print_edgN.bits5 : waitsOk print_edgN.T5.2 print_edgN.B5 = true := by kernel_rfl
set_option maxHeartbeats 8000000 in
set_option maxRecDepth 100000 in
theorem print_edgN.calls (k : Nat) (a0 : Int) (A1_0 : Option Addr) (c1_0 : Nat) (l1_0 : List ByteArray) (A1_1 : Option Addr) (c1_1 : Nat) (l1_1 : List ByteArray) (A1_2 : Option Addr) (c1_2 : Nat) (l1_2 : List ByteArray) (A1_3 : Option Addr) (c1_3 : Nat) (l1_3 : List ByteArray) (a1_4 : ByteArray) (a1_5 : ByteArray) (r : ByteArray) (w : World) (hm : Tab w) (hr1_0 : Kd.C Kd.string w A1_0 l1_0.length l1_0) (hc1_0 : l1_0.length ≤ c1_0) (hr1_1 : Kd.C Kd.string w A1_1 l1_1.length l1_1) (hc1_1 : l1_1.length ≤ c1_1) (hr1_2 : Kd.C Kd.string w A1_2 l1_2.length l1_2) (hc1_2 : l1_2.length ≤ c1_2) (hr1_3 : Kd.C Kd.string w A1_3 l1_3.length l1_3) (hc1_3 : l1_3.length ≤ c1_3) (h : print_edgN.f k a0 l1_0 l1_1 l1_2 l1_3 a1_4 a1_5 = some r) :
    Calls Tryz.prog 14 #[.int .i64 a0, .agg #[.slice A1_0 l1_0.length c1_0, .slice A1_1 l1_1.length c1_1, .slice A1_2 l1_2.length c1_2, .slice A1_3 l1_3.length c1_3, .string a1_4, .string a1_5]] w fun e w' => e = .returned (.string r) ∧ Below w.heap.size w w' := by
  have HM := Aside0.mk hm
  have hu47 := Tryz.underlying47
  have HR1_0 := Aside0.mk hr1_0
  have HC1_0 := Aside0.mk hc1_0
  clear hr1_0 hc1_0
  have HR1_1 := Aside0.mk hr1_1
  have HC1_1 := Aside0.mk hc1_1
  clear hr1_1 hc1_1
  have HR1_2 := Aside0.mk hr1_2
  have HC1_2 := Aside0.mk hc1_2
  clear hr1_2 hc1_2
  have HR1_3 := Aside0.mk hr1_3
  have HC1_3 := Aside0.mk hc1_3
  clear hr1_3 hc1_3
  have HB := Aside0.mk (Below.refl w.heap.size w)
  have H : ((strconv_ItoaN.f a0).bind fun t146 => (if 1 + t146.size ≤ 9223372036854775807 then (if 5 + ((⟨#[114]⟩ : ByteArray) ++ t146).size ≤ 9223372036854775807 then (if ((⟨#[114, 117, 108, 101, 32]⟩ : ByteArray) ++ ((⟨#[114]⟩ : ByteArray) ++ t146)).size + 13 ≤ 9223372036854775807 then ((scope_Escape.f a1_4).bind fun t147 => (if (((⟨#[114, 117, 108, 101, 32]⟩ : ByteArray) ++ ((⟨#[114]⟩ : ByteArray) ++ t146)) ++ (⟨#[10, 32, 32, 99, 111, 109, 109, 97, 110, 100, 32, 61, 32]⟩ : ByteArray)).size + t147.size ≤ 9223372036854775807 then (if ((((⟨#[114, 117, 108, 101, 32]⟩ : ByteArray) ++ ((⟨#[114]⟩ : ByteArray) ++ t146)) ++ (⟨#[10, 32, 32, 99, 111, 109, 109, 97, 110, 100, 32, 61, 32]⟩ : ByteArray)) ++ t147).size + 1 ≤ 9223372036854775807 then (if a1_5.toList = ([] : List UInt8) then (print_edgN.j0 k ((⟨#[114]⟩ : ByteArray) ++ t146) (((((⟨#[114, 117, 108, 101, 32]⟩ : ByteArray) ++ ((⟨#[114]⟩ : ByteArray) ++ t146)) ++ (⟨#[10, 32, 32, 99, 111, 109, 109, 97, 110, 100, 32, 61, 32]⟩ : ByteArray)) ++ t147) ++ (⟨#[10]⟩ : ByteArray)) l1_0 l1_1 l1_2 l1_3 a1_4 a1_5) else ((scope_Escape.f a1_5).bind fun t148 => (if 12 + t148.size ≤ 9223372036854775807 then (if ((⟨#[32, 32, 100, 101, 112, 102, 105, 108, 101, 32, 61, 32]⟩ : ByteArray) ++ t148).size + 1 ≤ 9223372036854775807 then (if (((((⟨#[114, 117, 108, 101, 32]⟩ : ByteArray) ++ ((⟨#[114]⟩ : ByteArray) ++ t146)) ++ (⟨#[10, 32, 32, 99, 111, 109, 109, 97, 110, 100, 32, 61, 32]⟩ : ByteArray)) ++ t147) ++ (⟨#[10]⟩ : ByteArray)).size + (((⟨#[32, 32, 100, 101, 112, 102, 105, 108, 101, 32, 61, 32]⟩ : ByteArray) ++ t148) ++ (⟨#[10]⟩ : ByteArray)).size ≤ 9223372036854775807 then (print_edgN.j0 k ((⟨#[114]⟩ : ByteArray) ++ t146) ((((((⟨#[114, 117, 108, 101, 32]⟩ : ByteArray) ++ ((⟨#[114]⟩ : ByteArray) ++ t146)) ++ (⟨#[10, 32, 32, 99, 111, 109, 109, 97, 110, 100, 32, 61, 32]⟩ : ByteArray)) ++ t147) ++ (⟨#[10]⟩ : ByteArray)) ++ (((⟨#[32, 32, 100, 101, 112, 102, 105, 108, 101, 32, 61, 32]⟩ : ByteArray) ++ t148) ++ (⟨#[10]⟩ : ByteArray))) l1_0 l1_1 l1_2 l1_3 a1_4 a1_5) else (none)) else (none)) else (none)))) else (none)) else (none))) else (none)) else (none)) else (none))) = some r := h
  clear h
  replace H := Option.bind_eq_some_iff.mp H
  obtain ⟨t146, A30, H⟩ := H
  replace H : (if 1 + t146.size ≤ 9223372036854775807 then (if 5 + ((⟨#[114]⟩ : ByteArray) ++ t146).size ≤ 9223372036854775807 then (if ((⟨#[114, 117, 108, 101, 32]⟩ : ByteArray) ++ ((⟨#[114]⟩ : ByteArray) ++ t146)).size + 13 ≤ 9223372036854775807 then ((scope_Escape.f a1_4).bind fun t147 => (if (((⟨#[114, 117, 108, 101, 32]⟩ : ByteArray) ++ ((⟨#[114]⟩ : ByteArray) ++ t146)) ++ (⟨#[10, 32, 32, 99, 111, 109, 109, 97, 110, 100, 32, 61, 32]⟩ : ByteArray)).size + t147.size ≤ 9223372036854775807 then (if ((((⟨#[114, 117, 108, 101, 32]⟩ : ByteArray) ++ ((⟨#[114]⟩ : ByteArray) ++ t146)) ++ (⟨#[10, 32, 32, 99, 111, 109, 109, 97, 110, 100, 32, 61, 32]⟩ : ByteArray)) ++ t147).size + 1 ≤ 9223372036854775807 then (if a1_5.toList = ([] : List UInt8) then (print_edgN.j0 k ((⟨#[114]⟩ : ByteArray) ++ t146) (((((⟨#[114, 117, 108, 101, 32]⟩ : ByteArray) ++ ((⟨#[114]⟩ : ByteArray) ++ t146)) ++ (⟨#[10, 32, 32, 99, 111, 109, 109, 97, 110, 100, 32, 61, 32]⟩ : ByteArray)) ++ t147) ++ (⟨#[10]⟩ : ByteArray)) l1_0 l1_1 l1_2 l1_3 a1_4 a1_5) else ((scope_Escape.f a1_5).bind fun t148 => (if 12 + t148.size ≤ 9223372036854775807 then (if ((⟨#[32, 32, 100, 101, 112, 102, 105, 108, 101, 32, 61, 32]⟩ : ByteArray) ++ t148).size + 1 ≤ 9223372036854775807 then (if (((((⟨#[114, 117, 108, 101, 32]⟩ : ByteArray) ++ ((⟨#[114]⟩ : ByteArray) ++ t146)) ++ (⟨#[10, 32, 32, 99, 111, 109, 109, 97, 110, 100, 32, 61, 32]⟩ : ByteArray)) ++ t147) ++ (⟨#[10]⟩ : ByteArray)).size + (((⟨#[32, 32, 100, 101, 112, 102, 105, 108, 101, 32, 61, 32]⟩ : ByteArray) ++ t148) ++ (⟨#[10]⟩ : ByteArray)).size ≤ 9223372036854775807 then (print_edgN.j0 k ((⟨#[114]⟩ : ByteArray) ++ t146) ((((((⟨#[114, 117, 108, 101, 32]⟩ : ByteArray) ++ ((⟨#[114]⟩ : ByteArray) ++ t146)) ++ (⟨#[10, 32, 32, 99, 111, 109, 109, 97, 110, 100, 32, 61, 32]⟩ : ByteArray)) ++ t147) ++ (⟨#[10]⟩ : ByteArray)) ++ (((⟨#[32, 32, 100, 101, 112, 102, 105, 108, 101, 32, 61, 32]⟩ : ByteArray) ++ t148) ++ (⟨#[10]⟩ : ByteArray))) l1_0 l1_1 l1_2 l1_3 a1_4 a1_5) else (none)) else (none)) else (none)))) else (none)) else (none))) else (none)) else (none)) else (none)) = some r := H
  have A3 := Aside0.mk A30
  clear A30
  by_cases c4 : 1 + t146.size ≤ 9223372036854775807
  · rw [if_pos c4] at H
    have c4b0 := eq_true c4
    have c4b1 : decide (1 + t146.size ≤ 9223372036854775807) = true := decide_eq_true c4
    try have c4b2 : (9223372036854775807 < 1 + t146.size) = False := eq_false (Nat.not_lt.2 c4)
    have c4x : 1 + t146.size ≤ 9223372036854775807 := by have hh_ := c4; (try simp only [ByteArray.size_append] at hh_); exact hh_
    try have c4x0 : (9223372036854775807 < 1 + t146.size) = False := eq_false (by omega)
    by_cases c5 : 5 + ((⟨#[114]⟩ : ByteArray) ++ t146).size ≤ 9223372036854775807
    · rw [if_pos c5] at H
      have c5b0 := eq_true c5
      have c5b1 : decide (5 + ((⟨#[114]⟩ : ByteArray) ++ t146).size ≤ 9223372036854775807) = true := decide_eq_true c5
      try have c5b2 : (9223372036854775807 < 5 + ((⟨#[114]⟩ : ByteArray) ++ t146).size) = False := eq_false (Nat.not_lt.2 c5)
      have c5x : 5 + (1 + t146.size) ≤ 9223372036854775807 := by have hh_ := c5; (try simp only [ByteArray.size_append] at hh_); exact hh_
      try have c5x0 : (9223372036854775807 < 5 + (1 + t146.size)) = False := eq_false (by omega)
      by_cases c6 : ((⟨#[114, 117, 108, 101, 32]⟩ : ByteArray) ++ ((⟨#[114]⟩ : ByteArray) ++ t146)).size + 13 ≤ 9223372036854775807
      · rw [if_pos c6] at H
        have c6b0 := eq_true c6
        have c6b1 : decide (((⟨#[114, 117, 108, 101, 32]⟩ : ByteArray) ++ ((⟨#[114]⟩ : ByteArray) ++ t146)).size + 13 ≤ 9223372036854775807) = true := decide_eq_true c6
        try have c6b2 : (9223372036854775807 < ((⟨#[114, 117, 108, 101, 32]⟩ : ByteArray) ++ ((⟨#[114]⟩ : ByteArray) ++ t146)).size + 13) = False := eq_false (Nat.not_lt.2 c6)
        have c6x : 5 + (1 + t146.size) + 13 ≤ 9223372036854775807 := by have hh_ := c6; (try simp only [ByteArray.size_append] at hh_); exact hh_
        try have c6x0 : (9223372036854775807 < 5 + (1 + t146.size) + 13) = False := eq_false (by omega)
        try have c6x1 : (9223372036854775794 < 5 + (1 + t146.size)) = False := eq_false (by omega)
        try have c6b7 : (9223372036854775794 < ((⟨#[114, 117, 108, 101, 32]⟩ : ByteArray) ++ ((⟨#[114]⟩ : ByteArray) ++ t146)).size) = False := eq_false (by omega)
        replace H := Option.bind_eq_some_iff.mp H
        obtain ⟨t147, A70, H⟩ := H
        replace H : (if (((⟨#[114, 117, 108, 101, 32]⟩ : ByteArray) ++ ((⟨#[114]⟩ : ByteArray) ++ t146)) ++ (⟨#[10, 32, 32, 99, 111, 109, 109, 97, 110, 100, 32, 61, 32]⟩ : ByteArray)).size + t147.size ≤ 9223372036854775807 then (if ((((⟨#[114, 117, 108, 101, 32]⟩ : ByteArray) ++ ((⟨#[114]⟩ : ByteArray) ++ t146)) ++ (⟨#[10, 32, 32, 99, 111, 109, 109, 97, 110, 100, 32, 61, 32]⟩ : ByteArray)) ++ t147).size + 1 ≤ 9223372036854775807 then (if a1_5.toList = ([] : List UInt8) then (print_edgN.j0 k ((⟨#[114]⟩ : ByteArray) ++ t146) (((((⟨#[114, 117, 108, 101, 32]⟩ : ByteArray) ++ ((⟨#[114]⟩ : ByteArray) ++ t146)) ++ (⟨#[10, 32, 32, 99, 111, 109, 109, 97, 110, 100, 32, 61, 32]⟩ : ByteArray)) ++ t147) ++ (⟨#[10]⟩ : ByteArray)) l1_0 l1_1 l1_2 l1_3 a1_4 a1_5) else ((scope_Escape.f a1_5).bind fun t148 => (if 12 + t148.size ≤ 9223372036854775807 then (if ((⟨#[32, 32, 100, 101, 112, 102, 105, 108, 101, 32, 61, 32]⟩ : ByteArray) ++ t148).size + 1 ≤ 9223372036854775807 then (if (((((⟨#[114, 117, 108, 101, 32]⟩ : ByteArray) ++ ((⟨#[114]⟩ : ByteArray) ++ t146)) ++ (⟨#[10, 32, 32, 99, 111, 109, 109, 97, 110, 100, 32, 61, 32]⟩ : ByteArray)) ++ t147) ++ (⟨#[10]⟩ : ByteArray)).size + (((⟨#[32, 32, 100, 101, 112, 102, 105, 108, 101, 32, 61, 32]⟩ : ByteArray) ++ t148) ++ (⟨#[10]⟩ : ByteArray)).size ≤ 9223372036854775807 then (print_edgN.j0 k ((⟨#[114]⟩ : ByteArray) ++ t146) ((((((⟨#[114, 117, 108, 101, 32]⟩ : ByteArray) ++ ((⟨#[114]⟩ : ByteArray) ++ t146)) ++ (⟨#[10, 32, 32, 99, 111, 109, 109, 97, 110, 100, 32, 61, 32]⟩ : ByteArray)) ++ t147) ++ (⟨#[10]⟩ : ByteArray)) ++ (((⟨#[32, 32, 100, 101, 112, 102, 105, 108, 101, 32, 61, 32]⟩ : ByteArray) ++ t148) ++ (⟨#[10]⟩ : ByteArray))) l1_0 l1_1 l1_2 l1_3 a1_4 a1_5) else (none)) else (none)) else (none)))) else (none)) else (none)) = some r := H
        have A7 := Aside0.mk A70
        clear A70
        by_cases c8 : (((⟨#[114, 117, 108, 101, 32]⟩ : ByteArray) ++ ((⟨#[114]⟩ : ByteArray) ++ t146)) ++ (⟨#[10, 32, 32, 99, 111, 109, 109, 97, 110, 100, 32, 61, 32]⟩ : ByteArray)).size + t147.size ≤ 9223372036854775807
        · rw [if_pos c8] at H
          have c8b0 := eq_true c8
          have c8b1 : decide ((((⟨#[114, 117, 108, 101, 32]⟩ : ByteArray) ++ ((⟨#[114]⟩ : ByteArray) ++ t146)) ++ (⟨#[10, 32, 32, 99, 111, 109, 109, 97, 110, 100, 32, 61, 32]⟩ : ByteArray)).size + t147.size ≤ 9223372036854775807) = true := decide_eq_true c8
          try have c8b2 : (9223372036854775807 < (((⟨#[114, 117, 108, 101, 32]⟩ : ByteArray) ++ ((⟨#[114]⟩ : ByteArray) ++ t146)) ++ (⟨#[10, 32, 32, 99, 111, 109, 109, 97, 110, 100, 32, 61, 32]⟩ : ByteArray)).size + t147.size) = False := eq_false (Nat.not_lt.2 c8)
          have c8x : 5 + (1 + t146.size) + 13 + t147.size ≤ 9223372036854775807 := by have hh_ := c8; (try simp only [ByteArray.size_append] at hh_); exact hh_
          try have c8x0 : (9223372036854775807 < 5 + (1 + t146.size) + 13 + t147.size) = False := eq_false (by omega)
          by_cases c9 : ((((⟨#[114, 117, 108, 101, 32]⟩ : ByteArray) ++ ((⟨#[114]⟩ : ByteArray) ++ t146)) ++ (⟨#[10, 32, 32, 99, 111, 109, 109, 97, 110, 100, 32, 61, 32]⟩ : ByteArray)) ++ t147).size + 1 ≤ 9223372036854775807
          · rw [if_pos c9] at H
            have c9b0 := eq_true c9
            have c9b1 : decide (((((⟨#[114, 117, 108, 101, 32]⟩ : ByteArray) ++ ((⟨#[114]⟩ : ByteArray) ++ t146)) ++ (⟨#[10, 32, 32, 99, 111, 109, 109, 97, 110, 100, 32, 61, 32]⟩ : ByteArray)) ++ t147).size + 1 ≤ 9223372036854775807) = true := decide_eq_true c9
            try have c9b2 : (9223372036854775807 < ((((⟨#[114, 117, 108, 101, 32]⟩ : ByteArray) ++ ((⟨#[114]⟩ : ByteArray) ++ t146)) ++ (⟨#[10, 32, 32, 99, 111, 109, 109, 97, 110, 100, 32, 61, 32]⟩ : ByteArray)) ++ t147).size + 1) = False := eq_false (Nat.not_lt.2 c9)
            have c9x : 5 + (1 + t146.size) + 13 + t147.size + 1 ≤ 9223372036854775807 := by have hh_ := c9; (try simp only [ByteArray.size_append] at hh_); exact hh_
            try have c9x0 : (9223372036854775807 < 5 + (1 + t146.size) + 13 + t147.size + 1) = False := eq_false (by omega)
            try have c9x1 : (9223372036854775806 < 5 + (1 + t146.size) + 13 + t147.size) = False := eq_false (by omega)
            try have c9b7 : (9223372036854775806 < ((((⟨#[114, 117, 108, 101, 32]⟩ : ByteArray) ++ ((⟨#[114]⟩ : ByteArray) ++ t146)) ++ (⟨#[10, 32, 32, 99, 111, 109, 109, 97, 110, 100, 32, 61, 32]⟩ : ByteArray)) ++ t147).size) = False := eq_false (by omega)
            have HC10 := Aside0.mk H
            clear H
            go_enter Tryz.func14, Tryz.ntmps14
            go_upto_if 20 with (first | ((with_reducible refine gate_dst (N := 3) rfl ?_); refine box_event ?hg (N := 3) ?hd (cs := #[.slice A1_0 l1_0.length c1_0, .slice A1_1 l1_1.length c1_1, .slice A1_2 l1_2.length c1_2, .slice A1_3 l1_3.length c1_3, .string a1_4, .string a1_5]) (t := 47) ?hr ?_; (case hd => rfl); (case hg => rfl); (case hr => first | (go_simp; done) | (go_simp; rfl)); intro gb145 hg w11 hbox hb; have n0_ := Aside0.mk (below_step (by repeat (first | (with_reducible first | exact HB.out | apply below_alloc | apply pw_below_drewN | apply below_drew1) | exact HB.out)) hb); have n1_ := Aside0.mk (hbox); have n2_ := Aside0.mk ((by rw [hg]; exact (below_size (by repeat (first | (with_reducible first | exact HB.out | apply below_alloc | apply pw_below_drewN | apply below_drew1) | exact HB.out))) : w.heap.size ≤ gb145)); have n3_ := Aside0.mk ((by rw [hg]; exact (below_size (by repeat (first | (with_reducible first | exact HB.out | apply below_alloc | apply pw_below_drewN | apply below_drew1) | exact HB.out))) : w.heap.size ≤ gb145)); clear HB; have HB := n0_; have BK145 := n1_; have GW145 := n2_; have GE145 := n3_; clear n0_ n1_ n2_ n3_; clear hb hbox hg) | ((with_reducible refine gate_callee (f := 30) rfl ?_); refine goesL_ (some 8) rfl rfl Tryz.func30 (by kernel_rfl) rfl #[.int .i64 a0] rfl (by (try simp only [List.map_toArray, List.map_cons, List.map_nil]); first | done | rfl | (simp only [List.length_drop, List.length_take]; rfl)) ?_; (with_reducible refine (strconv_ItoaN.calls a0 t146 _ (HM.out.below (by repeat (first | (with_reducible first | exact HB.out | apply below_alloc | apply pw_below_drewN | apply below_drew1 | exact Below.refl _ _) | exact HB.out))) A3.out).mono ?_); rintro e w12 ⟨rfl, hb⟩; refine ⟨_, rfl, ?_⟩; have n0_ := Aside0.mk (blk_below (g := gb145) (o := .cells #[.slice A1_0 l1_0.length c1_0, .slice A1_1 l1_1.length c1_1, .slice A1_2 l1_2.length c1_2, .slice A1_3 l1_3.length c1_3, .string a1_4, .string a1_5] 47 (0, 0)) (by (with_reducible repeat (first | refine blk_drewN ?_ _ | refine blk_drew ?_ | refine blk_alloc ?_ _)); exact BK145.out) hb); have n1_ := Aside0.mk (below_step (by repeat (first | (with_reducible first | exact HB.out | apply below_alloc | apply pw_below_drewN | apply below_drew1 | refine below_set ?_ GE145.out) | exact HB.out)) hb); clear BK145; clear HB; have BK145 := n0_; have HB := n1_; clear n0_ n1_; (try clear hb); (try clear hb2); (try clear hk); (try clear hi); have hcz13_0 : w12.cell? ⟨gb145, 0, none⟩ = some (.slice A1_0 l1_0.length c1_0) := (blk_cell BK145.out 0).trans rfl; have hcz13_1 : w12.cell? ⟨gb145, 1, none⟩ = some (.slice A1_1 l1_1.length c1_1) := (blk_cell BK145.out 1).trans rfl; have hcz13_2 : w12.cell? ⟨gb145, 2, none⟩ = some (.slice A1_2 l1_2.length c1_2) := (blk_cell BK145.out 2).trans rfl; have hcz13_3 : w12.cell? ⟨gb145, 3, none⟩ = some (.slice A1_3 l1_3.length c1_3) := (blk_cell BK145.out 3).trans rfl; have hcz13_4 : w12.cell? ⟨gb145, 4, none⟩ = some (.string a1_4) := (blk_cell BK145.out 4).trans rfl; have hcz13_5 : w12.cell? ⟨gb145, 5, none⟩ = some (.string a1_5) := (blk_cell BK145.out 5).trans rfl; have hfz13_0 := blk_frozen BK145.out 0; have hfz13_1 := blk_frozen BK145.out 1; have hfz13_2 := blk_frozen BK145.out 2; have hfz13_3 := blk_frozen BK145.out 3; have hfz13_4 := blk_frozen BK145.out 4; have hfz13_5 := blk_frozen BK145.out 5) | ((with_reducible refine gate_callee (f := 31) rfl ?_); refine goesL_ (some 15) rfl rfl Tryz.func31 (by kernel_rfl) rfl #[.string a1_4] rfl (by (try simp only [List.map_toArray, List.map_cons, List.map_nil]); first | done | rfl | (simp only [List.length_drop, List.length_take]; rfl)) ?_; (with_reducible refine (scope_Escape.calls a1_4 t147 _ A7.out).mono ?_); rintro e w14 ⟨rfl, hb⟩; refine ⟨_, rfl, ?_⟩; have n0_ := Aside0.mk (blk_below (g := gb145) (o := .cells #[.slice A1_0 l1_0.length c1_0, .slice A1_1 l1_1.length c1_1, .slice A1_2 l1_2.length c1_2, .slice A1_3 l1_3.length c1_3, .string a1_4, .string a1_5] 47 (0, 0)) (by (with_reducible repeat (first | refine blk_drewN ?_ _ | refine blk_drew ?_ | refine blk_alloc ?_ _)); exact BK145.out) hb); have n1_ := Aside0.mk (below_step (by repeat (first | (with_reducible first | exact HB.out | apply below_alloc | apply pw_below_drewN | apply below_drew1 | refine below_set ?_ GE145.out) | exact HB.out)) hb); clear BK145; clear HB; have BK145 := n0_; have HB := n1_; clear n0_ n1_; (try clear hb); (try clear hb2); (try clear hk); (try clear hi); have hcz15_0 : w14.cell? ⟨gb145, 0, none⟩ = some (.slice A1_0 l1_0.length c1_0) := (blk_cell BK145.out 0).trans rfl; have hcz15_1 : w14.cell? ⟨gb145, 1, none⟩ = some (.slice A1_1 l1_1.length c1_1) := (blk_cell BK145.out 1).trans rfl; have hcz15_2 : w14.cell? ⟨gb145, 2, none⟩ = some (.slice A1_2 l1_2.length c1_2) := (blk_cell BK145.out 2).trans rfl; have hcz15_3 : w14.cell? ⟨gb145, 3, none⟩ = some (.slice A1_3 l1_3.length c1_3) := (blk_cell BK145.out 3).trans rfl; have hcz15_4 : w14.cell? ⟨gb145, 4, none⟩ = some (.string a1_4) := (blk_cell BK145.out 4).trans rfl; have hcz15_5 : w14.cell? ⟨gb145, 5, none⟩ = some (.string a1_5) := (blk_cell BK145.out 5).trans rfl; have hfz15_0 := blk_frozen BK145.out 0; have hfz15_1 := blk_frozen BK145.out 1; have hfz15_2 := blk_frozen BK145.out 2; have hfz15_3 := blk_frozen BK145.out 3; have hfz15_4 := blk_frozen BK145.out 4; have hfz15_5 := blk_frozen BK145.out 5))
            (try simp only [Act.put, pA,pB,pC])
            go_cut [6] (fun v6 wc => ∃ (kq : Nat) (x6_9 : ByteArray), v6 = .string x6_9 ∧ Aside0 (print_edgN.j0 kq ((⟨#[114]⟩ : ByteArray) ++ t146) x6_9 l1_0 l1_1 l1_2 l1_3 a1_4 a1_5 = some r) ∧ Aside0 (kq ≤ k) ∧ Aside0 (wc.heap[gb145]? = some (.cells #[(.slice A1_0 l1_0.length c1_0), (.slice A1_1 l1_1.length c1_1), (.slice A1_2 l1_2.length c1_2), (.slice A1_3 l1_3.length c1_3), .string a1_4, .string a1_5] 47 (0, 0))) ∧ Aside0 (Below w.heap.size w wc))
            case first =>
              have H := HC10.out
              clear HC10
              by_cases c16 : a1_5.toList = ([] : List UInt8)
              · rw [if_pos c16] at H
                have c16b0 : (a1_5.toList == ([] : List UInt8)) = true := beq_iff_eq.mpr c16
                try have c16b7 : a1_5.toList.isEmpty = true := List.isEmpty_iff.2 (beq_iff_eq.1 c16b0)
                try have c16b8 : (!a1_5.toList.isEmpty) = false := by rw [c16b7]; rfl
                have c16b1 : (a1_5.toList != ([] : List UInt8)) = false := bne_eq_false_iff_eq.mpr c16
                clear c16
                (first | rw [c16b8] | rw [c16b0] | (simp only [i64_w, i32_w]; rw [c16b0]) | skip)
                have H' := Aside0.mk H
                clear H
                go_wp2
                go_meet
                case rel => exact ⟨_, (((((⟨#[114, 117, 108, 101, 32]⟩ : ByteArray) ++ ((⟨#[114]⟩ : ByteArray) ++ t146)) ++ (⟨#[10, 32, 32, 99, 111, 109, 109, 97, 110, 100, 32, 61, 32]⟩ : ByteArray)) ++ t147) ++ (⟨#[10]⟩ : ByteArray)), (by first | rfl | (simp; done) | (simp [*]; done)), H', ⟨by first | omega | exact Nat.le_refl _⟩, ⟨by (with_reducible repeat (first | refine blk_drewN ?_ _ | refine blk_drew ?_ | refine blk_alloc ?_ _)); exact BK145.out⟩, ⟨by repeat (first | (with_reducible first | exact HB.out | apply below_alloc | apply pw_below_drewN | apply below_drew1 | refine below_set ?_ GE145.out) | exact HB.out)⟩⟩
              · rw [if_neg c16] at H
                have c16b0 : (a1_5.toList == ([] : List UInt8)) = false := beq_eq_false_iff_ne.mpr c16
                try have c16b7 : a1_5.toList.isEmpty = false := by have hh_ := beq_eq_false_iff_ne.1 c16b0; cases hq_ : a1_5.toList with | nil => exact absurd hq_ hh_ | cons _ _ => rfl
                try have c16b8 : (!a1_5.toList.isEmpty) = true := by rw [c16b7]; rfl
                have c16b1 : (a1_5.toList != ([] : List UInt8)) = true := bne_iff_ne.mpr c16
                (first | rw [c16b8] | rw [c16b0] | (simp only [i64_w, i32_w]; rw [c16b0]) | skip)
                replace H := Option.bind_eq_some_iff.mp H
                obtain ⟨t148, A170, H⟩ := H
                replace H : (if 12 + t148.size ≤ 9223372036854775807 then (if ((⟨#[32, 32, 100, 101, 112, 102, 105, 108, 101, 32, 61, 32]⟩ : ByteArray) ++ t148).size + 1 ≤ 9223372036854775807 then (if (((((⟨#[114, 117, 108, 101, 32]⟩ : ByteArray) ++ ((⟨#[114]⟩ : ByteArray) ++ t146)) ++ (⟨#[10, 32, 32, 99, 111, 109, 109, 97, 110, 100, 32, 61, 32]⟩ : ByteArray)) ++ t147) ++ (⟨#[10]⟩ : ByteArray)).size + (((⟨#[32, 32, 100, 101, 112, 102, 105, 108, 101, 32, 61, 32]⟩ : ByteArray) ++ t148) ++ (⟨#[10]⟩ : ByteArray)).size ≤ 9223372036854775807 then (print_edgN.j0 k ((⟨#[114]⟩ : ByteArray) ++ t146) ((((((⟨#[114, 117, 108, 101, 32]⟩ : ByteArray) ++ ((⟨#[114]⟩ : ByteArray) ++ t146)) ++ (⟨#[10, 32, 32, 99, 111, 109, 109, 97, 110, 100, 32, 61, 32]⟩ : ByteArray)) ++ t147) ++ (⟨#[10]⟩ : ByteArray)) ++ (((⟨#[32, 32, 100, 101, 112, 102, 105, 108, 101, 32, 61, 32]⟩ : ByteArray) ++ t148) ++ (⟨#[10]⟩ : ByteArray))) l1_0 l1_1 l1_2 l1_3 a1_4 a1_5) else (none)) else (none)) else (none)) = some r := H
                have A17 := Aside0.mk A170
                clear A170
                by_cases c18 : 12 + t148.size ≤ 9223372036854775807
                · rw [if_pos c18] at H
                  have c18b0 := eq_true c18
                  have c18b1 : decide (12 + t148.size ≤ 9223372036854775807) = true := decide_eq_true c18
                  try have c18b2 : (9223372036854775807 < 12 + t148.size) = False := eq_false (Nat.not_lt.2 c18)
                  have c18x : 12 + t148.size ≤ 9223372036854775807 := by have hh_ := c18; (try simp only [ByteArray.size_append] at hh_); exact hh_
                  try have c18x0 : (9223372036854775807 < 12 + t148.size) = False := eq_false (by omega)
                  by_cases c19 : ((⟨#[32, 32, 100, 101, 112, 102, 105, 108, 101, 32, 61, 32]⟩ : ByteArray) ++ t148).size + 1 ≤ 9223372036854775807
                  · rw [if_pos c19] at H
                    have c19b0 := eq_true c19
                    have c19b1 : decide (((⟨#[32, 32, 100, 101, 112, 102, 105, 108, 101, 32, 61, 32]⟩ : ByteArray) ++ t148).size + 1 ≤ 9223372036854775807) = true := decide_eq_true c19
                    try have c19b2 : (9223372036854775807 < ((⟨#[32, 32, 100, 101, 112, 102, 105, 108, 101, 32, 61, 32]⟩ : ByteArray) ++ t148).size + 1) = False := eq_false (Nat.not_lt.2 c19)
                    have c19x : 12 + t148.size + 1 ≤ 9223372036854775807 := by have hh_ := c19; (try simp only [ByteArray.size_append] at hh_); exact hh_
                    try have c19x0 : (9223372036854775807 < 12 + t148.size + 1) = False := eq_false (by omega)
                    try have c19x1 : (9223372036854775806 < 12 + t148.size) = False := eq_false (by omega)
                    try have c19b7 : (9223372036854775806 < ((⟨#[32, 32, 100, 101, 112, 102, 105, 108, 101, 32, 61, 32]⟩ : ByteArray) ++ t148).size) = False := eq_false (by omega)
                    have c19e : 12 + t148.size + 1 ≤ 9223372036854775807 := by have hh_ := c19; rw [ByteArray.size_append] at hh_; exact hh_
                    try have c19e0 : (9223372036854775806 < 12 + t148.size) = False := eq_false (by omega)
                    try have c19e1 : (9223372036854775794 < t148.size) = False := eq_false (by omega)
                    try have c19e2 : (9223372036854775807 < 12 + t148.size + 1) = False := eq_false (by omega)
                    try have c19e3 : (9223372036854775806 < t148.size + 12) = False := eq_false (by omega)
                    try have c19e4 : (9223372036854775807 < t148.size + 12 + 1) = False := eq_false (by omega)
                    by_cases c20 : (((((⟨#[114, 117, 108, 101, 32]⟩ : ByteArray) ++ ((⟨#[114]⟩ : ByteArray) ++ t146)) ++ (⟨#[10, 32, 32, 99, 111, 109, 109, 97, 110, 100, 32, 61, 32]⟩ : ByteArray)) ++ t147) ++ (⟨#[10]⟩ : ByteArray)).size + (((⟨#[32, 32, 100, 101, 112, 102, 105, 108, 101, 32, 61, 32]⟩ : ByteArray) ++ t148) ++ (⟨#[10]⟩ : ByteArray)).size ≤ 9223372036854775807
                    · rw [if_pos c20] at H
                      have c20b0 := eq_true c20
                      have c20b1 : decide ((((((⟨#[114, 117, 108, 101, 32]⟩ : ByteArray) ++ ((⟨#[114]⟩ : ByteArray) ++ t146)) ++ (⟨#[10, 32, 32, 99, 111, 109, 109, 97, 110, 100, 32, 61, 32]⟩ : ByteArray)) ++ t147) ++ (⟨#[10]⟩ : ByteArray)).size + (((⟨#[32, 32, 100, 101, 112, 102, 105, 108, 101, 32, 61, 32]⟩ : ByteArray) ++ t148) ++ (⟨#[10]⟩ : ByteArray)).size ≤ 9223372036854775807) = true := decide_eq_true c20
                      try have c20b2 : (9223372036854775807 < (((((⟨#[114, 117, 108, 101, 32]⟩ : ByteArray) ++ ((⟨#[114]⟩ : ByteArray) ++ t146)) ++ (⟨#[10, 32, 32, 99, 111, 109, 109, 97, 110, 100, 32, 61, 32]⟩ : ByteArray)) ++ t147) ++ (⟨#[10]⟩ : ByteArray)).size + (((⟨#[32, 32, 100, 101, 112, 102, 105, 108, 101, 32, 61, 32]⟩ : ByteArray) ++ t148) ++ (⟨#[10]⟩ : ByteArray)).size) = False := eq_false (Nat.not_lt.2 c20)
                      have c20x : 5 + (1 + t146.size) + 13 + t147.size + 1 + (12 + t148.size + 1) ≤ 9223372036854775807 := by have hh_ := c20; (try simp only [ByteArray.size_append] at hh_); exact hh_
                      try have c20x0 : (9223372036854775807 < 5 + (1 + t146.size) + 13 + t147.size + 1 + (12 + t148.size + 1)) = False := eq_false (by omega)
                      try have c20x1 : (9223372036854775806 < 5 + (1 + t146.size) + 13 + t147.size + 1 + (12 + t148.size)) = False := eq_false (by omega)
                      have H' := Aside0.mk H
                      clear H
                      have hcz21_0 : w14.cell? ⟨gb145, 0, none⟩ = some (.slice A1_0 l1_0.length c1_0) := (blk_cell BK145.out 0).trans rfl
                      have hcz21_1 : w14.cell? ⟨gb145, 1, none⟩ = some (.slice A1_1 l1_1.length c1_1) := (blk_cell BK145.out 1).trans rfl
                      have hcz21_2 : w14.cell? ⟨gb145, 2, none⟩ = some (.slice A1_2 l1_2.length c1_2) := (blk_cell BK145.out 2).trans rfl
                      have hcz21_3 : w14.cell? ⟨gb145, 3, none⟩ = some (.slice A1_3 l1_3.length c1_3) := (blk_cell BK145.out 3).trans rfl
                      have hcz21_4 : w14.cell? ⟨gb145, 4, none⟩ = some (.string a1_4) := (blk_cell BK145.out 4).trans rfl
                      have hcz21_5 : w14.cell? ⟨gb145, 5, none⟩ = some (.string a1_5) := (blk_cell BK145.out 5).trans rfl
                      have hfz21_0 := blk_frozen BK145.out 0
                      have hfz21_1 := blk_frozen BK145.out 1
                      have hfz21_2 := blk_frozen BK145.out 2
                      have hfz21_3 := blk_frozen BK145.out 3
                      have hfz21_4 := blk_frozen BK145.out 4
                      have hfz21_5 := blk_frozen BK145.out 5
                      go_wp2_with (first | ((with_reducible refine gate_callee (f := 31) rfl ?_); refine goesL_ (some 24) rfl rfl Tryz.func31 (by kernel_rfl) rfl #[.string a1_5] rfl (by (try simp only [List.map_toArray, List.map_cons, List.map_nil]); first | done | rfl | (simp only [List.length_drop, List.length_take]; rfl)) ?_; (with_reducible refine (scope_Escape.calls a1_5 t148 _ A17.out).mono ?_); rintro e w22 ⟨rfl, hb⟩; refine ⟨_, rfl, ?_⟩; have n0_ := Aside0.mk (blk_below (g := gb145) (o := .cells #[.slice A1_0 l1_0.length c1_0, .slice A1_1 l1_1.length c1_1, .slice A1_2 l1_2.length c1_2, .slice A1_3 l1_3.length c1_3, .string a1_4, .string a1_5] 47 (0, 0)) (by (with_reducible repeat (first | refine blk_drewN ?_ _ | refine blk_drew ?_ | refine blk_alloc ?_ _)); exact BK145.out) hb); have n1_ := Aside0.mk (below_step (by repeat (first | (with_reducible first | exact HB.out | apply below_alloc | apply pw_below_drewN | apply below_drew1 | refine below_set ?_ GE145.out) | exact HB.out)) hb); clear BK145; clear HB; have BK145 := n0_; have HB := n1_; clear n0_ n1_; (try clear hb); (try clear hb2); (try clear hk); (try clear hi)))
                      go_meet
                      case rel => exact ⟨_, ((((((⟨#[114, 117, 108, 101, 32]⟩ : ByteArray) ++ ((⟨#[114]⟩ : ByteArray) ++ t146)) ++ (⟨#[10, 32, 32, 99, 111, 109, 109, 97, 110, 100, 32, 61, 32]⟩ : ByteArray)) ++ t147) ++ (⟨#[10]⟩ : ByteArray)) ++ (((⟨#[32, 32, 100, 101, 112, 102, 105, 108, 101, 32, 61, 32]⟩ : ByteArray) ++ t148) ++ (⟨#[10]⟩ : ByteArray))), (by first | rfl | (simp; done) | (simp [*]; done)), H', ⟨by first | omega | exact Nat.le_refl _⟩, ⟨by (with_reducible repeat (first | refine blk_drewN ?_ _ | refine blk_drew ?_ | refine blk_alloc ?_ _)); exact BK145.out⟩, ⟨by repeat (first | (with_reducible first | exact HB.out | apply below_alloc | apply pw_below_drewN | apply below_drew1 | refine below_set ?_ GE145.out) | exact HB.out)⟩⟩
                    · rw [if_neg c20] at H
                      exact absurd H (by simp)
                  · rw [if_neg c19] at H
                    exact absurd H (by simp)
                · rw [if_neg c18] at H
                  exact absurd H (by simp)
            case rest =>
              clear HC10
              try clear c1
              try clear c2
              try clear p2
              try clear c3
              try clear c4
              try clear c4b0
              try clear c4b1
              try clear c4b2
              try clear c5
              try clear c5b0
              try clear c5b1
              try clear c5b2
              try clear c6
              try clear c6b0
              try clear c6b1
              try clear c6b2
              try clear c8
              try clear c8b0
              try clear c8b1
              try clear c8b2
              try clear c9
              try clear c9b0
              try clear c9b1
              try clear c9b2
              try clear c14
              try clear c16
              try clear c16b0
              try clear c16b1
              try clear c18
              try clear c18b0
              try clear c18b1
              try clear c18b2
              try clear c19
              try clear c19b0
              try clear c19b1
              try clear c19b2
              try clear c20
              try clear c20b0
              try clear c20b1
              try clear c20b2
              try clear hcz13_0
              try clear hcz13_1
              try clear hcz13_2
              try clear hcz13_3
              try clear hcz13_4
              try clear hcz13_5
              try clear hcz15_0
              try clear hcz15_1
              try clear hcz15_2
              try clear hcz15_3
              try clear hcz15_4
              try clear hcz15_5
              try clear hcz21_0
              try clear hcz21_1
              try clear hcz21_2
              try clear hcz21_3
              try clear hcz21_4
              try clear hcz21_5
              try clear hfz13_0
              try clear hfz13_1
              try clear hfz13_2
              try clear hfz13_3
              try clear hfz13_4
              try clear hfz13_5
              try clear hfz15_0
              try clear hfz15_1
              try clear hfz15_2
              try clear hfz15_3
              try clear hfz15_4
              try clear hfz15_5
              try clear hfz21_0
              try clear hfz21_1
              try clear hfz21_2
              try clear hfz21_3
              try clear hfz21_4
              try clear hfz21_5
              obtain ⟨kq, x6_9, rfl, HA, HJ9, BK145, HB⟩ := hcut
              cases kq with
              | zero => exact absurd HA.out (by simp [print_edgN.j0])
              | succ kj9 =>
                have H := HA.out
                clear HA
                simp only [print_edgN.j0] at H
                replace H := Option.bind_eq_some_iff.mp H
                obtain ⟨t149, A230, H⟩ := H
                replace H : (if x6_9.size + t149.size ≤ 9223372036854775807 then (if (x6_9 ++ t149).size + 2 ≤ 9223372036854775807 then (if ((x6_9 ++ t149) ++ (⟨#[58, 32]⟩ : ByteArray)).size + ((⟨#[114]⟩ : ByteArray) ++ t146).size ≤ 9223372036854775807 then ((print_row.f (⟨#[]⟩ : ByteArray) l1_1).bind fun t150 => (if (((x6_9 ++ t149) ++ (⟨#[58, 32]⟩ : ByteArray)) ++ ((⟨#[114]⟩ : ByteArray) ++ t146)).size + t150.size ≤ 9223372036854775807 then ((print_row.f (⟨#[32, 124]⟩ : ByteArray) l1_2).bind fun t151 => (if ((((x6_9 ++ t149) ++ (⟨#[58, 32]⟩ : ByteArray)) ++ ((⟨#[114]⟩ : ByteArray) ++ t146)) ++ t150).size + t151.size ≤ 9223372036854775807 then ((print_row.f (⟨#[32, 124, 124]⟩ : ByteArray) l1_3).bind fun t152 => (if (((((x6_9 ++ t149) ++ (⟨#[58, 32]⟩ : ByteArray)) ++ ((⟨#[114]⟩ : ByteArray) ++ t146)) ++ t150) ++ t151).size + t152.size ≤ 9223372036854775807 then (if ((((((x6_9 ++ t149) ++ (⟨#[58, 32]⟩ : ByteArray)) ++ ((⟨#[114]⟩ : ByteArray) ++ t146)) ++ t150) ++ t151) ++ t152).size + 1 ≤ 9223372036854775807 then (some (((((((x6_9 ++ t149) ++ (⟨#[58, 32]⟩ : ByteArray)) ++ ((⟨#[114]⟩ : ByteArray) ++ t146)) ++ t150) ++ t151) ++ t152) ++ (⟨#[10]⟩ : ByteArray))) else (none)) else (none))) else (none))) else (none))) else (none)) else (none)) else (none)) = some r := H
                have A23 := Aside0.mk A230
                clear A230
                by_cases c24 : x6_9.size + t149.size ≤ 9223372036854775807
                · rw [if_pos c24] at H
                  have c24b0 := eq_true c24
                  have c24b1 : decide (x6_9.size + t149.size ≤ 9223372036854775807) = true := decide_eq_true c24
                  try have c24b2 : (9223372036854775807 < x6_9.size + t149.size) = False := eq_false (Nat.not_lt.2 c24)
                  have c24x : x6_9.size + t149.size ≤ 9223372036854775807 := by have hh_ := c24; (try simp only [ByteArray.size_append] at hh_); exact hh_
                  try have c24x0 : (9223372036854775807 < x6_9.size + t149.size) = False := eq_false (by omega)
                  have c24w : wrap64 ((x6_9.size : Int) + (t149.size : Int)) = (x6_9.size : Int) + (t149.size : Int) := wrap_two_YtbjekebkgidhaaaGreatDoorPPrintEdgeN _ _ c24
                  clear c24w
                  by_cases c25 : (x6_9 ++ t149).size + 2 ≤ 9223372036854775807
                  · rw [if_pos c25] at H
                    have c25b0 := eq_true c25
                    have c25b1 : decide ((x6_9 ++ t149).size + 2 ≤ 9223372036854775807) = true := decide_eq_true c25
                    try have c25b2 : (9223372036854775807 < (x6_9 ++ t149).size + 2) = False := eq_false (Nat.not_lt.2 c25)
                    have c25x : x6_9.size + t149.size + 2 ≤ 9223372036854775807 := by have hh_ := c25; (try simp only [ByteArray.size_append] at hh_); exact hh_
                    try have c25x0 : (9223372036854775807 < x6_9.size + t149.size + 2) = False := eq_false (by omega)
                    try have c25x1 : (9223372036854775805 < x6_9.size + t149.size) = False := eq_false (by omega)
                    try have c25b7 : (9223372036854775805 < (x6_9 ++ t149).size) = False := eq_false (by omega)
                    try have c25b8 : (9223372036854775807 < x6_9.size + t149.size + 2) = False := by simpa only [ByteArray.size_append] using c25b2
                    try have c25b9 : (9223372036854775805 < x6_9.size + t149.size) = False := eq_false (by have hh_ := c25; rw [ByteArray.size_append] at hh_; omega)
                    by_cases c26 : ((x6_9 ++ t149) ++ (⟨#[58, 32]⟩ : ByteArray)).size + ((⟨#[114]⟩ : ByteArray) ++ t146).size ≤ 9223372036854775807
                    · rw [if_pos c26] at H
                      have c26b0 := eq_true c26
                      have c26b1 : decide (((x6_9 ++ t149) ++ (⟨#[58, 32]⟩ : ByteArray)).size + ((⟨#[114]⟩ : ByteArray) ++ t146).size ≤ 9223372036854775807) = true := decide_eq_true c26
                      try have c26b2 : (9223372036854775807 < ((x6_9 ++ t149) ++ (⟨#[58, 32]⟩ : ByteArray)).size + ((⟨#[114]⟩ : ByteArray) ++ t146).size) = False := eq_false (Nat.not_lt.2 c26)
                      have c26x : x6_9.size + t149.size + 2 + (1 + t146.size) ≤ 9223372036854775807 := by have hh_ := c26; (try simp only [ByteArray.size_append] at hh_); exact hh_
                      try have c26x0 : (9223372036854775807 < x6_9.size + t149.size + 2 + (1 + t146.size)) = False := eq_false (by omega)
                      replace H := Option.bind_eq_some_iff.mp H
                      obtain ⟨t150, A270, H⟩ := H
                      replace H : (if (((x6_9 ++ t149) ++ (⟨#[58, 32]⟩ : ByteArray)) ++ ((⟨#[114]⟩ : ByteArray) ++ t146)).size + t150.size ≤ 9223372036854775807 then ((print_row.f (⟨#[32, 124]⟩ : ByteArray) l1_2).bind fun t151 => (if ((((x6_9 ++ t149) ++ (⟨#[58, 32]⟩ : ByteArray)) ++ ((⟨#[114]⟩ : ByteArray) ++ t146)) ++ t150).size + t151.size ≤ 9223372036854775807 then ((print_row.f (⟨#[32, 124, 124]⟩ : ByteArray) l1_3).bind fun t152 => (if (((((x6_9 ++ t149) ++ (⟨#[58, 32]⟩ : ByteArray)) ++ ((⟨#[114]⟩ : ByteArray) ++ t146)) ++ t150) ++ t151).size + t152.size ≤ 9223372036854775807 then (if ((((((x6_9 ++ t149) ++ (⟨#[58, 32]⟩ : ByteArray)) ++ ((⟨#[114]⟩ : ByteArray) ++ t146)) ++ t150) ++ t151) ++ t152).size + 1 ≤ 9223372036854775807 then (some (((((((x6_9 ++ t149) ++ (⟨#[58, 32]⟩ : ByteArray)) ++ ((⟨#[114]⟩ : ByteArray) ++ t146)) ++ t150) ++ t151) ++ t152) ++ (⟨#[10]⟩ : ByteArray))) else (none)) else (none))) else (none))) else (none)) = some r := H
                      have A27 := Aside0.mk A270
                      clear A270
                      by_cases c28 : (((x6_9 ++ t149) ++ (⟨#[58, 32]⟩ : ByteArray)) ++ ((⟨#[114]⟩ : ByteArray) ++ t146)).size + t150.size ≤ 9223372036854775807
                      · rw [if_pos c28] at H
                        have c28b0 := eq_true c28
                        have c28b1 : decide ((((x6_9 ++ t149) ++ (⟨#[58, 32]⟩ : ByteArray)) ++ ((⟨#[114]⟩ : ByteArray) ++ t146)).size + t150.size ≤ 9223372036854775807) = true := decide_eq_true c28
                        try have c28b2 : (9223372036854775807 < (((x6_9 ++ t149) ++ (⟨#[58, 32]⟩ : ByteArray)) ++ ((⟨#[114]⟩ : ByteArray) ++ t146)).size + t150.size) = False := eq_false (Nat.not_lt.2 c28)
                        have c28x : x6_9.size + t149.size + 2 + (1 + t146.size) + t150.size ≤ 9223372036854775807 := by have hh_ := c28; (try simp only [ByteArray.size_append] at hh_); exact hh_
                        try have c28x0 : (9223372036854775807 < x6_9.size + t149.size + 2 + (1 + t146.size) + t150.size) = False := eq_false (by omega)
                        replace H := Option.bind_eq_some_iff.mp H
                        obtain ⟨t151, A290, H⟩ := H
                        replace H : (if ((((x6_9 ++ t149) ++ (⟨#[58, 32]⟩ : ByteArray)) ++ ((⟨#[114]⟩ : ByteArray) ++ t146)) ++ t150).size + t151.size ≤ 9223372036854775807 then ((print_row.f (⟨#[32, 124, 124]⟩ : ByteArray) l1_3).bind fun t152 => (if (((((x6_9 ++ t149) ++ (⟨#[58, 32]⟩ : ByteArray)) ++ ((⟨#[114]⟩ : ByteArray) ++ t146)) ++ t150) ++ t151).size + t152.size ≤ 9223372036854775807 then (if ((((((x6_9 ++ t149) ++ (⟨#[58, 32]⟩ : ByteArray)) ++ ((⟨#[114]⟩ : ByteArray) ++ t146)) ++ t150) ++ t151) ++ t152).size + 1 ≤ 9223372036854775807 then (some (((((((x6_9 ++ t149) ++ (⟨#[58, 32]⟩ : ByteArray)) ++ ((⟨#[114]⟩ : ByteArray) ++ t146)) ++ t150) ++ t151) ++ t152) ++ (⟨#[10]⟩ : ByteArray))) else (none)) else (none))) else (none)) = some r := H
                        have A29 := Aside0.mk A290
                        clear A290
                        by_cases c30 : ((((x6_9 ++ t149) ++ (⟨#[58, 32]⟩ : ByteArray)) ++ ((⟨#[114]⟩ : ByteArray) ++ t146)) ++ t150).size + t151.size ≤ 9223372036854775807
                        · rw [if_pos c30] at H
                          have c30b0 := eq_true c30
                          have c30b1 : decide (((((x6_9 ++ t149) ++ (⟨#[58, 32]⟩ : ByteArray)) ++ ((⟨#[114]⟩ : ByteArray) ++ t146)) ++ t150).size + t151.size ≤ 9223372036854775807) = true := decide_eq_true c30
                          try have c30b2 : (9223372036854775807 < ((((x6_9 ++ t149) ++ (⟨#[58, 32]⟩ : ByteArray)) ++ ((⟨#[114]⟩ : ByteArray) ++ t146)) ++ t150).size + t151.size) = False := eq_false (Nat.not_lt.2 c30)
                          have c30x : x6_9.size + t149.size + 2 + (1 + t146.size) + t150.size + t151.size ≤ 9223372036854775807 := by have hh_ := c30; (try simp only [ByteArray.size_append] at hh_); exact hh_
                          try have c30x0 : (9223372036854775807 < x6_9.size + t149.size + 2 + (1 + t146.size) + t150.size + t151.size) = False := eq_false (by omega)
                          replace H := Option.bind_eq_some_iff.mp H
                          obtain ⟨t152, A310, H⟩ := H
                          replace H : (if (((((x6_9 ++ t149) ++ (⟨#[58, 32]⟩ : ByteArray)) ++ ((⟨#[114]⟩ : ByteArray) ++ t146)) ++ t150) ++ t151).size + t152.size ≤ 9223372036854775807 then (if ((((((x6_9 ++ t149) ++ (⟨#[58, 32]⟩ : ByteArray)) ++ ((⟨#[114]⟩ : ByteArray) ++ t146)) ++ t150) ++ t151) ++ t152).size + 1 ≤ 9223372036854775807 then (some (((((((x6_9 ++ t149) ++ (⟨#[58, 32]⟩ : ByteArray)) ++ ((⟨#[114]⟩ : ByteArray) ++ t146)) ++ t150) ++ t151) ++ t152) ++ (⟨#[10]⟩ : ByteArray))) else (none)) else (none)) = some r := H
                          have A31 := Aside0.mk A310
                          clear A310
                          by_cases c32 : (((((x6_9 ++ t149) ++ (⟨#[58, 32]⟩ : ByteArray)) ++ ((⟨#[114]⟩ : ByteArray) ++ t146)) ++ t150) ++ t151).size + t152.size ≤ 9223372036854775807
                          · rw [if_pos c32] at H
                            have c32b0 := eq_true c32
                            have c32b1 : decide ((((((x6_9 ++ t149) ++ (⟨#[58, 32]⟩ : ByteArray)) ++ ((⟨#[114]⟩ : ByteArray) ++ t146)) ++ t150) ++ t151).size + t152.size ≤ 9223372036854775807) = true := decide_eq_true c32
                            try have c32b2 : (9223372036854775807 < (((((x6_9 ++ t149) ++ (⟨#[58, 32]⟩ : ByteArray)) ++ ((⟨#[114]⟩ : ByteArray) ++ t146)) ++ t150) ++ t151).size + t152.size) = False := eq_false (Nat.not_lt.2 c32)
                            have c32x : x6_9.size + t149.size + 2 + (1 + t146.size) + t150.size + t151.size + t152.size ≤ 9223372036854775807 := by have hh_ := c32; (try simp only [ByteArray.size_append] at hh_); exact hh_
                            try have c32x0 : (9223372036854775807 < x6_9.size + t149.size + 2 + (1 + t146.size) + t150.size + t151.size + t152.size) = False := eq_false (by omega)
                            by_cases c33 : ((((((x6_9 ++ t149) ++ (⟨#[58, 32]⟩ : ByteArray)) ++ ((⟨#[114]⟩ : ByteArray) ++ t146)) ++ t150) ++ t151) ++ t152).size + 1 ≤ 9223372036854775807
                            · rw [if_pos c33] at H
                              have c33b0 := eq_true c33
                              have c33b1 : decide (((((((x6_9 ++ t149) ++ (⟨#[58, 32]⟩ : ByteArray)) ++ ((⟨#[114]⟩ : ByteArray) ++ t146)) ++ t150) ++ t151) ++ t152).size + 1 ≤ 9223372036854775807) = true := decide_eq_true c33
                              try have c33b2 : (9223372036854775807 < ((((((x6_9 ++ t149) ++ (⟨#[58, 32]⟩ : ByteArray)) ++ ((⟨#[114]⟩ : ByteArray) ++ t146)) ++ t150) ++ t151) ++ t152).size + 1) = False := eq_false (Nat.not_lt.2 c33)
                              have c33x : x6_9.size + t149.size + 2 + (1 + t146.size) + t150.size + t151.size + t152.size + 1 ≤ 9223372036854775807 := by have hh_ := c33; (try simp only [ByteArray.size_append] at hh_); exact hh_
                              try have c33x0 : (9223372036854775807 < x6_9.size + t149.size + 2 + (1 + t146.size) + t150.size + t151.size + t152.size + 1) = False := eq_false (by omega)
                              try have c33x1 : (9223372036854775806 < x6_9.size + t149.size + 2 + (1 + t146.size) + t150.size + t151.size + t152.size) = False := eq_false (by omega)
                              try have c33b7 : (9223372036854775806 < ((((((x6_9 ++ t149) ++ (⟨#[58, 32]⟩ : ByteArray)) ++ ((⟨#[114]⟩ : ByteArray) ++ t146)) ++ t150) ++ t151) ++ t152).size) = False := eq_false (by omega)
                              obtain rfl := Option.some.inj H
                              try go_wp2
                              have n0_ := Aside0.mk (blk_drew BK145.out)
                              have n1_ := Aside0.mk (below_drew1 HB.out)
                              clear BK145
                              clear HB
                              have BK145 := n0_
                              have HB := n1_
                              clear n0_ n1_
                              refine start_ (n := 22) (S := fun w' => w'.cell? ⟨gb145, 0, none⟩ = some (.slice A1_0 l1_0.length c1_0) ∧ w'.cell? ⟨gb145, 1, none⟩ = some (.slice A1_1 l1_1.length c1_1) ∧ w'.cell? ⟨gb145, 2, none⟩ = some (.slice A1_2 l1_2.length c1_2) ∧ w'.cell? ⟨gb145, 3, none⟩ = some (.slice A1_3 l1_3.length c1_3) ∧ w'.cell? ⟨gb145, 4, none⟩ = some (.string a1_4) ∧ w'.cell? ⟨gb145, 5, none⟩ = some (.string a1_5)) (ds := []) #[false, false, false, false, false, false, false, false, false, false, false, false, false, false, false, false, false, false, false, false, false, false] (by kernel_rfl) rfl rfl ⟨(blk_cell BK145.out 0).trans rfl, (blk_cell BK145.out 1).trans rfl, (blk_cell BK145.out 2).trans rfl, (blk_cell BK145.out 3).trans rfl, (blk_cell BK145.out 4).trans rfl, (blk_cell BK145.out 5).trans rfl⟩ (fun hHeld => ?_); refine with_tabW print_edgN.tab5 print_edgN.bits5 (fun HT_ HW_ => ?_)
                              generalize wc.drew = w34 at BK145 HB hHeld ⊢
                              refine pure_ (i := 0) (N := some 28) (v := ?_) (a' := ?_) #[true, false, false, false, false, false, false, false, false, false, false, false, false, false, false, false, false, false, false, false, false, false] rfl rfl (any_of HT_.out (by kernel_rfl)) (fun _ _ _ h => h) (Or.inl ⟨by rfl, ?_⟩) ?_ ?_
                              rotate_left
                              · intro w'
                                go_simp
                                with_reducible rfl
                              rotate_left
                              · simp only [Act.put, pA,pB,pC, i64_w, i32_w]
                                rfl
                              refine pure_ (i := 1) (N := some 29) (v := ?_) (a' := ?_) #[true, true, false, false, false, false, false, false, false, false, false, false, false, false, false, false, false, false, false, false, false, false] rfl rfl (any_of HT_.out (by kernel_rfl)) (fun _ _ _ h => h) (Or.inl ⟨by rfl, ?_⟩) ?_ ?_
                              rotate_left
                              · intro w'
                                go_simp
                                with_reducible rfl
                              rotate_left
                              · simp only [Act.put, pA,pB,pC, i64_w, i32_w]
                                rfl
                              refine pure_ (i := 6) (N := some 34) (v := ?_) (a' := ?_) #[true, true, false, false, false, false, true, false, false, false, false, false, false, false, false, false, false, false, false, false, false, false] rfl rfl (any_of HT_.out (by kernel_rfl)) (fun _ _ _ h => h) (Or.inl ⟨by rfl, ?_⟩) ?_ ?_
                              rotate_left
                              · intro w'
                                go_simp
                                with_reducible rfl
                              rotate_left
                              · simp only [Act.put, pA,pB,pC, i64_w, i32_w]
                                rfl
                              refine pure_ (i := 8) (N := some 36) (v := ?_) (a' := ?_) #[true, true, false, false, false, false, true, false, true, false, false, false, false, false, false, false, false, false, false, false, false, false] rfl rfl (any_of HT_.out (by kernel_rfl)) (fun _ _ _ h => h) (Or.inl ⟨by rfl, ?_⟩) ?_ ?_
                              rotate_left
                              · intro w'
                                go_simp
                                with_reducible rfl
                              rotate_left
                              · simp only [Act.put, pA,pB,pC, i64_w, i32_w]
                                rfl
                              refine pure_ (i := 12) (N := some 40) (v := ?_) (a' := ?_) #[true, true, false, false, false, false, true, false, true, false, false, false, true, false, false, false, false, false, false, false, false, false] rfl rfl (any_of HT_.out (by kernel_rfl)) (fun _ _ _ h => h) (Or.inl ⟨by rfl, ?_⟩) ?_ ?_
                              rotate_left
                              · intro w'
                                go_simp
                                with_reducible rfl
                              rotate_left
                              · simp only [Act.put, pA,pB,pC, i64_w, i32_w]
                                rfl
                              refine pure_ (i := 16) (N := some 44) (v := ?_) (a' := ?_) #[true, true, false, false, false, false, true, false, true, false, false, false, true, false, false, false, true, false, false, false, false, false] rfl rfl (any_of HT_.out (by kernel_rfl)) (fun _ _ _ h => h) (Or.inl ⟨by rfl, ?_⟩) ?_ ?_
                              rotate_left
                              · intro w'
                                go_simp
                                with_reducible rfl
                              rotate_left
                              · simp only [Act.put, pA,pB,pC, i64_w, i32_w]
                                rfl
                              refine take_ (i := 2) (N := some 30) (v := ?_) (a' := ?_) #[true, true, true, false, false, false, true, false, true, false, false, false, true, false, false, false, true, false, false, false, false, false] rfl rfl (take_ofW HT_.out HW_.out (by kernel_rfl)) (fun _ _ _ h => h) (Or.inl ⟨by rfl, ?_⟩) hHeld ?_ ?_
                              rotate_left
                              · rintro w' ⟨s0, s1, s2, s3, s4, s5⟩
                                go_simp
                                with_reducible rfl
                              rotate_left
                              · simp only [Act.put, pA,pB,pC, i64_w, i32_w]
                                rfl
                              refine take_ (i := 9) (N := some 37) (v := ?_) (a' := ?_) #[true, true, true, false, false, false, true, false, true, true, false, false, true, false, false, false, true, false, false, false, false, false] rfl rfl (take_ofW HT_.out HW_.out (by kernel_rfl)) (fun _ _ _ h => h) (Or.inl ⟨by rfl, ?_⟩) hHeld ?_ ?_
                              rotate_left
                              · rintro w' ⟨s0, s1, s2, s3, s4, s5⟩
                                go_simp
                                with_reducible rfl
                              rotate_left
                              · simp only [Act.put, pA,pB,pC, i64_w, i32_w]
                                rfl
                              refine take_ (i := 13) (N := some 41) (v := ?_) (a' := ?_) #[true, true, true, false, false, false, true, false, true, true, false, false, true, true, false, false, true, false, false, false, false, false] rfl rfl (take_ofW HT_.out HW_.out (by kernel_rfl)) (fun _ _ _ h => h) (Or.inl ⟨by rfl, ?_⟩) hHeld ?_ ?_
                              rotate_left
                              · rintro w' ⟨s0, s1, s2, s3, s4, s5⟩
                                go_simp
                                with_reducible rfl
                              rotate_left
                              · simp only [Act.put, pA,pB,pC, i64_w, i32_w]
                                rfl
                              refine take_ (i := 17) (N := some 45) (v := ?_) (a' := ?_) #[true, true, true, false, false, false, true, false, true, true, false, false, true, true, false, false, true, true, false, false, false, false] rfl rfl (take_ofW HT_.out HW_.out (by kernel_rfl)) (fun _ _ _ h => h) (Or.inl ⟨by rfl, ?_⟩) hHeld ?_ ?_
                              rotate_left
                              · rintro w' ⟨s0, s1, s2, s3, s4, s5⟩
                                go_simp
                                with_reducible rfl
                              rotate_left
                              · simp only [Act.put, pA,pB,pC, i64_w, i32_w]
                                rfl
                              refine one_ (i := 3) (N := some 31) #[true, true, true, true, false, false, true, false, true, true, false, false, true, true, false, false, true, true, false, false, false, false] rfl rfl (one_of HT_.out (by kernel_rfl)) (by decide) (fun K hK => ?_)
                              refine goes_ Tryz.func15 (by kernel_rfl) rfl #[.string (⟨#[98, 117, 105, 108, 100]⟩ : ByteArray), .slice A1_0 l1_0.length c1_0] (by rfl) rfl rfl (by (try simp only [List.map_toArray, List.map_cons, List.map_nil]); first | done | rfl | (simp only [List.length_drop, List.length_take]; rfl)) ?_
                              with_reducible refine (print_row.calls (⟨#[98, 117, 105, 108, 100]⟩ : ByteArray) _ _ l1_0 t149 _ ?side1 ?side2 A23.out).mono ?_
                              (case side1 => repeat (first | exact (Kd.C_below HR1_0.out HB.out) | (with_reducible refine Kd.C_alloc ?_ _) | (with_reducible refine Kd.C_drewN ?_ _) | (with_reducible refine Kd.C_drew ?_)))
                              (case side2 => exact HC1_0.out)
                              rintro e w35 ⟨rfl, hb⟩
                              refine ⟨_, rfl, ?_⟩
                              have n0_ := Aside0.mk (blk_below (g := gb145) (o := .cells #[.slice A1_0 l1_0.length c1_0, .slice A1_1 l1_1.length c1_1, .slice A1_2 l1_2.length c1_2, .slice A1_3 l1_3.length c1_3, .string a1_4, .string a1_5] 47 (0, 0)) (by (with_reducible repeat (first | refine blk_drewN ?_ _ | refine blk_drew ?_ | refine blk_alloc ?_ _)); exact BK145.out) hb)
                              have n1_ := Aside0.mk (below_step (by repeat (first | (with_reducible first | exact HB.out | apply below_alloc | apply pw_below_drewN | apply below_drew1 | refine below_set ?_ GE145.out) | exact HB.out)) hb)
                              clear BK145
                              clear HB
                              have BK145 := n0_
                              have HB := n1_
                              clear n0_ n1_
                              (try clear hb)
                              (try clear hb2)
                              (try clear hk)
                              (try clear hi)
                              refine hK.out _ _ ⟨(blk_cell BK145.out 0).trans rfl, (blk_cell BK145.out 1).trans rfl, (blk_cell BK145.out 2).trans rfl, (blk_cell BK145.out 3).trans rfl, (blk_cell BK145.out 4).trans rfl, (blk_cell BK145.out 5).trans rfl⟩ (fun hHeld => ?_)
                              clear hK K
                              refine norm_ (a' := ?_) ?_ ?_
                              rotate_left
                              · show Act.put _ (some 31) _ = _
                                simp only [Act.put, pA,pB,pC, i64_w, i32_w]
                                rfl
                              refine pure_ (i := 4) (N := some 32) (v := ?_) (a' := ?_) #[true, true, true, true, true, false, true, false, true, true, false, false, true, true, false, false, true, true, false, false, false, false] rfl rfl (any_of HT_.out (by kernel_rfl)) (fun _ _ _ h => h) (Or.inl ⟨by rfl, ?_⟩) ?_ ?_
                              rotate_left
                              · intro w'
                                go_simp
                                with_reducible rfl
                              rotate_left
                              · simp only [Act.put, pA,pB,pC, i64_w, i32_w]
                                rfl
                              refine pure_ (i := 5) (N := some 33) (v := ?_) (a' := ?_) #[true, true, true, true, true, true, true, false, true, true, false, false, true, true, false, false, true, true, false, false, false, false] rfl rfl (any_of HT_.out (by kernel_rfl)) (fun _ _ _ h => h) (Or.inl ⟨by rfl, ?_⟩) ?_ ?_
                              rotate_left
                              · intro w'
                                go_simp
                                with_reducible rfl
                              rotate_left
                              · simp only [Act.put, pA,pB,pC, i64_w, i32_w]
                                rfl
                              refine pure_ (i := 7) (N := some 35) (v := ?_) (a' := ?_) #[true, true, true, true, true, true, true, true, true, true, false, false, true, true, false, false, true, true, false, false, false, false] rfl rfl (any_of HT_.out (by kernel_rfl)) (fun _ _ _ h => h) (Or.inl ⟨by rfl, ?_⟩) ?_ ?_
                              rotate_left
                              · intro w'
                                go_simp
                                with_reducible rfl
                              rotate_left
                              · simp only [Act.put, pA,pB,pC, i64_w, i32_w]
                                rfl
                              refine one_ (i := 10) (N := some 38) #[true, true, true, true, true, true, true, true, true, true, true, false, true, true, false, false, true, true, false, false, false, false] rfl rfl (one_of HT_.out (by kernel_rfl)) (by decide) (fun K hK => ?_)
                              refine goes_ Tryz.func15 (by kernel_rfl) rfl #[.string (⟨#[]⟩ : ByteArray), .slice A1_1 l1_1.length c1_1] (by rfl) rfl rfl (by (try simp only [List.map_toArray, List.map_cons, List.map_nil]); first | done | rfl | (simp only [List.length_drop, List.length_take]; rfl)) ?_
                              with_reducible refine (print_row.calls (⟨#[]⟩ : ByteArray) _ _ l1_1 t150 _ ?side1 ?side2 A27.out).mono ?_
                              (case side1 => repeat (first | exact (Kd.C_below HR1_1.out HB.out) | (with_reducible refine Kd.C_alloc ?_ _) | (with_reducible refine Kd.C_drewN ?_ _) | (with_reducible refine Kd.C_drew ?_)))
                              (case side2 => exact HC1_1.out)
                              rintro e w36 ⟨rfl, hb⟩
                              refine ⟨_, rfl, ?_⟩
                              have n0_ := Aside0.mk (blk_below (g := gb145) (o := .cells #[.slice A1_0 l1_0.length c1_0, .slice A1_1 l1_1.length c1_1, .slice A1_2 l1_2.length c1_2, .slice A1_3 l1_3.length c1_3, .string a1_4, .string a1_5] 47 (0, 0)) (by (with_reducible repeat (first | refine blk_drewN ?_ _ | refine blk_drew ?_ | refine blk_alloc ?_ _)); exact BK145.out) hb)
                              have n1_ := Aside0.mk (below_step (by repeat (first | (with_reducible first | exact HB.out | apply below_alloc | apply pw_below_drewN | apply below_drew1 | refine below_set ?_ GE145.out) | exact HB.out)) hb)
                              clear BK145
                              clear HB
                              have BK145 := n0_
                              have HB := n1_
                              clear n0_ n1_
                              (try clear hb)
                              (try clear hb2)
                              (try clear hk)
                              (try clear hi)
                              refine hK.out _ _ ⟨(blk_cell BK145.out 0).trans rfl, (blk_cell BK145.out 1).trans rfl, (blk_cell BK145.out 2).trans rfl, (blk_cell BK145.out 3).trans rfl, (blk_cell BK145.out 4).trans rfl, (blk_cell BK145.out 5).trans rfl⟩ (fun hHeld => ?_)
                              clear hK K
                              refine norm_ (a' := ?_) ?_ ?_
                              rotate_left
                              · show Act.put _ (some 38) _ = _
                                simp only [Act.put, pA,pB,pC, i64_w, i32_w]
                                rfl
                              refine pure_ (i := 11) (N := some 39) (v := ?_) (a' := ?_) #[true, true, true, true, true, true, true, true, true, true, true, true, true, true, false, false, true, true, false, false, false, false] rfl rfl (any_of HT_.out (by kernel_rfl)) (fun _ _ _ h => h) (Or.inl ⟨by rfl, ?_⟩) ?_ ?_
                              rotate_left
                              · intro w'
                                go_simp
                                with_reducible rfl
                              rotate_left
                              · simp only [Act.put, pA,pB,pC, i64_w, i32_w]
                                rfl
                              refine one_ (i := 14) (N := some 42) #[true, true, true, true, true, true, true, true, true, true, true, true, true, true, true, false, true, true, false, false, false, false] rfl rfl (one_of HT_.out (by kernel_rfl)) (by decide) (fun K hK => ?_)
                              refine goes_ Tryz.func15 (by kernel_rfl) rfl #[.string (⟨#[32, 124]⟩ : ByteArray), .slice A1_2 l1_2.length c1_2] (by rfl) rfl rfl (by (try simp only [List.map_toArray, List.map_cons, List.map_nil]); first | done | rfl | (simp only [List.length_drop, List.length_take]; rfl)) ?_
                              with_reducible refine (print_row.calls (⟨#[32, 124]⟩ : ByteArray) _ _ l1_2 t151 _ ?side1 ?side2 A29.out).mono ?_
                              (case side1 => repeat (first | exact (Kd.C_below HR1_2.out HB.out) | (with_reducible refine Kd.C_alloc ?_ _) | (with_reducible refine Kd.C_drewN ?_ _) | (with_reducible refine Kd.C_drew ?_)))
                              (case side2 => exact HC1_2.out)
                              rintro e w37 ⟨rfl, hb⟩
                              refine ⟨_, rfl, ?_⟩
                              have n0_ := Aside0.mk (blk_below (g := gb145) (o := .cells #[.slice A1_0 l1_0.length c1_0, .slice A1_1 l1_1.length c1_1, .slice A1_2 l1_2.length c1_2, .slice A1_3 l1_3.length c1_3, .string a1_4, .string a1_5] 47 (0, 0)) (by (with_reducible repeat (first | refine blk_drewN ?_ _ | refine blk_drew ?_ | refine blk_alloc ?_ _)); exact BK145.out) hb)
                              have n1_ := Aside0.mk (below_step (by repeat (first | (with_reducible first | exact HB.out | apply below_alloc | apply pw_below_drewN | apply below_drew1 | refine below_set ?_ GE145.out) | exact HB.out)) hb)
                              clear BK145
                              clear HB
                              have BK145 := n0_
                              have HB := n1_
                              clear n0_ n1_
                              (try clear hb)
                              (try clear hb2)
                              (try clear hk)
                              (try clear hi)
                              refine hK.out _ _ ⟨(blk_cell BK145.out 0).trans rfl, (blk_cell BK145.out 1).trans rfl, (blk_cell BK145.out 2).trans rfl, (blk_cell BK145.out 3).trans rfl, (blk_cell BK145.out 4).trans rfl, (blk_cell BK145.out 5).trans rfl⟩ (fun hHeld => ?_)
                              clear hK K
                              refine norm_ (a' := ?_) ?_ ?_
                              rotate_left
                              · show Act.put _ (some 42) _ = _
                                simp only [Act.put, pA,pB,pC, i64_w, i32_w]
                                rfl
                              refine pure_ (i := 15) (N := some 43) (v := ?_) (a' := ?_) #[true, true, true, true, true, true, true, true, true, true, true, true, true, true, true, true, true, true, false, false, false, false] rfl rfl (any_of HT_.out (by kernel_rfl)) (fun _ _ _ h => h) (Or.inl ⟨by rfl, ?_⟩) ?_ ?_
                              rotate_left
                              · intro w'
                                go_simp
                                with_reducible rfl
                              rotate_left
                              · simp only [Act.put, pA,pB,pC, i64_w, i32_w]
                                rfl
                              refine one_ (i := 18) (N := some 46) #[true, true, true, true, true, true, true, true, true, true, true, true, true, true, true, true, true, true, true, false, false, false] rfl rfl (one_of HT_.out (by kernel_rfl)) (by decide) (fun K hK => ?_)
                              refine goes_ Tryz.func15 (by kernel_rfl) rfl #[.string (⟨#[32, 124, 124]⟩ : ByteArray), .slice A1_3 l1_3.length c1_3] (by rfl) rfl rfl (by (try simp only [List.map_toArray, List.map_cons, List.map_nil]); first | done | rfl | (simp only [List.length_drop, List.length_take]; rfl)) ?_
                              with_reducible refine (print_row.calls (⟨#[32, 124, 124]⟩ : ByteArray) _ _ l1_3 t152 _ ?side1 ?side2 A31.out).mono ?_
                              (case side1 => repeat (first | exact (Kd.C_below HR1_3.out HB.out) | (with_reducible refine Kd.C_alloc ?_ _) | (with_reducible refine Kd.C_drewN ?_ _) | (with_reducible refine Kd.C_drew ?_)))
                              (case side2 => exact HC1_3.out)
                              rintro e w38 ⟨rfl, hb⟩
                              refine ⟨_, rfl, ?_⟩
                              have n0_ := Aside0.mk (blk_below (g := gb145) (o := .cells #[.slice A1_0 l1_0.length c1_0, .slice A1_1 l1_1.length c1_1, .slice A1_2 l1_2.length c1_2, .slice A1_3 l1_3.length c1_3, .string a1_4, .string a1_5] 47 (0, 0)) (by (with_reducible repeat (first | refine blk_drewN ?_ _ | refine blk_drew ?_ | refine blk_alloc ?_ _)); exact BK145.out) hb)
                              have n1_ := Aside0.mk (below_step (by repeat (first | (with_reducible first | exact HB.out | apply below_alloc | apply pw_below_drewN | apply below_drew1 | refine below_set ?_ GE145.out) | exact HB.out)) hb)
                              clear BK145
                              clear HB
                              have BK145 := n0_
                              have HB := n1_
                              clear n0_ n1_
                              (try clear hb)
                              (try clear hb2)
                              (try clear hk)
                              (try clear hi)
                              refine hK.out _ _ ⟨(blk_cell BK145.out 0).trans rfl, (blk_cell BK145.out 1).trans rfl, (blk_cell BK145.out 2).trans rfl, (blk_cell BK145.out 3).trans rfl, (blk_cell BK145.out 4).trans rfl, (blk_cell BK145.out 5).trans rfl⟩ (fun hHeld => ?_)
                              clear hK K
                              refine norm_ (a' := ?_) ?_ ?_
                              rotate_left
                              · show Act.put _ (some 46) _ = _
                                simp only [Act.put, pA,pB,pC, i64_w, i32_w]
                                rfl
                              refine pure_ (i := 19) (N := some 47) (v := ?_) (a' := ?_) #[true, true, true, true, true, true, true, true, true, true, true, true, true, true, true, true, true, true, true, true, false, false] rfl rfl (any_of HT_.out (by kernel_rfl)) (fun _ _ _ h => h) (Or.inl ⟨by rfl, ?_⟩) ?_ ?_
                              rotate_left
                              · intro w'
                                go_simp
                                with_reducible rfl
                              rotate_left
                              · simp only [Act.put, pA,pB,pC, i64_w, i32_w]
                                rfl
                              refine pure_ (i := 20) (N := some 48) (v := ?_) (a' := ?_) #[true, true, true, true, true, true, true, true, true, true, true, true, true, true, true, true, true, true, true, true, true, false] rfl rfl (any_of HT_.out (by kernel_rfl)) (fun _ _ _ h => h) (Or.inl ⟨by rfl, ?_⟩) ?_ ?_
                              rotate_left
                              · intro w'
                                go_simp
                                with_reducible rfl
                              rotate_left
                              · simp only [Act.put, pA,pB,pC, i64_w, i32_w]
                                rfl
                              refine pure_ (i := 21) (N := some 4) (v := ?_) (a' := ?_) #[true, true, true, true, true, true, true, true, true, true, true, true, true, true, true, true, true, true, true, true, true, true] rfl rfl (any_of HT_.out (by kernel_rfl)) (fun _ _ _ h => h) (Or.inl ⟨by rfl, ?_⟩) ?_ ?_
                              rotate_left
                              · intro w'
                                go_simp
                                with_reducible rfl
                              rotate_left
                              · simp only [Act.put, pA,pB,pC, i64_w, i32_w]
                                rfl
                              refine done_ (done_of HT_.out (by kernel_rfl)) ?_
                              try go_wp2
                              go_ret
                              exact ⟨by first | rfl | (simp [errW_none, errW_some] <;> rfl) | (simp [*, errW_none, errW_some] <;> rfl), by repeat (first | (with_reducible first | exact HB.out | apply below_alloc | apply pw_below_drewN | apply below_drew1 | refine below_set ?_ GE145.out) | exact HB.out)⟩
                            · rw [if_neg c33] at H
                              exact absurd H (by simp)
                          · rw [if_neg c32] at H
                            exact absurd H (by simp)
                        · rw [if_neg c30] at H
                          exact absurd H (by simp)
                      · rw [if_neg c28] at H
                        exact absurd H (by simp)
                    · rw [if_neg c26] at H
                      exact absurd H (by simp)
                  · rw [if_neg c25] at H
                    exact absurd H (by simp)
                · rw [if_neg c24] at H
                  exact absurd H (by simp)
          · rw [if_neg c9] at H
            exact absurd H (by simp)
        · rw [if_neg c8] at H
          exact absurd H (by simp)
      · rw [if_neg c6] at H
        exact absurd H (by simp)
    · rw [if_neg c5] at H
      exact absurd H (by simp)
  · rw [if_neg c4] at H
    exact absurd H (by simp)
end Go.Proofs.YtbjekebkgidhaaaGreatDoor.P
end
section
set_option linter.unusedSimpArgs false
set_option linter.unusedVariables false
namespace Go.Proofs.YtbjekebkgidhaaaGreatDoor.P
open Go.RowKit Go.Lib Go.Shelf Go.Proofs.YtbjekebkgidhaaaGreatDoorW.PrintWords Go.Proofs.YtbjekebkgidhaaaGreatDoorW.PrintLast Go.Proofs.YtbjekebkgidhaaaGreatDoorW.PrintMore Go.Proofs.YtbjekebkgidhaaaGreatDoor.U Go.Proofs.YtbjekebkgidhaaaGreatDoor.PTh
def boundT (l : List ByteArray) : Bool := decide (l.length ≤ 4000) && l.all fun a => decide (a.size ≤ 249)
def boundU (x : S47) : Bool := boundT x.f0 && boundT x.f1 && boundT x.f2 && boundT x.f3 && decide (x.f4.size ≤ 100000) && decide (x.f5.size ≤ 100000)
theorem nDigits_three {i : Nat} (h : i < 1000) : Lib.nDigits i ≤ 3 := by
  by_cases h1 : i < 10
  · rw [Lib.nDigits_small h1]; omega
  · rw [Lib.nDigits_big h1]
    by_cases h2 : i / 10 < 10
    · rw [Lib.nDigits_small h2]; omega
    · rw [Lib.nDigits_big h2, Lib.nDigits_small (by omega)]; omega
theorem digits_lenN (i : Nat) (h : i < 1000) : (Lib.decDigits i).length ≤ 3 := by
  rw [Lib.decDigits_length]; exact nDigits_three h
theorem lens_leN (l : List ByteArray) (h : l.all (fun a => decide (a.size ≤ 249)) = true) : Lib.lens (l.map toL) ≤ 249 * l.length := by
  induction l with
  | nil => simp [Lib.lens]
  | cons a l ih =>
    rw [List.all_cons, Bool.and_eq_true, decide_eq_true_iff] at h
    have := ih h.2
    simp only [Lib.lens, List.map_cons, List.sum_cons, List.length_cons] at this ⊢
    rw [toL_length]; omega
theorem join_lenN (l : List ByteArray) (h : boundT l = true) : (Lib.join (l.map toL) [32]).length ≤ 1001000 := by
  rw [boundT, Bool.and_eq_true, decide_eq_true_iff] at h
  have h1 := lens_leN l h.2
  cases l with
  | nil => exact Nat.zero_le _
  | cons a l =>
    rw [List.map_cons] at h1 ⊢
    rw [Lib.join_length, List.length_map]
    have h2 := h.1
    rw [List.length_cons] at h1 h2
    simp only [List.length_singleton]
    omega
theorem row_lenN (wd : List UInt8) (l : List ByteArray) (h : boundT l = true) : (rowL wd (l.map toL)).length ≤ wd.length + 1001001 := by
  have := join_lenN l h
  unfold rowL
  split
  · simp
  · simp only [List.length_append, List.length_singleton]; omega
theorem row_fN (wd : List UInt8) (l : List ByteArray) (hw : wd.length ≤ 100) (h : boundT l = true) : print_row.f (B wd) l = some (B (rowL wd (l.map toL))) := by
  have hj := join_lenN l h
  unfold print_row.f rowL
  by_cases h0 : l = []
  · subst h0; rfl
  · have hp : 0 < l.length := List.length_pos_iff.2 h0
    have n1 : ¬ (l.length : Int) = 0 := by omega
    have n2 : ¬ l.map toL = [] := by simpa using h0
    rw [if_neg n1, if_neg n2, B_size, if_pos (by omega)]
    have hS : strings_Join.f l (⟨#[32]⟩ : ByteArray) = some (B (Lib.join (l.map toL) [32])) := by
      unfold strings_Join.f
      rw [if_pos]
      · rfl
      · rw [boundT, Bool.and_eq_true, decide_eq_true_iff] at h
        refine ⟨by omega, ?_⟩
        have : (Lib.join (l.map toL) [32]).length ≤ 140737488355328 := by omega
        exact this
    have e1 : (⟨#[32]⟩ : ByteArray) = B [32] := rfl
    rw [hS, Option.bind_some, e1, ByteArray.size_append, B_size, B_size, B_size, if_pos (by simp only [List.length_singleton]; omega), B_app, B_app]
theorem itoa_fN (i : Nat) (h : i < 1000) : strconv_ItoaN.f (i : Int) = some (B (Lib.decDigits i)) := by
  unfold strconv_ItoaN.f
  rw [if_pos (by omega), Int.toNat_natCast]
  try rfl
theorem edge_lenN (i : Nat) (x : S47) (hi : i < 1000) (h : boundU x = true) : (edgeL i x).length ≤ 10000000 := by
  simp only [boundU, Bool.and_eq_true, decide_eq_true_iff] at h
  obtain ⟨⟨⟨⟨⟨h0, h1⟩, h2⟩, h3⟩, h4⟩, h5⟩ := h
  have d := digits_lenN i hi
  have e4 := escL_le (toL x.f4)
  have e5 := escL_le (toL x.f5)
  rw [toL_length] at e4 e5
  have r0 := row_lenN [98, 117, 105, 108, 100] x.f0 h0
  have r1 := row_lenN [] x.f1 h1
  have r2 := row_lenN [32, 124] x.f2 h2
  have r3 := row_lenN [32, 124, 124] x.f3 h3
  simp only [List.length_cons, List.length_nil] at r0 r1 r2 r3
  have ed : (depL x).length ≤ 200013 := by
    unfold depL
    split
    · simp
    · simp only [List.length_append, List.length_cons, List.length_nil]; omega
  simp only [edgeL, headL, List.length_append, List.length_cons, List.length_nil]
  omega
set_option maxRecDepth 100000 in
set_option maxHeartbeats 4000000 in
theorem edge_jN (s : List UInt8) (own : List UInt8) (x : S47) (h : boundU x = true) (hs : s.length ≤ 1000000) (ho : own.length ≤ 100) :
    print_edgN.j0 1 (B own) (B s) x.f0 x.f1 x.f2 x.f3 x.f4 x.f5 = some (B (s ++ rowL [98, 117, 105, 108, 100] (x.f0.map toL) ++ [58, 32] ++ own ++ rowL [] (x.f1.map toL) ++ rowL [32, 124] (x.f2.map toL) ++ rowL [32, 124, 124] (x.f3.map toL) ++ [10])) := by
  simp only [boundU, Bool.and_eq_true, decide_eq_true_iff] at h
  obtain ⟨⟨⟨⟨⟨h0, h1⟩, h2⟩, h3⟩, h4⟩, h5⟩ := h
  have r0 := row_lenN [98, 117, 105, 108, 100] x.f0 h0
  have r1 := row_lenN [] x.f1 h1
  have r2 := row_lenN [32, 124] x.f2 h2
  have r3 := row_lenN [32, 124, 124] x.f3 h3
  simp only [List.length_cons, List.length_nil] at r0 r1 r2 r3
  have q0 := row_fN [98, 117, 105, 108, 100] x.f0 (by simp) h0
  have q1 := row_fN [] x.f1 (by simp) h1
  have q2 := row_fN [32, 124] x.f2 (by simp) h2
  have q3 := row_fN [32, 124, 124] x.f3 (by simp) h3
  generalize rowL [98, 117, 105, 108, 100] (x.f0.map toL) = R0 at *
  generalize rowL [] (x.f1.map toL) = R1 at *
  generalize rowL [32, 124] (x.f2.map toL) = R2 at *
  generalize rowL [32, 124, 124] (x.f3.map toL) = R3 at *
  have e1 : (⟨#[98, 117, 105, 108, 100]⟩ : ByteArray) = B [98, 117, 105, 108, 100] := rfl
  have e2 : (⟨#[]⟩ : ByteArray) = B [] := rfl
  have e3 : (⟨#[32, 124]⟩ : ByteArray) = B [32, 124] := rfl
  have e4 : (⟨#[32, 124, 124]⟩ : ByteArray) = B [32, 124, 124] := rfl
  have e5 : (⟨#[58, 32]⟩ : ByteArray) = B [58, 32] := rfl
  have e6 : (⟨#[10]⟩ : ByteArray) = B [10] := rfl
  rw [print_edgN.j0]
  rw [e1, e2, e3, e4, e5, e6, q0, q1, q2, q3]
  simp only [Option.bind_some, ← B_app, B_size, List.length_append, List.length_cons, List.length_nil]
  rw [if_pos (by omega), if_pos (by omega), if_pos (by omega), if_pos (by omega), if_pos (by omega), if_pos (by omega), if_pos (by omega)]
set_option maxRecDepth 100000 in
set_option maxHeartbeats 4000000 in
theorem edge_fN (i : Nat) (x : S47) (hi : i < 1000) (h : boundU x = true) : print_edgN.f 1 (i : Int) x.f0 x.f1 x.f2 x.f3 x.f4 x.f5 = some (B (edgeL i x)) := by
  have h' := h
  simp only [boundU, Bool.and_eq_true, decide_eq_true_iff] at h'
  obtain ⟨⟨⟨⟨⟨h0, h1⟩, h2⟩, h3⟩, h4⟩, h5⟩ := h'
  have d := digits_lenN i hi
  have g4 := escL_le (toL x.f4)
  have g5 := escL_le (toL x.f5)
  rw [toL_length] at g4 g5
  have e1 : (⟨#[114]⟩ : ByteArray) = B [114] := rfl
  have e2 : (⟨#[114, 117, 108, 101, 32]⟩ : ByteArray) = B [114, 117, 108, 101, 32] := rfl
  have e3 : (⟨#[10, 32, 32, 99, 111, 109, 109, 97, 110, 100, 32, 61, 32]⟩ : ByteArray) = B [10, 32, 32, 99, 111, 109, 109, 97, 110, 100, 32, 61, 32] := rfl
  have e4 : (⟨#[10]⟩ : ByteArray) = B [10] := rfl
  have e5 : (⟨#[32, 32, 100, 101, 112, 102, 105, 108, 101, 32, 61, 32]⟩ : ByteArray) = B [32, 32, 100, 101, 112, 102, 105, 108, 101, 32, 61, 32] := rfl
  unfold print_edgN.f edgeL headL depL
  rw [itoa_fN i hi, esc_f x.f4 h4, esc_f x.f5 h5, toL_eq, e1, e2, e3, e4, e5]
  simp only [Option.bind_some, ← B_app, B_size, List.length_append, List.length_cons, List.length_nil]
  generalize Sc.escL (toL x.f4) = E4 at *
  generalize Sc.escL (toL x.f5) = E5 at *
  generalize Lib.decDigits i = D at *
  rw [if_pos (by omega), if_pos (by omega), if_pos (by omega), if_pos (by omega), if_pos (by omega)]
  by_cases hz : toL x.f5 = []
  · rw [if_pos hz, if_pos hz, edge_jN _ _ x h (by simp; omega) (by simp; omega), List.append_nil]
  · rw [if_neg hz, if_neg hz, if_pos (by omega), if_pos (by omega), if_pos (by omega), edge_jN _ _ x h (by simp; omega) (by simp; omega)]
    try simp only [List.append_assoc]
end Go.Proofs.YtbjekebkgidhaaaGreatDoor.P
end
section
set_option linter.unusedSimpArgs false
set_option linter.unusedVariables false
namespace Go.Proofs.YtbjekebkgidhaaaGreatDoor.P
open Go.RowKit Go.Lib Go.Shelf Go.Proofs.YtbjekebkgidhaaaGreatDoorW.PrintWords Go.Proofs.YtbjekebkgidhaaaGreatDoorW.PrintLast Go.Proofs.YtbjekebkgidhaaaGreatDoorW.PrintMore Go.Proofs.YtbjekebkgidhaaaGreatDoor.U Go.Proofs.YtbjekebkgidhaaaGreatDoor.PTh Go.Proofs.YtbjekebkgidhaaaGreatDoor.Bld
theorem Len_b (B0 b : Nat) (l : List UInt8) (w : World) (h : IsB B0 b l w) : Calls Tryz.prog 16 #[.pointer (some ⟨b, 0, none⟩)] w fun e w' => e = .returned (.int .i64 (l.length : Int)) ∧ w = w' := by
  refine (Tryz.Builder_Len B0 b (Lib.byteCells l) w h).mono ?_
  rintro e w' ⟨rfl, rfl⟩
  exact ⟨by simp [Lib.byteCells], rfl⟩
theorem isB_below {B0 b : Nat} {l : List UInt8} {w w' : World} (h : IsB B0 b l w) (hb : Below w.heap.size w w') : IsB B0 b l w' := by
  have key : ∀ p, Lib.BuilderAt 46 5 B0 b p (Lib.byteCells l) w → Lib.BuilderAt 46 5 B0 b p (Lib.byteCells l) w' := by
    intro p h
    have hlt := h.lt
    obtain ⟨h1, v, h2, h3, h4⟩ := h
    refine ⟨h1, v, (hb.block _ hlt).trans h2, ?_, h4⟩
    exact h3.kept (row := none) ⟨hb.os, hb.tape, hb.output, hb.size, fun k hk _ => hb.block k hk⟩ (Classical.em _)
  rcases h with h | h
  · exact .inl (key _ h)
  · exact .inr (key _ h)
def printM (l0 : List S47) (l1 : List ByteArray) : ByteArray × Int :=
  if rightM l0 l1 = false then (⟨#[]⟩, 1) else if 16384 < (edgesL 0 l0 ++ defL l1).length then (⟨#[]⟩, 3) else (B (edgesL 0 l0 ++ defL l1), 0)
def okM (l0 : List S47) (l1 : List ByteArray) : Bool := decide (l0.length ≤ 99) && boundN l1 && l0.all boundS
theorem isB_fresh (w : World) : IsB w.heap.size w.heap.size [] (w.alloc (.cells #[.pointer none, .slice none 0 0] 46)) := by
  refine .inl ⟨Nat.le_refl _, .slice none 0 0, heap_alloc_new w _, own_nil _ _ _ _, by simp [Value.ownBlock]⟩
set_option maxRecDepth 100000 in
set_option maxHeartbeats 8000000 in
theorem Print_any (A0 A1 : Option Addr) (c0 c1 : Nat) (l0 : List S47) (l1 : List ByteArray) (w : World) (hr0 : Kd.C k47 w A0 l0.length l0) (hc0 : l0.length ≤ c0) (hr1 : Kd.C Kd.string w A1 l1.length l1) (hc1 : l1.length ≤ c1) (hok : okM l0 l1 = true) :
    Calls Tryz.prog 6 #[.agg #[.slice A0 l0.length c0, .slice A1 l1.length c1]] w fun e w' => e = .returned (.tuple #[.string (printM l0 l1).1, .int .i64 (printM l0 l1).2]) ∧ Below w.heap.size w w' := by
  have hu32 := Tryz.underlying32
  have hu43 := Tryz.underlying47
  simp only [okM, Bool.and_eq_true, decide_eq_true_iff] at hok
  obtain ⟨⟨hn0, hb1⟩, hbs⟩ := hok
  have hn1 : l1.length ≤ 1000 := by simp only [boundN, Bool.and_eq_true, decide_eq_true_iff] at hb1; exact hb1.1
  have hnx : ∀ x ∈ l0, namesS x ≤ 100000 := by
    intro x hx
    have := List.all_eq_true.1 hbs x hx
    simp only [boundS, boundN, Bool.and_eq_true, decide_eq_true_iff] at this
    unfold namesS; omega
  have hR := Lib.hid (fun (W : World) (h : Below w.heap.size w W) => Right_any A0 A1 c0 c1 l0 l1 W (Kd.C_below hr0 h) hc0 (Kd.C_below hr1 h) hc1 (by omega) (by omega) hnx)
  have hC0 := Lib.hid hr0
  have hC1 := Lib.hid hr1
  have hBS := Lib.hid hbs
  have hBN := Lib.hid hb1
  clear hr0 hr1 hbs hb1 hnx
  obtain ⟨r, hr⟩ : ∃ r, rightM l0 l1 = r := ⟨_, rfl⟩
  rw [hr] at hR
  have hBox := Lib.hid ((Below.refl w.heap.size w).alloc (Nat.le_refl _) (.cells #[.slice A0 l0.length c0, .slice A1 l1.length c1] 32))
  have hCell : Hid ((w.alloc (.cells #[.slice A0 l0.length c0, .slice A1 l1.length c1] 32)).heap[w.heap.size]? = some (.cells #[.slice A0 l0.length c0, .slice A1 l1.length c1] 32 (0, 0))) := heap_alloc_new w _
  have hSz : w.heap.size < (w.alloc (.cells #[.slice A0 l0.length c0, .slice A1 l1.length c1] 32)).heap.size := by simp
  go_enter Tryz.func6, Tryz.ntmps6
  go_wp2_with fail
  generalize w.alloc (.cells #[.slice A0 l0.length c0, .slice A1 l1.length c1] 32) = w0 at *
  refine (hR.out _ hBox.out).mono ?_
  rintro e w1 ⟨rfl, hb⟩
  have hB1 := Lib.hid (hBox.out.trans (hb.mono hBox.out.size))
  have hCe1 := Lib.hid ((hb.block _ hSz).trans hCell.out)
  have hSz1 : w.heap.size < w1.heap.size := Nat.lt_of_lt_of_le hSz hb.size
  clear hb hBox hCell hSz hR
  cases r with
  | false =>
    have hp : printM l0 l1 = (⟨#[]⟩, 1) := by rw [printM, hr]; rfl
    go_wp2_with fail
    go_ret2
    rw [hp]
    exact ⟨rfl, hB1.out⟩
  | true =>
    have hB2 := Lib.hid ((Below.refl w1.heap.size w1).alloc (Nat.le_refl _) (.cells #[.pointer none, .slice none 0 0] 46))
    have hIs := Lib.hid (isB_fresh w1)
    have hsz2 : w1.heap.size < (w1.alloc (.cells #[.pointer none, .slice none 0 0] 46)).heap.size := by simp
    obtain ⟨w2, hw2⟩ : ∃ w2, w1.alloc (.cells #[.pointer none, .slice none 0 0] 46) = w2 := ⟨_, rfl⟩
    rw [hw2] at hB2 hIs hsz2
    have hCe2 := Lib.hid ((hB2.out.block _ hSz1).trans hCe1.out)
    have k0 := (cell_of_heap (j := 0) hCe2.out).trans rfl
    go_wp2_with fail
    have hB2w := Lib.hid (hB1.out.trans (hB2.out.mono hB1.out.size))
    have hB1size := hB1.out.size
    clear hB1 hCe1 k0 hw2
    obtain ⟨n, hN⟩ : ∃ n, l0.length = n := ⟨_, rfl⟩
    rw [hN] at hn0 hC0 hCe2 hc0 ⊢
    go_loopg [13] n (fun gk s13 wr => ∃ (i : Nat) (out : List UInt8), s13 = .int .i64 (i : Int) ∧ i + gk = n ∧ Hid (out ++ edgesL i (l0.drop i) = edgesL 0 l0) ∧ out.length ≤ i * 10000000 ∧ Hid (IsB w1.heap.size w1.heap.size out wr) ∧ Hid (Below w1.heap.size w2 wr))
    case atStart => exact ⟨0, [], rfl, Nat.zero_add _, rfl, Nat.zero_le _, hIs, Below.refl _ _⟩
    case round =>
      obtain ⟨i, out, rfl, hik, hO, hol, hIB, hBl⟩ := hrel
      cases gk with
      | zero =>
        obtain rfl : i = n := by omega
        have hlt : decide ((i : Int) < (i : Int)) = false := by simp
        have hbase : Hid (w1.heap.size ≤ wr.heap.size) := Nat.le_trans (Nat.le_of_lt hsz2) hBl.out.size
        have hCe := Lib.hid ((hBl.out.block _ hSz1).trans hCe2.out)
        have k1 := (cell_of_heap (j := 1) hCe.out).trans rfl
        have hfin : Hid (out = edgesL 0 l0) := by
          show _ = _
          have := hO.out
          rw [List.drop_of_length_le (by omega), edgesL, List.append_nil] at this
          exact this
        have hC1r := Lib.hid (Kd.C_below hC1.out (hB2w.out.trans (hBl.out.mono hB1size)))
        by_cases hz : l1 = []
        · subst hz
          have hd0 : decide ((0 : Int) < (0 : Int)) = false := rfl
          have hpm : Hid (printM l0 [] = if 16384 < out.length then (⟨#[]⟩, 3) else (B out, 0)) := by
            show _ = _
            rw [printM, hr, hfin.out]
            simp [defL]
          have hLn := Lib.hid (Len_b w1.heap.size w1.heap.size out wr hIB.out)
          have hSt := Lib.hid (Tryz.Builder_String_any w1.heap.size w1.heap.size out wr hIB.out hbase.out)
          go_wp2_with fail
          refine hLn.out.mono ?_
          rintro e w3 ⟨rfl, rfl⟩
          by_cases hbig : 16384 < out.length
          · have hdb : decide ((16384 : Int) < (out.length : Int)) = true := by rw [decide_eq_true_iff]; omega
            rw [if_pos hbig] at hpm
            go_wp2_with fail
            go_ret2
            rw [hpm.out]
            exact ⟨rfl, hB2w.out.trans (hBl.out.mono hB1size)⟩
          · have hdb : decide ((16384 : Int) < (out.length : Int)) = false := by rw [decide_eq_false_iff_not]; omega
            rw [if_neg hbig] at hpm
            go_wp2_with fail
            refine hSt.out.mono ?_
            rintro e w3 ⟨rfl, hb3⟩
            go_wp2_with fail
            go_ret2
            rw [hpm.out]
            exact ⟨rfl, hB2w.out.trans ((hBl.out.trans hb3).mono hB1size)⟩
        · have hp1 : 0 < l1.length := List.length_pos_iff.2 hz
          have hd0 : decide ((0 : Int) < (l1.length : Int)) = true := by rw [decide_eq_true_iff]; omega
          have hlen := row_len [100, 101, 102, 97, 117, 108, 116] l1 hBN.out
          simp only [List.length_cons, List.length_nil] at hlen
          obtain ⟨rw1, hrw⟩ : ∃ rw1, rowL [100, 101, 102, 97, 117, 108, 116] (l1.map toL) = rw1 := ⟨_, rfl⟩
          have hRow := Lib.hid (print_row.calls (B [100, 101, 102, 97, 117, 108, 116]) A1 c1 l1 _ wr hC1r.out hc1 (row_f [100, 101, 102, 97, 117, 108, 116] l1 (by simp) hBN.out))
          rw [hrw] at hRow hlen
          have hpm : Hid (printM l0 l1 = if 16384 < (out ++ (rw1 ++ [10])).length then (⟨#[]⟩, 3) else (B (out ++ (rw1 ++ [10])), 0)) := by
            show _ = _
            rw [printM, hr, hfin.out, defL, if_neg hz, hrw]
            simp
          have hsum : (9223372036854775806 < rw1.length) = False := eq_false (by omega)
          have hsum2 : (9223372036854775807 < rw1.length + 1) = False := eq_false (by omega)
          have hsum3 : (9223372036854775806 < (B rw1).size) = False := by rw [B_size]; exact hsum
          have hsum4 : (9223372036854775807 < (B rw1).size + 1) = False := by rw [B_size]; exact hsum2
          go_wp2_with fail
          refine hRow.out.mono ?_
          rintro e w3 ⟨rfl, hb3⟩
          have hI3 := Lib.hid (isB_below hIB.out hb3)
          have hBl3 := Lib.hid (hBl.out.trans (hb3.mono hbase.out))
          clear hb3 hRow
          have hWr := Lib.hid (write w1.heap.size w1.heap.size out (rw1 ++ [10]) w3 hI3.out (by simp; omega) (Nat.le_trans (Nat.le_of_lt hsz2) hBl3.out.size))
          have hcat : B rw1 ++ (⟨#[10]⟩ : ByteArray) = ⟨(rw1 ++ [10]).toArray⟩ := (B_app rw1 [10]).symm
          clear hI3
          go_wp2_with fail
          refine hWr.out.mono ?_
          rintro e w4 ⟨rfl, hI4, hb4⟩
          have hI := Lib.hid hI4
          have hBl4 := Lib.hid (hBl3.out.trans hb4)
          have hbase4 : Hid (w1.heap.size ≤ w4.heap.size) := Nat.le_trans (Nat.le_of_lt hsz2) hBl4.out.size
          clear hI4 hb4 hWr hBl3
          obtain ⟨tot, htot⟩ : ∃ tot, out ++ (rw1 ++ [10]) = tot := ⟨_, rfl⟩
          rw [htot] at hI hpm
          have hLn := Lib.hid (Len_b w1.heap.size w1.heap.size tot w4 hI.out)
          have hSt := Lib.hid (Tryz.Builder_String_any w1.heap.size w1.heap.size tot w4 hI.out hbase4.out)
          go_wp2_with fail
          refine hLn.out.mono ?_
          rintro e w5 ⟨rfl, rfl⟩
          by_cases hbig : 16384 < tot.length
          · have hdb : decide ((16384 : Int) < (tot.length : Int)) = true := by rw [decide_eq_true_iff]; omega
            rw [if_pos hbig] at hpm
            go_wp2_with fail
            go_ret2
            rw [hpm.out]
            exact ⟨rfl, hB2w.out.trans (hBl4.out.mono hB1size)⟩
          · have hdb : decide ((16384 : Int) < (tot.length : Int)) = false := by rw [decide_eq_false_iff_not]; omega
            rw [if_neg hbig] at hpm
            go_wp2_with fail
            refine hSt.out.mono ?_
            rintro e w5 ⟨rfl, hb5⟩
            go_wp2_with fail
            go_ret2
            rw [hpm.out]
            exact ⟨rfl, hB2w.out.trans ((hBl4.out.trans hb5).mono hB1size)⟩
      | succ gk =>
        have hin : i < l0.length := by omega
        have hlt : decide ((i : Int) < (n : Int)) = true := by rw [decide_eq_true_iff]; omega
        have i1 : (0 : Int) ≤ (i : Int) := by omega
        have i2 : (i : Int) < (n : Int) := by omega
        have hBw := Lib.hid (hB2w.out.trans (hBl.out.mono hB1size))
        have hCw : Kd.C k47 wr A0 n l0 := Kd.C_below hC0.out hBw.out
        obtain ⟨ad, a0, d0, a1, d1, a2, d2, a3, d3, hA', q0, q1, q2, q3, q4, q5, m0, g0, m1, g1, m2, g2, m3, g3⟩ := at_T47 hCw (i : Int) i1 i2
        subst hA'
        have hrd : rd_T47 l0 (i : Int) = l0[i] := by simp [rd_T47, List.getD_eq_getElem?_getD, List.getElem?_eq_getElem hin]
        rw [Int.toNat_natCast] at q0 q1 q2 q3 q4 q5
        rw [hrd] at q0 q1 q2 q3 q4 q5 m0 g0 m1 g1 m2 g2 m3 g3
        have hdrop : l0.drop i = l0[i] :: l0.drop (i + 1) := List.drop_eq_getElem_cons hin
        have hO2 : Hid ((out ++ edgeL i l0[i]) ++ edgesL (i + 1) (l0.drop (i + 1)) = edgesL 0 l0) := by
          show _ = _
          have := hO.out
          rw [hdrop, edgesL, ← List.append_assoc] at this
          exact this
        have hbx := List.all_eq_true.1 hBS.out l0[i] (List.getElem_mem hin)
        generalize l0[i] = x at *
        have hel := edge_len i x (by omega) hbx
        have hol2 : (out ++ edgeL i x).length ≤ (i + 1) * 10000000 := by rw [List.length_append]; omega
        have hEd := Lib.hid (fun (W : World) (h : Below wr.heap.size wr W) => print_edge.calls 1 (i : Int) a0 d0 x.f0 a1 d1 x.f1 a2 d2 x.f2 a3 d3 x.f3 x.f4 x.f5 _ W (Kd.C_below g0 h) m0 (Kd.C_below g1 h) m1 (Kd.C_below g2 h) m2 (Kd.C_below g3 h) m3 (edge_f i x (by omega) hbx))
        have hBa := Lib.hid ((Below.refl wr.heap.size wr).alloc (Nat.le_refl _) (.cells #[.slice a0 x.f0.length d0, .slice a1 x.f1.length d1, .slice a2 x.f2.length d2, .slice a3 x.f3.length d3, .string x.f4, .string x.f5] 47))
        clear g0 m0 g1 m1 g2 m2 g3 m3 hCw hrd hdrop hO
        go_wp2_with fail
        refine (hEd.out _ hBa.out).mono ?_
        rintro e w3 ⟨rfl, hb3⟩
        have hB3 := Lib.hid (hBa.out.trans (hb3.mono hBa.out.size))
        clear hb3 hEd hBa
        have hI3 := Lib.hid (isB_below hIB.out hB3.out)
        have hBl3 := Lib.hid (hBl.out.trans (hB3.out.mono (Nat.le_trans (Nat.le_of_lt hsz2) hBl.out.size)))
        have hWr := Lib.hid (write w1.heap.size w1.heap.size out (edgeL i x) w3 hI3.out (by omega) (Nat.le_trans (Nat.le_of_lt hsz2) hBl3.out.size))
        clear hI3 hIB hB3 hBw
        go_wp2_with fail
        refine hWr.out.mono ?_
        rintro e w4 ⟨rfl, hI4, hb4⟩
        have hI := Lib.hid hI4
        have hBl4 := Lib.hid (hBl3.out.trans hb4)
        clear hI4 hb4 hWr hBl3
        go_wp2_with fail
        go_roundg gk
        case measure => omega
        case rel => exact ⟨i + 1, out ++ edgeL i x, by first | rfl | simp, by omega, hO2, hol2, hI, hBl4⟩
def print_Print.f (l0 : List S47) (l1 : List ByteArray) : Option (ByteArray × Int) := if okM l0 l1 = true then some (printM l0 l1) else none
theorem print_Print.calls (A0 : Option Addr) (c0 : Nat) (l0 : List S47) (A1 : Option Addr) (c1 : Nat) (l1 : List ByteArray) (r0 : ByteArray) (r1 : Int) (w : World) (hr0 : Kd.C k47 w A0 l0.length l0) (hc0 : l0.length ≤ c0) (hr1 : Kd.C Kd.string w A1 l1.length l1) (hc1 : l1.length ≤ c1) (h : print_Print.f l0 l1 = some (r0, r1)) :
    Calls Tryz.prog 6 #[.agg #[.slice A0 l0.length c0, .slice A1 l1.length c1]] w fun e w' => e = .returned (.tuple #[.string r0, .int .i64 r1]) ∧ Below w.heap.size w w' := by
  unfold print_Print.f at h
  split at h
  · rename_i hc
    have h' := Option.some.inj h
    have := Print_any A0 A1 c0 c1 l0 l1 w hr0 hc0 hr1 hc1 hc
    rwa [h'] at this
  · cases h
end Go.Proofs.YtbjekebkgidhaaaGreatDoor.P
end
section
set_option linter.unusedSimpArgs false
set_option linter.unusedVariables false
namespace Go.Proofs.YtbjekebkgidhaaaGreatDoor.P
open Go.RowKit Go.Lib Go.Shelf Go.Proofs.YtbjekebkgidhaaaGreatDoorW.PrintWords Go.Proofs.YtbjekebkgidhaaaGreatDoorW.PrintLast Go.Proofs.YtbjekebkgidhaaaGreatDoorW.PrintMore Go.Proofs.YtbjekebkgidhaaaGreatDoor.U Go.Proofs.YtbjekebkgidhaaaGreatDoor.PTh Go.Proofs.YtbjekebkgidhaaaGreatDoor.Bld
def okN (l0 : List S47) (l1 : List ByteArray) : Bool := decide (l0.length ≤ 200) && boundT l1 && l0.all boundU
set_option maxRecDepth 100000 in
set_option maxHeartbeats 8000000 in
theorem Print_anyN (A0 A1 : Option Addr) (c0 c1 : Nat) (l0 : List S47) (l1 : List ByteArray) (w : World) (ht : Tab w) (hr0 : Kd.C k47 w A0 l0.length l0) (hc0 : l0.length ≤ c0) (hr1 : Kd.C Kd.string w A1 l1.length l1) (hc1 : l1.length ≤ c1) (hok : okN l0 l1 = true) :
    Calls Tryz.prog 6 #[.agg #[.slice A0 l0.length c0, .slice A1 l1.length c1]] w fun e w' => e = .returned (.tuple #[.string (printM l0 l1).1, .int .i64 (printM l0 l1).2]) ∧ Below w.heap.size w w' := by
  have hu32 := Tryz.underlying32
  have hu43 := Tryz.underlying47
  simp only [okN, Bool.and_eq_true, decide_eq_true_iff] at hok
  obtain ⟨⟨hn0, hb1⟩, hbs⟩ := hok
  have hn1 : l1.length ≤ 4000 := by simp only [boundT, Bool.and_eq_true, decide_eq_true_iff] at hb1; exact hb1.1
  have hnx : ∀ x ∈ l0, namesS x ≤ 100000 := by
    intro x hx
    have := List.all_eq_true.1 hbs x hx
    simp only [boundU, boundT, Bool.and_eq_true, decide_eq_true_iff] at this
    unfold namesS; omega
  have hR := Lib.hid (fun (W : World) (h : Below w.heap.size w W) => Right_any A0 A1 c0 c1 l0 l1 W (Kd.C_below hr0 h) hc0 (Kd.C_below hr1 h) hc1 (by omega) (by omega) hnx)
  have hT := Lib.hid (fun (W : World) (h : Below w.heap.size w W) => ht.below h)
  have hC0 := Lib.hid hr0
  have hC1 := Lib.hid hr1
  have hBS := Lib.hid hbs
  have hBN := Lib.hid hb1
  clear hr0 hr1 hbs hb1 hnx ht
  obtain ⟨r, hr⟩ : ∃ r, rightM l0 l1 = r := ⟨_, rfl⟩
  rw [hr] at hR
  have hBox := Lib.hid ((Below.refl w.heap.size w).alloc (Nat.le_refl _) (.cells #[.slice A0 l0.length c0, .slice A1 l1.length c1] 32))
  have hCell : Hid ((w.alloc (.cells #[.slice A0 l0.length c0, .slice A1 l1.length c1] 32)).heap[w.heap.size]? = some (.cells #[.slice A0 l0.length c0, .slice A1 l1.length c1] 32 (0, 0))) := heap_alloc_new w _
  have hSz : w.heap.size < (w.alloc (.cells #[.slice A0 l0.length c0, .slice A1 l1.length c1] 32)).heap.size := by simp
  go_enter Tryz.func6, Tryz.ntmps6
  go_wp2_with fail
  generalize w.alloc (.cells #[.slice A0 l0.length c0, .slice A1 l1.length c1] 32) = w0 at *
  refine (hR.out _ hBox.out).mono ?_
  rintro e w1 ⟨rfl, hb⟩
  have hB1 := Lib.hid (hBox.out.trans (hb.mono hBox.out.size))
  have hCe1 := Lib.hid ((hb.block _ hSz).trans hCell.out)
  have hSz1 : w.heap.size < w1.heap.size := Nat.lt_of_lt_of_le hSz hb.size
  clear hb hBox hCell hSz hR
  cases r with
  | false =>
    have hp : printM l0 l1 = (⟨#[]⟩, 1) := by rw [printM, hr]; rfl
    go_wp2_with fail
    go_ret2
    rw [hp]
    exact ⟨rfl, hB1.out⟩
  | true =>
    have hB2 := Lib.hid ((Below.refl w1.heap.size w1).alloc (Nat.le_refl _) (.cells #[.pointer none, .slice none 0 0] 46))
    have hIs := Lib.hid (isB_fresh w1)
    have hsz2 : w1.heap.size < (w1.alloc (.cells #[.pointer none, .slice none 0 0] 46)).heap.size := by simp
    obtain ⟨w2, hw2⟩ : ∃ w2, w1.alloc (.cells #[.pointer none, .slice none 0 0] 46) = w2 := ⟨_, rfl⟩
    rw [hw2] at hB2 hIs hsz2
    have hCe2 := Lib.hid ((hB2.out.block _ hSz1).trans hCe1.out)
    have k0 := (cell_of_heap (j := 0) hCe2.out).trans rfl
    go_wp2_with fail
    have hB2w := Lib.hid (hB1.out.trans (hB2.out.mono hB1.out.size))
    have hB1size := hB1.out.size
    clear hB1 hCe1 k0 hw2
    obtain ⟨n, hN⟩ : ∃ n, l0.length = n := ⟨_, rfl⟩
    rw [hN] at hn0 hC0 hCe2 hc0 ⊢
    go_loopg [13] n (fun gk s13 wr => ∃ (i : Nat) (out : List UInt8), s13 = .int .i64 (i : Int) ∧ i + gk = n ∧ Hid (out ++ edgesL i (l0.drop i) = edgesL 0 l0) ∧ out.length ≤ i * 10000000 ∧ Hid (IsB w1.heap.size w1.heap.size out wr) ∧ Hid (Below w1.heap.size w2 wr))
    case atStart => exact ⟨0, [], rfl, Nat.zero_add _, rfl, Nat.zero_le _, hIs, Below.refl _ _⟩
    case round =>
      obtain ⟨i, out, rfl, hik, hO, hol, hIB, hBl⟩ := hrel
      cases gk with
      | zero =>
        obtain rfl : i = n := by omega
        have hlt : decide ((i : Int) < (i : Int)) = false := by simp
        have hbase : Hid (w1.heap.size ≤ wr.heap.size) := Nat.le_trans (Nat.le_of_lt hsz2) hBl.out.size
        have hCe := Lib.hid ((hBl.out.block _ hSz1).trans hCe2.out)
        have k1 := (cell_of_heap (j := 1) hCe.out).trans rfl
        have hfin : Hid (out = edgesL 0 l0) := by
          show _ = _
          have := hO.out
          rw [List.drop_of_length_le (by omega), edgesL, List.append_nil] at this
          exact this
        have hC1r := Lib.hid (Kd.C_below hC1.out (hB2w.out.trans (hBl.out.mono hB1size)))
        by_cases hz : l1 = []
        · subst hz
          have hd0 : decide ((0 : Int) < (0 : Int)) = false := rfl
          have hpm : Hid (printM l0 [] = if 16384 < out.length then (⟨#[]⟩, 3) else (B out, 0)) := by
            show _ = _
            rw [printM, hr, hfin.out]
            simp [defL]
          have hLn := Lib.hid (Len_b w1.heap.size w1.heap.size out wr hIB.out)
          have hSt := Lib.hid (Tryz.Builder_String_any w1.heap.size w1.heap.size out wr hIB.out hbase.out)
          go_wp2_with fail
          refine hLn.out.mono ?_
          rintro e w3 ⟨rfl, rfl⟩
          by_cases hbig : 16384 < out.length
          · have hdb : decide ((16384 : Int) < (out.length : Int)) = true := by rw [decide_eq_true_iff]; omega
            rw [if_pos hbig] at hpm
            go_wp2_with fail
            go_ret2
            rw [hpm.out]
            exact ⟨rfl, hB2w.out.trans (hBl.out.mono hB1size)⟩
          · have hdb : decide ((16384 : Int) < (out.length : Int)) = false := by rw [decide_eq_false_iff_not]; omega
            rw [if_neg hbig] at hpm
            go_wp2_with fail
            refine hSt.out.mono ?_
            rintro e w3 ⟨rfl, hb3⟩
            go_wp2_with fail
            go_ret2
            rw [hpm.out]
            exact ⟨rfl, hB2w.out.trans ((hBl.out.trans hb3).mono hB1size)⟩
        · have hp1 : 0 < l1.length := List.length_pos_iff.2 hz
          have hd0 : decide ((0 : Int) < (l1.length : Int)) = true := by rw [decide_eq_true_iff]; omega
          have hlen := row_lenN [100, 101, 102, 97, 117, 108, 116] l1 hBN.out
          simp only [List.length_cons, List.length_nil] at hlen
          obtain ⟨rw1, hrw⟩ : ∃ rw1, rowL [100, 101, 102, 97, 117, 108, 116] (l1.map toL) = rw1 := ⟨_, rfl⟩
          have hRow := Lib.hid (print_row.calls (B [100, 101, 102, 97, 117, 108, 116]) A1 c1 l1 _ wr hC1r.out hc1 (row_fN [100, 101, 102, 97, 117, 108, 116] l1 (by simp) hBN.out))
          rw [hrw] at hRow hlen
          have hpm : Hid (printM l0 l1 = if 16384 < (out ++ (rw1 ++ [10])).length then (⟨#[]⟩, 3) else (B (out ++ (rw1 ++ [10])), 0)) := by
            show _ = _
            rw [printM, hr, hfin.out, defL, if_neg hz, hrw]
            simp
          have hsum : (9223372036854775806 < rw1.length) = False := eq_false (by omega)
          have hsum2 : (9223372036854775807 < rw1.length + 1) = False := eq_false (by omega)
          have hsum3 : (9223372036854775806 < (B rw1).size) = False := by rw [B_size]; exact hsum
          have hsum4 : (9223372036854775807 < (B rw1).size + 1) = False := by rw [B_size]; exact hsum2
          go_wp2_with fail
          refine hRow.out.mono ?_
          rintro e w3 ⟨rfl, hb3⟩
          have hI3 := Lib.hid (isB_below hIB.out hb3)
          have hBl3 := Lib.hid (hBl.out.trans (hb3.mono hbase.out))
          clear hb3 hRow
          have hWr := Lib.hid (write w1.heap.size w1.heap.size out (rw1 ++ [10]) w3 hI3.out (by simp; omega) (Nat.le_trans (Nat.le_of_lt hsz2) hBl3.out.size))
          have hcat : B rw1 ++ (⟨#[10]⟩ : ByteArray) = ⟨(rw1 ++ [10]).toArray⟩ := (B_app rw1 [10]).symm
          clear hI3
          go_wp2_with fail
          refine hWr.out.mono ?_
          rintro e w4 ⟨rfl, hI4, hb4⟩
          have hI := Lib.hid hI4
          have hBl4 := Lib.hid (hBl3.out.trans hb4)
          have hbase4 : Hid (w1.heap.size ≤ w4.heap.size) := Nat.le_trans (Nat.le_of_lt hsz2) hBl4.out.size
          clear hI4 hb4 hWr hBl3
          obtain ⟨tot, htot⟩ : ∃ tot, out ++ (rw1 ++ [10]) = tot := ⟨_, rfl⟩
          rw [htot] at hI hpm
          have hLn := Lib.hid (Len_b w1.heap.size w1.heap.size tot w4 hI.out)
          have hSt := Lib.hid (Tryz.Builder_String_any w1.heap.size w1.heap.size tot w4 hI.out hbase4.out)
          go_wp2_with fail
          refine hLn.out.mono ?_
          rintro e w5 ⟨rfl, rfl⟩
          by_cases hbig : 16384 < tot.length
          · have hdb : decide ((16384 : Int) < (tot.length : Int)) = true := by rw [decide_eq_true_iff]; omega
            rw [if_pos hbig] at hpm
            go_wp2_with fail
            go_ret2
            rw [hpm.out]
            exact ⟨rfl, hB2w.out.trans (hBl4.out.mono hB1size)⟩
          · have hdb : decide ((16384 : Int) < (tot.length : Int)) = false := by rw [decide_eq_false_iff_not]; omega
            rw [if_neg hbig] at hpm
            go_wp2_with fail
            refine hSt.out.mono ?_
            rintro e w5 ⟨rfl, hb5⟩
            go_wp2_with fail
            go_ret2
            rw [hpm.out]
            exact ⟨rfl, hB2w.out.trans ((hBl4.out.trans hb5).mono hB1size)⟩
      | succ gk =>
        have hin : i < l0.length := by omega
        have hlt : decide ((i : Int) < (n : Int)) = true := by rw [decide_eq_true_iff]; omega
        have i1 : (0 : Int) ≤ (i : Int) := by omega
        have i2 : (i : Int) < (n : Int) := by omega
        have hBw := Lib.hid (hB2w.out.trans (hBl.out.mono hB1size))
        have hCw : Kd.C k47 wr A0 n l0 := Kd.C_below hC0.out hBw.out
        obtain ⟨ad, a0, d0, a1, d1, a2, d2, a3, d3, hA', q0, q1, q2, q3, q4, q5, m0, g0, m1, g1, m2, g2, m3, g3⟩ := at_T47 hCw (i : Int) i1 i2
        subst hA'
        have hrd : rd_T47 l0 (i : Int) = l0[i] := by simp [rd_T47, List.getD_eq_getElem?_getD, List.getElem?_eq_getElem hin]
        rw [Int.toNat_natCast] at q0 q1 q2 q3 q4 q5
        rw [hrd] at q0 q1 q2 q3 q4 q5 m0 g0 m1 g1 m2 g2 m3 g3
        have hdrop : l0.drop i = l0[i] :: l0.drop (i + 1) := List.drop_eq_getElem_cons hin
        have hO2 : Hid ((out ++ edgeL i l0[i]) ++ edgesL (i + 1) (l0.drop (i + 1)) = edgesL 0 l0) := by
          show _ = _
          have := hO.out
          rw [hdrop, edgesL, ← List.append_assoc] at this
          exact this
        have hbx := List.all_eq_true.1 hBS.out l0[i] (List.getElem_mem hin)
        generalize l0[i] = x at *
        have hel := edge_lenN i x (by omega) hbx
        have hol2 : (out ++ edgeL i x).length ≤ (i + 1) * 10000000 := by rw [List.length_append]; omega
        have hEd := Lib.hid (fun (W : World) (h : Below wr.heap.size wr W) => print_edgN.calls 1 (i : Int) a0 d0 x.f0 a1 d1 x.f1 a2 d2 x.f2 a3 d3 x.f3 x.f4 x.f5 _ W (hT.out W (hBw.out.trans (h.mono hBw.out.size))) (Kd.C_below g0 h) m0 (Kd.C_below g1 h) m1 (Kd.C_below g2 h) m2 (Kd.C_below g3 h) m3 (edge_fN i x (by omega) hbx))
        have hBa := Lib.hid ((Below.refl wr.heap.size wr).alloc (Nat.le_refl _) (.cells #[.slice a0 x.f0.length d0, .slice a1 x.f1.length d1, .slice a2 x.f2.length d2, .slice a3 x.f3.length d3, .string x.f4, .string x.f5] 47))
        clear g0 m0 g1 m1 g2 m2 g3 m3 hCw hrd hdrop hO
        go_wp2_with fail
        refine (hEd.out _ hBa.out).mono ?_
        rintro e w3 ⟨rfl, hb3⟩
        have hB3 := Lib.hid (hBa.out.trans (hb3.mono hBa.out.size))
        clear hb3 hEd hBa
        have hI3 := Lib.hid (isB_below hIB.out hB3.out)
        have hBl3 := Lib.hid (hBl.out.trans (hB3.out.mono (Nat.le_trans (Nat.le_of_lt hsz2) hBl.out.size)))
        have hWr := Lib.hid (write w1.heap.size w1.heap.size out (edgeL i x) w3 hI3.out (by omega) (Nat.le_trans (Nat.le_of_lt hsz2) hBl3.out.size))
        clear hI3 hIB hB3 hBw
        go_wp2_with fail
        refine hWr.out.mono ?_
        rintro e w4 ⟨rfl, hI4, hb4⟩
        have hI := Lib.hid hI4
        have hBl4 := Lib.hid (hBl3.out.trans hb4)
        clear hI4 hb4 hWr hBl3
        go_wp2_with fail
        go_roundg gk
        case measure => omega
        case rel => exact ⟨i + 1, out ++ edgeL i x, by first | rfl | simp, by omega, hO2, hol2, hI, hBl4⟩
end Go.Proofs.YtbjekebkgidhaaaGreatDoor.P
end
