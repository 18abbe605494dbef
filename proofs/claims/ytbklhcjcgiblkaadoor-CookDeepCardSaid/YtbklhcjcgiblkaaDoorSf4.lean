/- Laid together by wip/tools/shake.py from texts of this claim: CkDeep, CardCookDeep. -/
import Derived.Test.YtbklhcjcgiblkaaDoorSf3
import Derived.Test.YtbklhcjcgiblkaaDoorRows
import Derived.WalkKit
import Derived.ProofKit
import Derived.OpenShut
import Derived.ShutString
import Derived.ChangeOld
import Derived.Below
import Derived.SizedLaws
import Derived.Carry
import Derived.LaidMore
import Derived.Lay
import Derived.SevenTiedAt
import Derived.Stop.Joined
import Derived.Test.YtbklhcjcgiblkaaDoorTie
import Derived.Test.YtbklhcjcgiblkaaDoorCards
section
set_option linter.unusedSimpArgs false
set_option linter.unusedVariables false
namespace Go.Proofs.YtbklhcjcgiblkaaDoor.Ck
open Go.RowKit Go.Lib Go.Shelf Go.Maps Go.Proofs.YtbklhcjcgiblkaaDoorW.PrintWords Go.Proofs.YtbklhcjcgiblkaaDoorW.PrintLast Go.Proofs.YtbklhcjcgiblkaaDoorW.PrintMore Go.Proofs.YtbklhcjcgiblkaaDoor.U Go.Proofs.YtbklhcjcgiblkaaDoor.P Go.Proofs.YtbklhcjcgiblkaaDoor.PTh Go.Proofs.YtbklhcjcgiblkaaDoor.MapV
theorem deepFs_len (n : Nat) (itself : Bool) (k : Nat) : (deepFs n itself k).length = k := by rw [deepFs, List.length_map, List.length_range]
theorem deepFs_succ (n : Nat) (itself : Bool) (k : Nat) : deepFs n itself (k + 1) = deepFs n itself k ++ [deepF n itself k] := by rw [deepFs, List.range_succ, List.map_append]; rfl
theorem conv_one {c : UInt8} (w : World) (g : Nat) (hg : w.heap.size = g) (z : Int) (hz : (c.toNat : Int) = z) : (convert 24 9 (.slice (some ⟨g, 0, none⟩) 1 1)).run Tryd.prog (w.alloc (.cells #[.int .u8 z] 5)) = .ok (.string (B [c])) (w.alloc (.cells #[.int .u8 z] 5)) := by
  subst hg hz
  exact conv_txt (b := [c]) (bytes_at (b := [c]) (heap_alloc_new w _) (by simp))
theorem conv_two {c d : UInt8} (w : World) (g : Nat) (hg : w.heap.size = g) (z y : Int) (hz : (c.toNat : Int) = z) (hy : (d.toNat : Int) = y) : (convert 24 9 (.slice (some ⟨g, 0, none⟩) 2 2)).run Tryd.prog (w.alloc (.cells #[.int .u8 z, .int .u8 y] 5)) = .ok (.string (B [c, d])) (w.alloc (.cells #[.int .u8 z, .int .u8 y] 5)) := by
  subst hg hz hy
  exact conv_txt (b := [c, d]) (bytes_at (b := [c, d]) (heap_alloc_new w _) (by simp))
theorem lit_two (w : World) (base : Nat) (c : UInt8) (z : Int) (hz : (c.toNat : Int) = z) (hb : base ≤ w.heap.size) : (w.alloc (.cells #[.int .u8 z, .int .u8 10] 5)).ownsRow base 5 1 (.slice (some ⟨w.heap.size, 0, none⟩) 2 2) 2 (bcells [c, 10]) := by
  subst hz
  exact World.ownsRow_lit (base := base) (e := 5) (size := 1) w (bcells [c, 10]).toArray 2 hb (by simp [maxLen]) rfl
set_option maxRecDepth 100000 in
set_option maxHeartbeats 16000000 in
theorem deep_walk (many : Int) (itself : Bool) (W : World) (ht : Tab W) (hm : Lit.wf (.int .u8 many) = true) :
    Calls Tryd.prog 5 #[.int .u8 many, .bool itself] W fun e w' => e = .returned (.bool true) ∧ Below W.heap.size W w' := by
  have htH := Lib.hid ht
  clear ht
  obtain ⟨i0, hi, hz0, hz1, hz2⟩ := info_parts infoU8
  obtain ⟨m, rfl, hm1⟩ : ∃ m : Nat, many = (m : Int) ∧ m < 256 := by
    have h := hm
    simp [Lit.wf] at h
    have h1 : (0 : Int) ≤ many := h.1
    have h2 : many ≤ 255 := h.2
    exact ⟨many.toNat, by omega, by omega⟩
  clear hm
  obtain ⟨n, hn, hn13⟩ : ∃ n : Nat, (wrap64 (m : Int)).tmod 14 = (n : Int) ∧ n ≤ 13 := by
    refine ⟨m % 14, ?_, by omega⟩
    have h1 : wrap64 (m : Int) = (m : Int) := wrap_id _ (by omega) (by omega)
    rw [h1, Int.tmod_eq_emod_of_nonneg (by omega)]
    omega
  clear hm1
  go_enter Tryd.func5, Tryd.ntmps5
  go_wp2_with fail
  go_loopg [6, 7] (n + 1) (fun gk s6 s7 wr => ∃ (i : Nat) (Al : Option Addr) (cl : Nat), s6 = .slice Al i cl ∧ s7 = .int .i64 (i : Int) ∧ i + gk = n + 1 ∧ Hid (FilesAt wr W.heap.size (.slice Al i cl) (deepFs n itself i)) ∧ Hid (Below W.heap.size W wr))
  case atStart => exact ⟨0, none, 0, rfl, rfl, by omega, FilesAt.nil _ _, Below.refl _ _⟩
  case round =>
    obtain ⟨i, Al, cl, rfl, rfl, hik, hF, hB⟩ := hrel
    by_cases hin : i ≤ n
    · have hle : decide ((i : Int) ≤ (n : Int)) = true := by rw [decide_eq_true_iff]; omega
      have hi100 : i < 100 := by omega
      have hw1 : IntKind.i64.wrap (97 + (i : Int)) = 97 + (i : Int) := by rw [IntKind.wrap_i64]; omega
      have hw2 : IntKind.u8.wrap (97 + (i : Int)) = 97 + (i : Int) := by rw [IntKind.wrap_u8]; omega
      have hb2 : Below wr.heap.size wr (wr.alloc (.cells #[.int .u8 (97 + (i : Int)), .int .u8 10] 5)) := (Below.refl _ _).alloc (Nat.le_refl _) _
      have hl2 := Lib.hid (lit_two wr W.heap.size (chB i) (97 + (i : Int)) (chB_int i hi100) hB.out.size)
      by_cases hlt : i < n
      · have hlt' : decide ((i : Int) < (n : Int)) = true := by rw [decide_eq_true_iff]; omega
        have hw3 : IntKind.i64.wrap (97 + (i : Int) + 1) = 97 + (i : Int) + 1 := by rw [IntKind.wrap_i64]; omega
        have hw4 : IntKind.u8.wrap (97 + (i : Int) + 1) = 97 + (i : Int) + 1 := by rw [IntKind.wrap_u8]; omega
        have hT : Hid ([chB i, 10] ++ moreB n itself i = [chB i, 10] ++ ([35, 105, 110, 99, 108, 117, 100, 101, 32, 102, chB (i + 1), 10, 46])) := by show _ = _; rw [moreB, if_pos hlt]
        have hcv1 := conv_one (c := chB (i + 1)) (wr.alloc (.cells #[.int .u8 (97 + (i : Int)), .int .u8 10] 5)) (wr.heap.size + 1) (by simp) (97 + (i : Int) + 1) (by rw [chB_int (i + 1) (by omega)]; omega)
        have hszc : (B [chB (i + 1)]).size = 1 := size_B _
        have hcat1 : (⟨#[35, 105, 110, 99, 108, 117, 100, 101, 32, 102]⟩ : ByteArray) ++ B [chB (i + 1)] ++ ⟨#[10, 46]⟩ = B [35, 105, 110, 99, 108, 117, 100, 101, 32, 102, chB (i + 1), 10, 46] := by rw [show (⟨#[35, 105, 110, 99, 108, 117, 100, 101, 32, 102]⟩ : ByteArray) = B [35, 105, 110, 99, 108, 117, 100, 101, 32, 102] from rfl, show (⟨#[10, 46]⟩ : ByteArray) = B [10, 46] from rfl, B_append, B_append]; rfl
        have hbA := Lib.hid (hb2.alloc hb2.size (.cells #[.int .u8 (97 + (i : Int) + 1)] 5))
        have hrowA := Lib.hid (hl2.out.alloc (.cells #[.int .u8 (97 + (i : Int) + 1)] 5))
        have hBA := Lib.hid (hB.out.trans (hbA.out.mono hB.out.size))
        clear hb2 hl2
        go_wp2_with (at_builtin; go_loud (refine Lib.wpList_append_own_string _ rfl _ _ 24 9 rfl W.heap.size 5 i0 Tryd.underlying24 Tryd.underlying9 hi hz0 hz1 hz2 _ _ _ rfl hrowA.out (B [35, 105, 110, 99, 108, 117, 100, 101, 32, 102, chB (i + 1), 10, 46]) rfl (by rw [size_B]; unfold maxLen; simp) (by rw [size_B]; simp) hBA.out.size ?_))
        intro v2 w2 ho2 hg2 _
        have hc2 : bcells [chB i, 10] ++ Lib.strCells (B [35, 105, 110, 99, 108, 117, 100, 101, 32, 102, chB (i + 1), 10, 46]) = bcells ([chB i, 10] ++ [35, 105, 110, 99, 108, 117, 100, 101, 32, 102, chB (i + 1), 10, 46]) := by rw [bcells_append]; congr 1
        rw [hc2] at ho2
        obtain ⟨Ab, lb, cb, rfl⟩ : ∃ A l c, v2 = .slice A l c := by rcases ho2.2 with ⟨h, _⟩ | ⟨g, cap, cur, e, _⟩; exact ⟨_, _, _, h⟩; exact ⟨_, _, _, e⟩
        have hrow : Hid (w2.ownsRow W.heap.size 5 1 (.slice Ab lb cb) ([chB i, 10] ++ [35, 105, 110, 99, 108, 117, 100, 101, 32, 102, chB (i + 1), 10, 46]).length (bcells ([chB i, 10] ++ [35, 105, 110, 99, 108, 117, 100, 101, 32, 102, chB (i + 1), 10, 46]))) := ho2
        have hbr2 := Lib.hid (hbA.out.grown hg2 hbA.out.size (fun k e => by have e' : wr.heap.size = k := Option.some.inj e; omega))
        clear ho2 hg2 hc2
        clear hcv1 hszc hcat1 hrowA hBA hbA hw3 hw4
        have hcv := conv_one (c := chB i) w2 w2.heap.size rfl (97 + (i : Int)) (chB_int i (by omega))
        have hsz1 : (B [chB i]).size = 1 := size_B _
        have hcat : (⟨#[102]⟩ : ByteArray) ++ B [chB i] = B [102, chB i] := B_append [102] [chB i]
        have hb23 : Below w2.heap.size w2 (w2.alloc (.cells #[.int .u8 (97 + (i : Int))] 5)) := (Below.refl _ _).alloc (Nat.le_refl _) _
        have hbr3 := hbr2.out.trans (hb23.mono hbr2.out.size)
        obtain ⟨f, hof, hor⟩ := hF.out
        rw [deepFs_len] at hof
        have hof3 := Lib.hid (own_move (w1 := w2.alloc (.cells #[.int .u8 (97 + (i : Int))] 5)) hof (fun k e => hbr3.block k (own_lt hof k e)))
        have hor3 : Hid (∀ (j : Nat) (h : j < (deepFs n itself i).length), (w2.alloc (.cells #[.int .u8 (97 + (i : Int))] 5)).ownsRow W.heap.size 5 1 (f j) (deepFs n itself i)[j].b.length (bcells (deepFs n itself i)[j].b)) := fun j hj => own_move (hor j hj) (fun k e => hbr3.block k (own_lt (hor j hj) k e))
        have hrow3 := Lib.hid (own_move (w1 := w2.alloc (.cells #[.int .u8 (97 + (i : Int))] 5)) hrow.out (fun k e => hb23.block k (own_lt hrow.out k e)))
        have hB3 := Lib.hid (hB.out.trans (hbr3.mono hB.out.size))
        clear hof hor hb23 hbr3
        go_wp2_with (at_builtin; go_loud (refine print_append_cells (w0 := w2.alloc (.cells #[.int .u8 (97 + (i : Int))] 5)) (W := w2.alloc (.cells #[.int .u8 (97 + (i : Int))] 5)) W.heap.size rfl _ _ 27 39 (.agg #[.string ⟨#[]⟩, .slice none 0 0]) 2 40 rfl Tryd.underlying27 (by kernel_rfl) rfl (by decide) (by decide) (.slice Al i cl) i (ocells f 0 ((deepFs n itself i).map FileL.n)) [.string (B [102, chB i]), .slice Ab lb cb] rfl (by rw [World.size_alloc]; rfl) rfl (by intro u hu; rcases List.mem_cons.1 hu with rfl | hu; rfl; rw [List.mem_singleton.1 hu]; rfl) hof3.out (Below.refl _ _) hB3.out.size (by omega) ?_))
        intro v8 w8 ho8 hb8 hg8 ha8
        obtain ⟨A8, c8, rfl⟩ : ∃ A c, v8 = .slice A (i + 1) c := by rcases ho8.2 with ⟨_, h⟩ | ⟨g, cap, cur, e, _⟩; exact absurd h (by omega); exact ⟨_, _, e⟩
        have hF8 : Hid (FilesAt w8 W.heap.size (.slice A8 (i + 1) c8) (deepFs n itself (i + 1))) := by
          show FilesAt _ _ _ _
          rw [deepFs_succ]
          refine FilesAt.push (v := .slice Al i cl) (x := deepF n itself i) (f := f) (by rw [deepFs_len]; exact hof3.out) hor3.out ?_ hg8 (by rw [deepFs_len]; exact ho8)
          have h1 := hrow3.out
          show World.ownsRow _ _ _ _ _ ([chB i, 10] ++ moreB n itself i).length (bcells ([chB i, 10] ++ moreB n itself i))
          rw [hT.out]
          exact h1
        have hB8 := Lib.hid (hB3.out.trans hb8)
        clear ho8 hb8 hg8 ha8
        obtain ⟨gk, rfl⟩ : ∃ g', gk = g' + 1 := ⟨gk - 1, by omega⟩
        have hwr : IntKind.i64.wrap ((i : Int) + 1) = (i : Int) + 1 := by rw [IntKind.wrap_i64]; omega
        go_wp2_with fail
        go_roundg gk
        case measure => omega
        case rel => exact ⟨i + 1, A8, c8, by first | rfl | simp, by first | rfl | simp, by omega, hF8, hB8⟩
      · have hlt' : decide ((i : Int) < (n : Int)) = false := by rw [decide_eq_false_iff_not]; omega
        cases hits : itself with
        | true =>
          subst hits
          have hT : Hid ([chB i, 10] ++ moreB n true i = [chB i, 10] ++ [35, 105, 110, 99, 108, 117, 100, 101, 32, 102, 97]) := by show _ = _; rw [moreB, if_neg hlt]; rfl
          have hbA := Lib.hid hb2
          have hrowA := hl2
          have hBA := Lib.hid (hB.out.trans (hbA.out.mono hB.out.size))
          clear hb2 hl2
          go_wp2_with (at_builtin; go_loud (refine Lib.wpList_append_own_string _ rfl _ _ 24 9 rfl W.heap.size 5 i0 Tryd.underlying24 Tryd.underlying9 hi hz0 hz1 hz2 _ _ _ rfl hrowA.out (B [35, 105, 110, 99, 108, 117, 100, 101, 32, 102, 97]) rfl (by rw [size_B]; unfold maxLen; simp) (by rw [size_B]; simp) hBA.out.size ?_))
          intro v2 w2 ho2 hg2 _
          have hc2 : bcells [chB i, 10] ++ Lib.strCells (B [35, 105, 110, 99, 108, 117, 100, 101, 32, 102, 97]) = bcells ([chB i, 10] ++ [35, 105, 110, 99, 108, 117, 100, 101, 32, 102, 97]) := by rw [bcells_append]; congr 1
          rw [hc2] at ho2
          obtain ⟨Ab, lb, cb, rfl⟩ : ∃ A l c, v2 = .slice A l c := by rcases ho2.2 with ⟨h, _⟩ | ⟨g, cap, cur, e, _⟩; exact ⟨_, _, _, h⟩; exact ⟨_, _, _, e⟩
          have hrow : Hid (w2.ownsRow W.heap.size 5 1 (.slice Ab lb cb) ([chB i, 10] ++ [35, 105, 110, 99, 108, 117, 100, 101, 32, 102, 97]).length (bcells ([chB i, 10] ++ [35, 105, 110, 99, 108, 117, 100, 101, 32, 102, 97]))) := ho2
          have hbr2 := Lib.hid (hbA.out.grown hg2 hbA.out.size (fun k e => by have e' : wr.heap.size = k := Option.some.inj e; omega))
          clear ho2 hg2 hc2
          clear hrowA hBA hbA
          have hcv := conv_one (c := chB i) w2 w2.heap.size rfl (97 + (i : Int)) (chB_int i (by omega))
          have hsz1 : (B [chB i]).size = 1 := size_B _
          have hcat : (⟨#[102]⟩ : ByteArray) ++ B [chB i] = B [102, chB i] := B_append [102] [chB i]
          have hb23 : Below w2.heap.size w2 (w2.alloc (.cells #[.int .u8 (97 + (i : Int))] 5)) := (Below.refl _ _).alloc (Nat.le_refl _) _
          have hbr3 := hbr2.out.trans (hb23.mono hbr2.out.size)
          obtain ⟨f, hof, hor⟩ := hF.out
          rw [deepFs_len] at hof
          have hof3 := Lib.hid (own_move (w1 := w2.alloc (.cells #[.int .u8 (97 + (i : Int))] 5)) hof (fun k e => hbr3.block k (own_lt hof k e)))
          have hor3 : Hid (∀ (j : Nat) (h : j < (deepFs n true i).length), (w2.alloc (.cells #[.int .u8 (97 + (i : Int))] 5)).ownsRow W.heap.size 5 1 (f j) (deepFs n true i)[j].b.length (bcells (deepFs n true i)[j].b)) := fun j hj => own_move (hor j hj) (fun k e => hbr3.block k (own_lt (hor j hj) k e))
          have hrow3 := Lib.hid (own_move (w1 := w2.alloc (.cells #[.int .u8 (97 + (i : Int))] 5)) hrow.out (fun k e => hb23.block k (own_lt hrow.out k e)))
          have hB3 := Lib.hid (hB.out.trans (hbr3.mono hB.out.size))
          clear hof hor hb23 hbr3
          go_wp2_with (at_builtin; go_loud (refine print_append_cells (w0 := w2.alloc (.cells #[.int .u8 (97 + (i : Int))] 5)) (W := w2.alloc (.cells #[.int .u8 (97 + (i : Int))] 5)) W.heap.size rfl _ _ 27 39 (.agg #[.string ⟨#[]⟩, .slice none 0 0]) 2 40 rfl Tryd.underlying27 (by kernel_rfl) rfl (by decide) (by decide) (.slice Al i cl) i (ocells f 0 ((deepFs n true i).map FileL.n)) [.string (B [102, chB i]), .slice Ab lb cb] rfl (by rw [World.size_alloc]; rfl) rfl (by intro u hu; rcases List.mem_cons.1 hu with rfl | hu; rfl; rw [List.mem_singleton.1 hu]; rfl) hof3.out (Below.refl _ _) hB3.out.size (by omega) ?_))
          intro v8 w8 ho8 hb8 hg8 ha8
          obtain ⟨A8, c8, rfl⟩ : ∃ A c, v8 = .slice A (i + 1) c := by rcases ho8.2 with ⟨_, h⟩ | ⟨g, cap, cur, e, _⟩; exact absurd h (by omega); exact ⟨_, _, e⟩
          have hF8 : Hid (FilesAt w8 W.heap.size (.slice A8 (i + 1) c8) (deepFs n true (i + 1))) := by
            show FilesAt _ _ _ _
            rw [deepFs_succ]
            refine FilesAt.push (v := .slice Al i cl) (x := deepF n true i) (f := f) (by rw [deepFs_len]; exact hof3.out) hor3.out ?_ hg8 (by rw [deepFs_len]; exact ho8)
            have h1 := hrow3.out
            show World.ownsRow _ _ _ _ _ ([chB i, 10] ++ moreB n true i).length (bcells ([chB i, 10] ++ moreB n true i))
            rw [hT.out]
            exact h1
          have hB8 := Lib.hid (hB3.out.trans hb8)
          clear ho8 hb8 hg8 ha8
          obtain ⟨gk, rfl⟩ : ∃ g', gk = g' + 1 := ⟨gk - 1, by omega⟩
          have hwr : IntKind.i64.wrap ((i : Int) + 1) = (i : Int) + 1 := by rw [IntKind.wrap_i64]; omega
          go_wp2_with fail
          go_roundg gk
          case measure => omega
          case rel => exact ⟨i + 1, A8, c8, by first | rfl | simp, by first | rfl | simp, by omega, hF8, hB8⟩
        | false =>
          subst hits
          have hT : Hid ([chB i, 10] ++ moreB n false i = [chB i, 10]) := by show _ = _; rw [moreB, if_neg hlt]; rfl
          obtain ⟨w2, hw2e⟩ : ∃ w2, wr.alloc (.cells #[.int .u8 (97 + (i : Int)), .int .u8 10] 5) = w2 := ⟨_, rfl⟩
          rw [hw2e] at hb2 hl2
          have hrow : Hid (w2.ownsRow W.heap.size 5 1 (.slice (some ⟨wr.heap.size, 0, none⟩) 2 2) [chB i, 10].length (bcells [chB i, 10])) := hl2.out
          have hbr2 := Lib.hid hb2
          clear hb2 hl2
          have hcv := conv_one (c := chB i) w2 w2.heap.size rfl (97 + (i : Int)) (chB_int i (by omega))
          have hsz1 : (B [chB i]).size = 1 := size_B _
          have hcat : (⟨#[102]⟩ : ByteArray) ++ B [chB i] = B [102, chB i] := B_append [102] [chB i]
          have hb23 : Below w2.heap.size w2 (w2.alloc (.cells #[.int .u8 (97 + (i : Int))] 5)) := (Below.refl _ _).alloc (Nat.le_refl _) _
          have hbr3 := hbr2.out.trans (hb23.mono hbr2.out.size)
          obtain ⟨f, hof, hor⟩ := hF.out
          rw [deepFs_len] at hof
          have hof3 := Lib.hid (own_move (w1 := w2.alloc (.cells #[.int .u8 (97 + (i : Int))] 5)) hof (fun k e => hbr3.block k (own_lt hof k e)))
          have hor3 : Hid (∀ (j : Nat) (h : j < (deepFs n false i).length), (w2.alloc (.cells #[.int .u8 (97 + (i : Int))] 5)).ownsRow W.heap.size 5 1 (f j) (deepFs n false i)[j].b.length (bcells (deepFs n false i)[j].b)) := fun j hj => own_move (hor j hj) (fun k e => hbr3.block k (own_lt (hor j hj) k e))
          have hrow3 := Lib.hid (own_move (w1 := w2.alloc (.cells #[.int .u8 (97 + (i : Int))] 5)) hrow.out (fun k e => hb23.block k (own_lt hrow.out k e)))
          have hB3 := Lib.hid (hB.out.trans (hbr3.mono hB.out.size))
          clear hof hor hb23 hbr3
          go_wp2_with (at_builtin; go_loud (refine print_append_cells (w0 := w2.alloc (.cells #[.int .u8 (97 + (i : Int))] 5)) (W := w2.alloc (.cells #[.int .u8 (97 + (i : Int))] 5)) W.heap.size rfl _ _ 27 39 (.agg #[.string ⟨#[]⟩, .slice none 0 0]) 2 40 rfl Tryd.underlying27 (by kernel_rfl) rfl (by decide) (by decide) (.slice Al i cl) i (ocells f 0 ((deepFs n false i).map FileL.n)) [.string (B [102, chB i]), .slice (some ⟨wr.heap.size, 0, none⟩) 2 2] rfl (by rw [World.size_alloc]; rfl) rfl (by intro u hu; rcases List.mem_cons.1 hu with rfl | hu; rfl; rw [List.mem_singleton.1 hu]; rfl) hof3.out (Below.refl _ _) hB3.out.size (by omega) ?_))
          intro v8 w8 ho8 hb8 hg8 ha8
          obtain ⟨A8, c8, rfl⟩ : ∃ A c, v8 = .slice A (i + 1) c := by rcases ho8.2 with ⟨_, h⟩ | ⟨g, cap, cur, e, _⟩; exact absurd h (by omega); exact ⟨_, _, e⟩
          have hF8 : Hid (FilesAt w8 W.heap.size (.slice A8 (i + 1) c8) (deepFs n false (i + 1))) := by
            show FilesAt _ _ _ _
            rw [deepFs_succ]
            refine FilesAt.push (v := .slice Al i cl) (x := deepF n false i) (f := f) (by rw [deepFs_len]; exact hof3.out) hor3.out ?_ hg8 (by rw [deepFs_len]; exact ho8)
            have h1 := hrow3.out
            show World.ownsRow _ _ _ _ _ ([chB i, 10] ++ moreB n false i).length (bcells ([chB i, 10] ++ moreB n false i))
            rw [hT.out]
            exact h1
          have hB8 := Lib.hid (hB3.out.trans hb8)
          clear ho8 hb8 hg8 ha8
          obtain ⟨gk, rfl⟩ : ∃ g', gk = g' + 1 := ⟨gk - 1, by omega⟩
          have hwr : IntKind.i64.wrap ((i : Int) + 1) = (i : Int) + 1 := by rw [IntKind.wrap_i64]; omega
          go_wp2_with fail
          go_roundg gk
          case measure => omega
          case rel => exact ⟨i + 1, A8, c8, by first | rfl | simp, by first | rfl | simp, by omega, hF8, hB8⟩
    · have hle : decide ((i : Int) ≤ (n : Int)) = false := by rw [decide_eq_false_iff_not]; omega
      have hin1 : Hid (i = n + 1) := by show i = n + 1; omega
      have hU : Below wr.heap.size wr (wr.alloc (.cells #[.string (B [102, 97])] 9)) := (Below.refl _ _).alloc (Nat.le_refl _) _
      have hBU := Lib.hid (hB.out.trans (hU.mono hB.out.size))
      have hG : Given (wr.alloc (.cells #[.string (B [102, 97])] 9)) ⟨[[102, 97]], deepFs n itself i⟩ (some ⟨wr.heap.size, 0, none⟩) Al 1 cl :=
        ⟨words_at (ws := [[102, 97]]) (heap_alloc_new _ _) (by decide), ((hF.out.below hU).C (deepFs_len n itself i)).2, by simp, by show (deepFs n itself i).length ≤ _; rw [deepFs_len]; omega, fun f hf => by
          obtain ⟨j, _, rfl⟩ := List.mem_map.1 hf
          have := deepF_len n itself j
          omega⟩
      have hC := Cook_at [105, 110, 99, 32, 102, 97, 32, 62, 32, 111, 32, 58, 32, 111, 46, 100] (by decide) ⟨[[102, 97]], deepFs n itself i⟩ 1 i 1 cl _ _ _ hG (htH.out.below hBU.out) rfl (deepFs_len n itself i) _ rfl
      rw [hin1.out, deep_plain n (by omega) itself, ← hin1.out] at hC
      have hCH := Lib.hid hC
      have hAw : Hid (∀ w, Below W.heap.size W w → Calls Tryd.prog 11 #[] w fun e w' => e = .returned (.bool true) ∧ Below w.heap.size w w') := fun w hb => awake_any w (htH.out.below hb)
      clear hU hG hC hF hB hn
      go_wp2_with fail
      refine hCH.out.mono ?_
      rintro e w3 ⟨hb3, hP⟩
      have hB3 := Lib.hid (hBU.out.trans (hb3.mono hBU.out.size))
      clear hb3 hBU hCH
      by_cases hbad : itself = true ∨ 10 < n
      · rw [deepWant, if_pos hbad] at hP
        obtain rfl : e = _ := hP
        have hB4 := Lib.hid (hB3.out.alloc hB3.out.size (.cells #[.slice none 0 0, .bool false, .string (B []), .string (B [])] 34))
        have hx4 : (w3.alloc (.cells #[.slice none 0 0, .bool false, .string (B []), .string (B [])] 34)).heap[w3.heap.size]? = some (.cells #[.slice none 0 0, .bool false, .string (B []), .string (B [])] 34 (0, 0)) := heap_alloc_new _ _
        have k0 := (cell_of_heap (j := 0) hx4).trans rfl
        clear hx4
        cases hits : itself with
        | true =>
          subst hits
          clear hbad
          go_wp2_with fail
          refine (hAw.out _ hB4.out).mono ?_
          rintro e W5 ⟨rfl, hb5⟩
          have hB5 := Lib.hid (hB4.out.trans (hb5.mono hB4.out.size))
          go_wp2_with fail
          go_ret
          exact ⟨rfl, hB5.out⟩
        | false =>
          subst hits
          have hd10 : decide ((n : Int) > 10) = true := by rw [decide_eq_true_iff]; rcases hbad with h | h; cases h; omega
          clear hbad
          go_wp2_with fail
          refine (hAw.out _ hB4.out).mono ?_
          rintro e W5 ⟨rfl, hb5⟩
          have hB5 := Lib.hid (hB4.out.trans (hb5.mono hB4.out.size))
          go_wp2_with fail
          go_ret
          exact ⟨rfl, hB5.out⟩
      · rw [deepWant, if_neg hbad] at hP
        obtain rfl : itself = false := by cases itself with
          | true => exact absurd (.inl rfl) hbad
          | false => rfl
        have hn10 : n ≤ 10 := by rcases Nat.lt_or_ge 10 n with h | h; exact absurd (.inr h) hbad; exact h
        have hd10 : decide ((n : Int) > 10) = false := by rw [decide_eq_false_iff_not]; omega
        obtain ⟨vo, names, b, hD, rfl, ho⟩ := hP
        injection hD with hD hq1 hq2 hq3
        clear hq1 hq2 hq3
        obtain ⟨rfl, rfl⟩ := names1 hD
        obtain ⟨Ao, co, rfl⟩ := ho.form
        dsimp only at ho ⊢
        have hbv : Below w3.heap.size w3 (w3.alloc (.cells #[.slice Ao 1 co, .bool false, .string (B [111, 46, 100]), .string (B (depsT (n + 1) ++ [10]))] 34)) := (Below.refl _ _).alloc (Nat.le_refl _) _
        have hBV := Lib.hid (hB3.out.trans (hbv.mono hB3.out.size))
        have hDA : Hid (DishAt (w3.alloc (.cells #[.slice Ao 1 co, .bool false, .string (B [111, 46, 100]), .string (B (depsT (n + 1) ++ [10]))] 34)) (wr.alloc (.cells #[.string (B [102, 97])] 9)).heap.size w3.heap.size Ao 1 co [[111]] (wantT (n + 1) ++ List.replicate n 46) false [111, 46, 100] (depsT (n + 1) ++ [10])) := ⟨heap_alloc_new _ _, ho.move (fun k _ h2 => hbv.block k h2), rfl⟩
        clear hbv ho hD hbad hB3 hle
        generalize hdps : depsT (n + 1) ++ [10] = dps at *
        have hdpsH := Lib.hid hdps
        clear hdps
        go_wp2_with fail
        generalize w3.alloc (.cells #[.slice Ao 1 co, .bool false, .string (B [111, 46, 100]), .string (B dps)] 34) = V at *
        generalize w3.heap.size = db at *
        go_loopg [11, 12, 13] (n + 1) (fun gk s11 s12 s13 wr => ∃ j : Nat, s11 = .string (B (wantT j)) ∧ s12 = .string (B (depsT j)) ∧ s13 = .int .i64 (j : Int) ∧ j + gk = n + 1 ∧ Hid (Below V.heap.size V wr))
        case atStart => exact ⟨0, rfl, rfl, rfl, by omega, Below.refl _ _⟩
        case round =>
          obtain ⟨j, rfl, rfl, rfl, hjk, hb2⟩ := hrel
          by_cases hjn : j ≤ n
          · have hlej : decide ((j : Int) ≤ (n : Int)) = true := by rw [decide_eq_true_iff]; omega
            have hw1 : IntKind.i64.wrap (97 + (j : Int)) = 97 + (j : Int) := by rw [IntKind.wrap_i64]; omega
            have hw2 : IntKind.u8.wrap (97 + (j : Int)) = 97 + (j : Int) := by rw [IntKind.wrap_u8]; omega
            have hcv2 := conv_two (c := chB j) (d := 10) wr wr.heap.size rfl (97 + (j : Int)) 10 (chB_int j (by omega)) rfl
            have hszw : (B (wantT j)).size = 2 * j := by rw [size_B]; exact wantT_len j
            have hsz2 : (B [chB j, 10]).size = 2 := size_B _
            have hck1 : (9223372036854775807 < 2 * j + 2) = False := by simp; omega
            have hcat1 : B (wantT j) ++ B [chB j, 10] = B (wantT (j + 1)) := B_append _ _
            have hwr : IntKind.i64.wrap ((j : Int) + 1) = (j : Int) + 1 := by rw [IntKind.wrap_i64]; omega
            have hba : Below wr.heap.size wr (wr.alloc (.cells #[.int .u8 (97 + (j : Int)), .int .u8 10] 5)) := (Below.refl _ _).alloc (Nat.le_refl _) _
            have hbaV := Lib.hid (hb2.out.trans (hba.mono hb2.out.size))
            by_cases hj0 : j = 0
            · have hgt : decide ((j : Int) > 0) = false := by rw [decide_eq_false_iff_not]; omega
              have hgt2 : decide (0 < j) = false := by rw [decide_eq_false_iff_not]; omega
              have hgt3 : (0 < j) = False := by simp; omega
              have hds : Hid (depsT j = depsT (j + 1)) := by show _ = _; rw [depsT, if_pos hj0]
              have hj0H := Lib.hid hj0
              clear hba hj0
              obtain ⟨gk, rfl⟩ : ∃ g', gk = g' + 1 := ⟨gk - 1, by omega⟩
              go_wp2_with fail
              go_roundg gk
              case measure => omega
              case rel => exact ⟨j + 1, by first | rfl | simp, by first | (rw [← hds.out]; done) | (rw [← hds.out]; rfl), by first | rfl | simp, by omega, hbaV⟩
            · have hgt : decide ((j : Int) > 0) = true := by rw [decide_eq_true_iff]; omega
              have hgt2 : decide (0 < j) = true := by rw [decide_eq_true_iff]; omega
              have hgt3 : 0 < j := by omega
              have hds : Hid (depsT (j + 1) = depsT j ++ [32, 102, chB j]) := by show _ = _; rw [depsT, if_neg hj0]
              have hcv3 := conv_one (c := chB j) (wr.alloc (.cells #[.int .u8 (97 + (j : Int)), .int .u8 10] 5)) (wr.heap.size + 1) (by simp) (97 + (j : Int)) (chB_int j (by omega))
              have hszc : (B [chB j]).size = 1 := size_B _
              have hsz3 : (B [32, 102, chB j]).size = 3 := size_B _
              have hszD : (B (depsT j)).size = (depsT j).length := size_B _
              have hck2 : (9223372036854775807 < (depsT j).length + 3) = False := by have := depsT_len j; simp; omega
              have hcat2 : (⟨#[32, 102]⟩ : ByteArray) ++ B [chB j] = B [32, 102, chB j] := B_append [32, 102] [chB j]
              have hcat3 : B (depsT j) ++ B [32, 102, chB j] = B (depsT (j + 1)) := by rw [hds.out]; exact B_append _ _
              have hbc : Below wr.heap.size wr ((wr.alloc (.cells #[.int .u8 (97 + (j : Int)), .int .u8 10] 5)).alloc (.cells #[.int .u8 (97 + (j : Int))] 5)) := hba.alloc hba.size _
              have hbcV := Lib.hid (hb2.out.trans (hbc.mono hb2.out.size))
              have hj0H := Lib.hid hj0
              clear hba hbc hj0
              obtain ⟨gk, rfl⟩ : ∃ g', gk = g' + 1 := ⟨gk - 1, by omega⟩
              go_wp2_with fail
              go_roundg gk
              case measure => omega
              case rel => exact ⟨j + 1, by first | rfl | simp, by first | rfl | simp, by first | rfl | simp, by omega, hbcV⟩
          · have hlej : decide ((j : Int) ≤ (n : Int)) = false := by rw [decide_eq_false_iff_not]; omega
            have hjn1 : Hid (j = n + 1) := by show j = n + 1; omega
            go_wp2_with fail
            go_loopg [11, 14] n (fun gk s11 s14 wr3 => ∃ k : Nat, s11 = .string (B (wantT j ++ List.replicate k 46)) ∧ s14 = .int .i64 (k : Int) ∧ k + gk = n ∧ wr3 = wr)
            case atStart => exact ⟨0, by simp, rfl, by omega, rfl⟩
            case round =>
              obtain ⟨k, rfl, rfl, hkk, rfl⟩ := hrel
              cases gk with
              | succ gk =>
                have hltk : decide ((k : Int) < (n : Int)) = true := by rw [decide_eq_true_iff]; omega
                have hszw : (B (wantT j ++ List.replicate k 46)).size = 2 * j + k := by rw [size_B, List.length_append, wantT_len, List.length_replicate]
                have hck1 : (9223372036854775807 < 2 * j + k + 1) = False := by simp; omega
                have hcat1 : B (wantT j ++ List.replicate k 46) ++ (⟨#[46]⟩ : ByteArray) = B (wantT j ++ List.replicate (k + 1) 46) := by rw [List.replicate_succ', ← List.append_assoc]; exact B_append _ [46]
                have hwr : IntKind.i64.wrap ((k : Int) + 1) = (k : Int) + 1 := by rw [IntKind.wrap_i64]; omega
                go_wp2_with fail
                go_roundg gk
                case measure => omega
                case rel => exact ⟨k + 1, by first | rfl | simp, by first | rfl | simp, by omega, rfl⟩
              | zero =>
                have hltk : decide ((k : Int) < (n : Int)) = false := by rw [decide_eq_false_iff_not]; omega
                have hkn : Hid (k = n) := by show k = n; omega
                have hD := hDA.out.below hb2.out
                have hBl := Lib.hid (hBV.out.trans (hb2.out.mono hBV.out.size))
                obtain ⟨ad, A1, c1, rfl, p1, q1⟩ := hD.firstC (by decide)
                rw [← hjn1.out, ← hkn.out] at p1 q1
                have hcv := conv_txt (c := c1) q1
                have y0 := (cell_of_heap (j := 0) hD.h).trans rfl
                have y3 := (cell_of_heap (j := 3) hD.h).trans rfl
                have hszD : (B (depsT j)).size = (depsT j).length := size_B _
                have hck2 : (9223372036854775807 < (depsT j).length + 1) = False := by have := depsT_len j; simp; omega
                have hcat2 : B (depsT j) ++ (⟨#[10]⟩ : ByteArray) = B dps := by rw [← hdpsH.out, ← hjn1.out]; exact B_append _ [10]
                obtain ⟨wt, hwt⟩ : ∃ t, wantT j ++ List.replicate k 46 = t := ⟨_, rfl⟩
                rw [hwt] at p1 hcv ⊢
                obtain ⟨lw, hlw⟩ : ∃ l, wt.length = l := ⟨_, rfl⟩
                rw [hlw] at p1 hcv
                clear hD q1 hwt hlw
                go_wp2_with fail
                refine (hAw.out _ hBl.out).mono ?_
                rintro e W5 ⟨rfl, hb5⟩
                have hB5 := Lib.hid (hBl.out.trans (hb5.mono hBl.out.size))
                go_wp2_with fail
                go_ret
                exact ⟨rfl, hB5.out⟩
end Go.Proofs.YtbklhcjcgiblkaaDoor.Ck
end
section
namespace Go.Proofs.YtbklhcjcgiblkaaDoor.cookDeep
open Go.ChangeShapes Go.WideShapes Go.ChangeAt Go.RowKit
open Go.ChangeMaps (open_string shut_string)
set_option linter.unusedVariables false
theorem own : ownKnob Tryd.prog.godebug = none := by kernel_rfl
set_option maxRecDepth 100000 in
theorem lifted (os : Os) (started : os.Started) (H : Type) (enc : TypeId × Value → H) :
    ReturnsInHanded {} Tryd.checked os 5 .any (fun w args => (Rows.cookDeepSpec.pre enc Tryd.prog Tryd.f5 Rows.cookDeepRow.domain false w args ∧ laidMetH Tryd.prog Rows.cookDeepRow.laid w) ∧ sizedMet enc Tryd.prog Tryd.f5 (OpenSpec.ofChange Rows.cookDeepSpec) false w args) (Rows.cookDeepSpec.post enc Tryd.prog Tryd.f5 false true false false) := by
  refine returnsInHanded_of_change_and (C := Tryd.checked) (X := fun w _ => laidMetH Tryd.prog Rows.cookDeepRow.laid w) (fun _ _ _ hh h => h.of_heap hh) own started (by kernel_rfl) Tryd.func5
    (ChangeSpec.witness_shaped (enc := enc) (C := Tryd.checked) (os := os) (X := fun w _ => laidMetH Tryd.prog Rows.cookDeepRow.laid w) false (World.laidAll Tryd.prog os Rows.cookDeepRow.laid) #[.int .u8 0, .bool false] 8 (World.laidAll_os _ _ _)
      (World.shaped_of_ZipB (by kernel_rfl) (by kernel_rfl)) (by kernel_rfl) (by kernel_rfl) (by kernel_rfl)
      (by rw [MakeChecks.laidMetH_plain _ _ _ (by kernel_rfl)]; exact laidMet_laidAll _ (by kernel_rfl) (by kernel_rfl))) ?_
  intro W base args ds gs before hval0 hW hcnd hsz0 hL _
  have hsz : (DataW.weightsEach Tryd.prog (Tryd.f5.params.toList ++ Rows.cookDeepSpec.plain.varTypes Tryd.prog) (ds ++ gs)).all (· ≤ reachBytes) = true := hsz0
  have hval : ∀ (j : Nat) t v, Tryd.f5.params[j]? = some t → args[j]? = some v → Value.okWide Tryd.prog W .any base t v := hval0
  have hW' := hW
  obtain ⟨p, q, hA0, hV, rfl, hfz, hnd⟩ := hW
  have hA : DataW.TrodAll enc Tryd.prog W 0 (fun _ => true) true Tryd.f5.params.toList args.toList ds p := hA0
  rw [Tryd.params5] at hA hval hsz
  obtain ⟨v0, vs0, d0, ds0, p0, q0, hargs, rfl, rfl, h0, r0⟩ := trodAll_cons hA
  obtain ⟨v1, vs1, d1, ds1, p1, q1, rfl, rfl, rfl, h1, r1⟩ := trodAll_cons r0
  obtain ⟨rfl, rfl, rfl⟩ := trodAll_nil r1
  obtain rfl : args = #[v0, v1] := by cases args; simp_all
  obtain ⟨rfl, rfl⟩ := trodVars_none hV
  obtain ⟨a0, rfl, rfl, rfl, w0⟩ := open_int Tryd.underlying5 (hval 0 5 v0 rfl rfl) h0
  obtain ⟨a1, rfl, rfl, rfl⟩ := open_bool Tryd.underlying4 (hval 1 4 v1 rfl rfl) h1
  clear hA0 hval0 hsz0 hsz
  refine (Ck.deep_walk a0 a1 W (Tab.of_laid hL) w0).mono fun e W' ⟨he, bel⟩ => ?_
  subst he
  exact ⟨_, rfl, _, _, _, [], _, [], hW', trodAll_mk1 (shut_bool Tryd.underlying4 _), (trodAll_cons_mk (shut_int Tryd.underlying5 w0) (trodAll_cons_mk (shut_bool Tryd.underlying4 _) trodAll_mk0)), rfl, bel.frame _, fun h => by cases h⟩
theorem over : Rows.cookDeepRow.holds Tryd.pinned (OpenSpec.ofChange Rows.cookDeepSpec) :=
  OpenClaim.holds_of_wide 5 Tryd.f5 rfl rfl rfl rfl rfl rfl rfl ⟨rfl, rfl, rfl, rfl, rfl⟩ rfl rfl rfl rfl rfl (by kernel_rfl) Tryd.func5 (by kernel_rfl)
    (of_decide_eq_true (by kernel_rfl)) (by unfold Func.isWrapper; first | (rw [if_pos (by decide +kernel)]; kernel_rfl) | (rw [if_neg (by decide +kernel)]; exact ⟨rfl, rfl⟩))
    (fun os started H enc _ => lifted os started H enc)
theorem card : Rows.CookDeepCardSaid :=
  Claim7.holds_tied_plain_at .later [] [.data, .data, .data, .data, .pinned] true (true, "38a24746a22e816a7c20228ce871cbdf67fddb3eb70abfcecec18083f03f6761") true over (fun _ h => by cases h) (by kernel_rfl) (fun _ h => by cases h) cookDeep_row_tie rfl ⟨rfl, rfl⟩ (by kernel_rfl) rfl
    (fun f fn hf hfn => by
      obtain rfl : f = 5 := Option.some.inj ((show Tryd.prog.funcNamed "bellows/bellowslaw15.CookDeep" = some 5 by kernel_rfl).symm.trans hf) |>.symm
      obtain rfl : fn = Tryd.f5 := (Option.some.inj (Tryd.func5.symm.trans hfn)).symm
      have hall : (Tryd.f5.params.toList.all fun u => !Tryd.prog.wantsStandIn u) = true := by kernel_rfl
      exact ⟨by kernel_rfl, fun j t ht => by
        have hm : t ∈ Tryd.f5.params.toList := by simpa using Array.mem_of_getElem? ht
        exact (show Tryd.prog.wantsStandIn t = false by simpa using List.all_eq_true.1 hall t hm)⟩)
    (by kernel_rfl)
#print axioms card
end Go.Proofs.YtbklhcjcgiblkaaDoor.cookDeep
namespace Go.Proofs.YtbklhcjcgiblkaaDoor
theorem cookDeep_card : Rows.CookDeepCardSaid := cookDeep.card
end Go.Proofs.YtbklhcjcgiblkaaDoor
end
