/- Laid together by wip/tools/shake.py from texts of this claim: PPrintEdge0, PrEdgeL, Build, PrPrint, PBellowsref03Plain0, PBellowsref03Clean0, PBellowsref03Right0, PathRefD, PBellowsref10Escape0, PBellowsref12Paths0, PBellowsref12Row0. -/
import Derived.Test.YtapdchapjpnceaaGreatDoorZ2
import Derived.Lib.Builder
import Derived.Lib.AppendStr
import Derived.Lib.UnsafeStr
import Derived.WalkKit
import Derived.WalkSmall
import Derived.Laws.Externs
import Derived.KernelRfl
section
namespace Go.Proofs.YtapdchapjpnceaaGreatDoor.P
open Go.RowKit Go.Proofs.YtapdchapjpnceaaGreatDoorW.PrintWords Go.Proofs.YtapdchapjpnceaaGreatDoorW.PrintLast Go.Proofs.YtapdchapjpnceaaGreatDoorW.PrintMore
attribute [local go_sem] max2_int min2_int max_two min_two max_three min_three max_four min_four
set_option linter.unusedVariables false
set_option linter.unusedSimpArgs false
theorem wrap_two_YtapdchapjpnceaaGreatDoorPPrintEdge0 (a b : Nat) (h : a + b ≤ 9223372036854775807) : wrap64 ((a : Int) + (b : Int)) = (a : Int) + (b : Int) := by unfold wrap64; omega
def print_edge.j0 : Nat → ByteArray → ByteArray → List ByteArray → List ByteArray → List ByteArray → List ByteArray → ByteArray → ByteArray → Option (ByteArray)
  | 0, _, _, _, _, _, _, _, _ => none
  | k + 1, x5, x6, x146000, x146001, x146002, x146003, x146004, x146005 => (print_row.f (⟨#[98, 117, 105, 108, 100]⟩ : ByteArray) x146000).bind fun t149 => (if x6.size + t149.size ≤ 9223372036854775807 then (if (x6 ++ t149).size + 2 ≤ 9223372036854775807 then (if ((x6 ++ t149) ++ (⟨#[58, 32]⟩ : ByteArray)).size + x5.size ≤ 9223372036854775807 then ((print_row.f (⟨#[]⟩ : ByteArray) x146001).bind fun t150 => (if (((x6 ++ t149) ++ (⟨#[58, 32]⟩ : ByteArray)) ++ x5).size + t150.size ≤ 9223372036854775807 then ((print_row.f (⟨#[32, 124]⟩ : ByteArray) x146002).bind fun t151 => (if ((((x6 ++ t149) ++ (⟨#[58, 32]⟩ : ByteArray)) ++ x5) ++ t150).size + t151.size ≤ 9223372036854775807 then ((print_row.f (⟨#[32, 124, 124]⟩ : ByteArray) x146003).bind fun t152 => (if (((((x6 ++ t149) ++ (⟨#[58, 32]⟩ : ByteArray)) ++ x5) ++ t150) ++ t151).size + t152.size ≤ 9223372036854775807 then (if ((((((x6 ++ t149) ++ (⟨#[58, 32]⟩ : ByteArray)) ++ x5) ++ t150) ++ t151) ++ t152).size + 1 ≤ 9223372036854775807 then (some (((((((x6 ++ t149) ++ (⟨#[58, 32]⟩ : ByteArray)) ++ x5) ++ t150) ++ t151) ++ t152) ++ (⟨#[10]⟩ : ByteArray))) else (none)) else (none))) else (none))) else (none))) else (none)) else (none)) else (none))
def print_edge.f (k : Nat) (a0 : Int) (l1_0 : List ByteArray) (l1_1 : List ByteArray) (l1_2 : List ByteArray) (l1_3 : List ByteArray) (a1_4 : ByteArray) (a1_5 : ByteArray) : Option (ByteArray) := (strconv_Itoa_26.f a0).bind fun t146 => (if 1 + t146.size ≤ 9223372036854775807 then (if 5 + ((⟨#[114]⟩ : ByteArray) ++ t146).size ≤ 9223372036854775807 then (if ((⟨#[114, 117, 108, 101, 32]⟩ : ByteArray) ++ ((⟨#[114]⟩ : ByteArray) ++ t146)).size + 13 ≤ 9223372036854775807 then ((scope_Escape.f a1_4).bind fun t147 => (if (((⟨#[114, 117, 108, 101, 32]⟩ : ByteArray) ++ ((⟨#[114]⟩ : ByteArray) ++ t146)) ++ (⟨#[10, 32, 32, 99, 111, 109, 109, 97, 110, 100, 32, 61, 32]⟩ : ByteArray)).size + t147.size ≤ 9223372036854775807 then (if ((((⟨#[114, 117, 108, 101, 32]⟩ : ByteArray) ++ ((⟨#[114]⟩ : ByteArray) ++ t146)) ++ (⟨#[10, 32, 32, 99, 111, 109, 109, 97, 110, 100, 32, 61, 32]⟩ : ByteArray)) ++ t147).size + 1 ≤ 9223372036854775807 then (if a1_5.toList = ([] : List UInt8) then (print_edge.j0 k ((⟨#[114]⟩ : ByteArray) ++ t146) (((((⟨#[114, 117, 108, 101, 32]⟩ : ByteArray) ++ ((⟨#[114]⟩ : ByteArray) ++ t146)) ++ (⟨#[10, 32, 32, 99, 111, 109, 109, 97, 110, 100, 32, 61, 32]⟩ : ByteArray)) ++ t147) ++ (⟨#[10]⟩ : ByteArray)) l1_0 l1_1 l1_2 l1_3 a1_4 a1_5) else ((scope_Escape.f a1_5).bind fun t148 => (if 12 + t148.size ≤ 9223372036854775807 then (if ((⟨#[32, 32, 100, 101, 112, 102, 105, 108, 101, 32, 61, 32]⟩ : ByteArray) ++ t148).size + 1 ≤ 9223372036854775807 then (if (((((⟨#[114, 117, 108, 101, 32]⟩ : ByteArray) ++ ((⟨#[114]⟩ : ByteArray) ++ t146)) ++ (⟨#[10, 32, 32, 99, 111, 109, 109, 97, 110, 100, 32, 61, 32]⟩ : ByteArray)) ++ t147) ++ (⟨#[10]⟩ : ByteArray)).size + (((⟨#[32, 32, 100, 101, 112, 102, 105, 108, 101, 32, 61, 32]⟩ : ByteArray) ++ t148) ++ (⟨#[10]⟩ : ByteArray)).size ≤ 9223372036854775807 then (print_edge.j0 k ((⟨#[114]⟩ : ByteArray) ++ t146) ((((((⟨#[114, 117, 108, 101, 32]⟩ : ByteArray) ++ ((⟨#[114]⟩ : ByteArray) ++ t146)) ++ (⟨#[10, 32, 32, 99, 111, 109, 109, 97, 110, 100, 32, 61, 32]⟩ : ByteArray)) ++ t147) ++ (⟨#[10]⟩ : ByteArray)) ++ (((⟨#[32, 32, 100, 101, 112, 102, 105, 108, 101, 32, 61, 32]⟩ : ByteArray) ++ t148) ++ (⟨#[10]⟩ : ByteArray))) l1_0 l1_1 l1_2 l1_3 a1_4 a1_5) else (none)) else (none)) else (none)))) else (none)) else (none))) else (none)) else (none)) else (none))
theorem print_edge.mono_l : ∀ k, (∀ y0 y1 y2 y3 y4 y5 y6 y7, LeO (print_edge.j0 k y0 y1 y2 y3 y4 y5 y6 y7) (print_edge.j0 (k + 1) y0 y1 y2 y3 y4 y5 y6 y7))
  | 0 => fun _ _ _ _ _ _ _ _ r h => by simp [print_edge.j0] at h
  | k + 1 => by
    have ih0 := print_edge.mono_l k
    · intro y0 y1 y2 y3 y4 y5 y6 y7
      unfold print_edge.j0
      repeat' first
      | (with_reducible exact ih0 _ _ _ _ _ _ _ _)
      | (with_reducible exact LeO.refl _)
      | (with_reducible exact LeO.none _)
      | (with_reducible refine LeO.ite ?_ ?_)
      | (with_reducible refine LeO.bind ?_ (fun _ => ?_))
      | exact ih0 _ _ _ _ _ _ _ _
      | exact LeO.none _
      | refine LeO.ite ?_ ?_
      | refine LeO.bind ?_ (fun _ => ?_)
theorem print_edge.mono : ∀ a0 a1 a2 a3 a4 a5 a6 k, LeO (print_edge.f k a0 a1 a2 a3 a4 a5 a6) (print_edge.f (k + 1) a0 a1 a2 a3 a4 a5 a6) := by
  intro a0 a1 a2 a3 a4 a5 a6 k
  have ih0 := print_edge.mono_l k
  unfold print_edge.f
  repeat' first
      | (with_reducible exact ih0 _ _ _ _ _ _ _ _)
      | (with_reducible exact LeO.refl _)
      | (with_reducible exact LeO.none _)
      | (with_reducible refine LeO.ite ?_ ?_)
      | (with_reducible refine LeO.bind ?_ (fun _ => ?_))
      | exact ih0 _ _ _ _ _ _ _ _
      | exact LeO.none _
      | refine LeO.ite ?_ ?_
      | refine LeO.bind ?_ (fun _ => ?_)
def print_edge.T5 : Bool × List (List Nat × List Nat) := (true, [([], []), ([], []), ([1], [1]), ([2], [2]), ([0, 3], [0, 3]), ([4], [4]), ([], []), ([5, 6], [5, 6]), ([], []), ([8], [8]), ([9, 3], [9]), ([7, 10], [7, 10]), ([], []), ([12], [12]), ([13, 10], [13]), ([11, 14], [11, 14]), ([], []), ([16], [16]), ([17, 14], [17]), ([15, 18], [15, 18]), ([19], [19]), ([20, 18, 0, 1, 2, 3, 4, 5, 6, 7, 8, 9, 10, 11, 12, 13, 14, 15, 16, 17, 18, 19, 20], [20])])
def print_edge.B5 : List Nat := [0, 0, 2, 6, 15, 31, 0, 127, 0, 256, 782, 2047, 0, 4096, 14094, 32767, 0, 65536, 227086, 524287, 1048575, 2097151]
theorem print_edge.tab5 : rtab .any (opsOf Tryz.f12 5) = print_edge.T5 := by kernel_rfl
theorem print_edge.bits5 : waitsOk print_edge.T5.2 print_edge.B5 = true := by kernel_rfl
set_option maxHeartbeats 8000000 in
set_option maxRecDepth 100000 in
theorem print_edge.calls (k : Nat) (a0 : Int) (A1_0 : Option Addr) (c1_0 : Nat) (l1_0 : List ByteArray) (A1_1 : Option Addr) (c1_1 : Nat) (l1_1 : List ByteArray) (A1_2 : Option Addr) (c1_2 : Nat) (l1_2 : List ByteArray) (A1_3 : Option Addr) (c1_3 : Nat) (l1_3 : List ByteArray) (a1_4 : ByteArray) (a1_5 : ByteArray) (r : ByteArray) (w : World) (hr1_0 : Kd.C Kd.string w A1_0 l1_0.length l1_0) (hc1_0 : l1_0.length ≤ c1_0) (hr1_1 : Kd.C Kd.string w A1_1 l1_1.length l1_1) (hc1_1 : l1_1.length ≤ c1_1) (hr1_2 : Kd.C Kd.string w A1_2 l1_2.length l1_2) (hc1_2 : l1_2.length ≤ c1_2) (hr1_3 : Kd.C Kd.string w A1_3 l1_3.length l1_3) (hc1_3 : l1_3.length ≤ c1_3) (h : print_edge.f k a0 l1_0 l1_1 l1_2 l1_3 a1_4 a1_5 = some r) :
    Calls Tryz.prog 12 #[.int .i64 a0, .agg #[.slice A1_0 l1_0.length c1_0, .slice A1_1 l1_1.length c1_1, .slice A1_2 l1_2.length c1_2, .slice A1_3 l1_3.length c1_3, .string a1_4, .string a1_5]] w fun e w' => e = .returned (.string r) ∧ Below w.heap.size w w' := by
  have hu43 := Tryz.underlying43
  have HR1_0 := Aside0.mk hr1_0
  have HC1_0 := Aside0.mk hc1_0
  clear hr1_0 hc1_0
  have HR1_1 := Aside0.mk hr1_1
  have HC1_1 := Aside0.mk hc1_1
  clear hr1_1 hc1_1
  have HR1_2 := Aside0.mk hr1_2
  have HC1_2 := Aside0.mk hc1_2
  clear hr1_2 hc1_2
  have HR1_3 := Aside0.mk hr1_3
  have HC1_3 := Aside0.mk hc1_3
  clear hr1_3 hc1_3
  have HB := Aside0.mk (Below.refl w.heap.size w)
  have H : ((strconv_Itoa_26.f a0).bind fun t146 => (if 1 + t146.size ≤ 9223372036854775807 then (if 5 + ((⟨#[114]⟩ : ByteArray) ++ t146).size ≤ 9223372036854775807 then (if ((⟨#[114, 117, 108, 101, 32]⟩ : ByteArray) ++ ((⟨#[114]⟩ : ByteArray) ++ t146)).size + 13 ≤ 9223372036854775807 then ((scope_Escape.f a1_4).bind fun t147 => (if (((⟨#[114, 117, 108, 101, 32]⟩ : ByteArray) ++ ((⟨#[114]⟩ : ByteArray) ++ t146)) ++ (⟨#[10, 32, 32, 99, 111, 109, 109, 97, 110, 100, 32, 61, 32]⟩ : ByteArray)).size + t147.size ≤ 9223372036854775807 then (if ((((⟨#[114, 117, 108, 101, 32]⟩ : ByteArray) ++ ((⟨#[114]⟩ : ByteArray) ++ t146)) ++ (⟨#[10, 32, 32, 99, 111, 109, 109, 97, 110, 100, 32, 61, 32]⟩ : ByteArray)) ++ t147).size + 1 ≤ 9223372036854775807 then (if a1_5.toList = ([] : List UInt8) then (print_edge.j0 k ((⟨#[114]⟩ : ByteArray) ++ t146) (((((⟨#[114, 117, 108, 101, 32]⟩ : ByteArray) ++ ((⟨#[114]⟩ : ByteArray) ++ t146)) ++ (⟨#[10, 32, 32, 99, 111, 109, 109, 97, 110, 100, 32, 61, 32]⟩ : ByteArray)) ++ t147) ++ (⟨#[10]⟩ : ByteArray)) l1_0 l1_1 l1_2 l1_3 a1_4 a1_5) else ((scope_Escape.f a1_5).bind fun t148 => (if 12 + t148.size ≤ 9223372036854775807 then (if ((⟨#[32, 32, 100, 101, 112, 102, 105, 108, 101, 32, 61, 32]⟩ : ByteArray) ++ t148).size + 1 ≤ 9223372036854775807 then (if (((((⟨#[114, 117, 108, 101, 32]⟩ : ByteArray) ++ ((⟨#[114]⟩ : ByteArray) ++ t146)) ++ (⟨#[10, 32, 32, 99, 111, 109, 109, 97, 110, 100, 32, 61, 32]⟩ : ByteArray)) ++ t147) ++ (⟨#[10]⟩ : ByteArray)).size + (((⟨#[32, 32, 100, 101, 112, 102, 105, 108, 101, 32, 61, 32]⟩ : ByteArray) ++ t148) ++ (⟨#[10]⟩ : ByteArray)).size ≤ 9223372036854775807 then (print_edge.j0 k ((⟨#[114]⟩ : ByteArray) ++ t146) ((((((⟨#[114, 117, 108, 101, 32]⟩ : ByteArray) ++ ((⟨#[114]⟩ : ByteArray) ++ t146)) ++ (⟨#[10, 32, 32, 99, 111, 109, 109, 97, 110, 100, 32, 61, 32]⟩ : ByteArray)) ++ t147) ++ (⟨#[10]⟩ : ByteArray)) ++ (((⟨#[32, 32, 100, 101, 112, 102, 105, 108, 101, 32, 61, 32]⟩ : ByteArray) ++ t148) ++ (⟨#[10]⟩ : ByteArray))) l1_0 l1_1 l1_2 l1_3 a1_4 a1_5) else (none)) else (none)) else (none)))) else (none)) else (none))) else (none)) else (none)) else (none))) = some r := h
  clear h
  replace H := Option.bind_eq_some_iff.mp H
  obtain ⟨t146, A30, H⟩ := H
  replace H : (if 1 + t146.size ≤ 9223372036854775807 then (if 5 + ((⟨#[114]⟩ : ByteArray) ++ t146).size ≤ 9223372036854775807 then (if ((⟨#[114, 117, 108, 101, 32]⟩ : ByteArray) ++ ((⟨#[114]⟩ : ByteArray) ++ t146)).size + 13 ≤ 9223372036854775807 then ((scope_Escape.f a1_4).bind fun t147 => (if (((⟨#[114, 117, 108, 101, 32]⟩ : ByteArray) ++ ((⟨#[114]⟩ : ByteArray) ++ t146)) ++ (⟨#[10, 32, 32, 99, 111, 109, 109, 97, 110, 100, 32, 61, 32]⟩ : ByteArray)).size + t147.size ≤ 9223372036854775807 then (if ((((⟨#[114, 117, 108, 101, 32]⟩ : ByteArray) ++ ((⟨#[114]⟩ : ByteArray) ++ t146)) ++ (⟨#[10, 32, 32, 99, 111, 109, 109, 97, 110, 100, 32, 61, 32]⟩ : ByteArray)) ++ t147).size + 1 ≤ 9223372036854775807 then (if a1_5.toList = ([] : List UInt8) then (print_edge.j0 k ((⟨#[114]⟩ : ByteArray) ++ t146) (((((⟨#[114, 117, 108, 101, 32]⟩ : ByteArray) ++ ((⟨#[114]⟩ : ByteArray) ++ t146)) ++ (⟨#[10, 32, 32, 99, 111, 109, 109, 97, 110, 100, 32, 61, 32]⟩ : ByteArray)) ++ t147) ++ (⟨#[10]⟩ : ByteArray)) l1_0 l1_1 l1_2 l1_3 a1_4 a1_5) else ((scope_Escape.f a1_5).bind fun t148 => (if 12 + t148.size ≤ 9223372036854775807 then (if ((⟨#[32, 32, 100, 101, 112, 102, 105, 108, 101, 32, 61, 32]⟩ : ByteArray) ++ t148).size + 1 ≤ 9223372036854775807 then (if (((((⟨#[114, 117, 108, 101, 32]⟩ : ByteArray) ++ ((⟨#[114]⟩ : ByteArray) ++ t146)) ++ (⟨#[10, 32, 32, 99, 111, 109, 109, 97, 110, 100, 32, 61, 32]⟩ : ByteArray)) ++ t147) ++ (⟨#[10]⟩ : ByteArray)).size + (((⟨#[32, 32, 100, 101, 112, 102, 105, 108, 101, 32, 61, 32]⟩ : ByteArray) ++ t148) ++ (⟨#[10]⟩ : ByteArray)).size ≤ 9223372036854775807 then (print_edge.j0 k ((⟨#[114]⟩ : ByteArray) ++ t146) ((((((⟨#[114, 117, 108, 101, 32]⟩ : ByteArray) ++ ((⟨#[114]⟩ : ByteArray) ++ t146)) ++ (⟨#[10, 32, 32, 99, 111, 109, 109, 97, 110, 100, 32, 61, 32]⟩ : ByteArray)) ++ t147) ++ (⟨#[10]⟩ : ByteArray)) ++ (((⟨#[32, 32, 100, 101, 112, 102, 105, 108, 101, 32, 61, 32]⟩ : ByteArray) ++ t148) ++ (⟨#[10]⟩ : ByteArray))) l1_0 l1_1 l1_2 l1_3 a1_4 a1_5) else (none)) else (none)) else (none)))) else (none)) else (none))) else (none)) else (none)) else (none)) = some r := H
  have A3 := Aside0.mk A30
  clear A30
  by_cases c4 : 1 + t146.size ≤ 9223372036854775807
  · rw [if_pos c4] at H
    have c4b0 := eq_true c4
    have c4b1 : decide (1 + t146.size ≤ 9223372036854775807) = true := decide_eq_true c4
    try have c4b2 : (9223372036854775807 < 1 + t146.size) = False := eq_false (Nat.not_lt.2 c4)
    have c4x : 1 + t146.size ≤ 9223372036854775807 := by have hh_ := c4; (try simp only [ByteArray.size_append] at hh_); exact hh_
    try have c4x0 : (9223372036854775807 < 1 + t146.size) = False := eq_false (by omega)
    by_cases c5 : 5 + ((⟨#[114]⟩ : ByteArray) ++ t146).size ≤ 9223372036854775807
    · rw [if_pos c5] at H
      have c5b0 := eq_true c5
      have c5b1 : decide (5 + ((⟨#[114]⟩ : ByteArray) ++ t146).size ≤ 9223372036854775807) = true := decide_eq_true c5
      try have c5b2 : (9223372036854775807 < 5 + ((⟨#[114]⟩ : ByteArray) ++ t146).size) = False := eq_false (Nat.not_lt.2 c5)
      have c5x : 5 + (1 + t146.size) ≤ 9223372036854775807 := by have hh_ := c5; (try simp only [ByteArray.size_append] at hh_); exact hh_
      try have c5x0 : (9223372036854775807 < 5 + (1 + t146.size)) = False := eq_false (by omega)
      by_cases c6 : ((⟨#[114, 117, 108, 101, 32]⟩ : ByteArray) ++ ((⟨#[114]⟩ : ByteArray) ++ t146)).size + 13 ≤ 9223372036854775807
      · rw [if_pos c6] at H
        have c6b0 := eq_true c6
        have c6b1 : decide (((⟨#[114, 117, 108, 101, 32]⟩ : ByteArray) ++ ((⟨#[114]⟩ : ByteArray) ++ t146)).size + 13 ≤ 9223372036854775807) = true := decide_eq_true c6
        try have c6b2 : (9223372036854775807 < ((⟨#[114, 117, 108, 101, 32]⟩ : ByteArray) ++ ((⟨#[114]⟩ : ByteArray) ++ t146)).size + 13) = False := eq_false (Nat.not_lt.2 c6)
        have c6x : 5 + (1 + t146.size) + 13 ≤ 9223372036854775807 := by have hh_ := c6; (try simp only [ByteArray.size_append] at hh_); exact hh_
        try have c6x0 : (9223372036854775807 < 5 + (1 + t146.size) + 13) = False := eq_false (by omega)
        try have c6x1 : (9223372036854775794 < 5 + (1 + t146.size)) = False := eq_false (by omega)
        try have c6b7 : (9223372036854775794 < ((⟨#[114, 117, 108, 101, 32]⟩ : ByteArray) ++ ((⟨#[114]⟩ : ByteArray) ++ t146)).size) = False := eq_false (by omega)
        replace H := Option.bind_eq_some_iff.mp H
        obtain ⟨t147, A70, H⟩ := H
        replace H : (if (((⟨#[114, 117, 108, 101, 32]⟩ : ByteArray) ++ ((⟨#[114]⟩ : ByteArray) ++ t146)) ++ (⟨#[10, 32, 32, 99, 111, 109, 109, 97, 110, 100, 32, 61, 32]⟩ : ByteArray)).size + t147.size ≤ 9223372036854775807 then (if ((((⟨#[114, 117, 108, 101, 32]⟩ : ByteArray) ++ ((⟨#[114]⟩ : ByteArray) ++ t146)) ++ (⟨#[10, 32, 32, 99, 111, 109, 109, 97, 110, 100, 32, 61, 32]⟩ : ByteArray)) ++ t147).size + 1 ≤ 9223372036854775807 then (if a1_5.toList = ([] : List UInt8) then (print_edge.j0 k ((⟨#[114]⟩ : ByteArray) ++ t146) (((((⟨#[114, 117, 108, 101, 32]⟩ : ByteArray) ++ ((⟨#[114]⟩ : ByteArray) ++ t146)) ++ (⟨#[10, 32, 32, 99, 111, 109, 109, 97, 110, 100, 32, 61, 32]⟩ : ByteArray)) ++ t147) ++ (⟨#[10]⟩ : ByteArray)) l1_0 l1_1 l1_2 l1_3 a1_4 a1_5) else ((scope_Escape.f a1_5).bind fun t148 => (if 12 + t148.size ≤ 9223372036854775807 then (if ((⟨#[32, 32, 100, 101, 112, 102, 105, 108, 101, 32, 61, 32]⟩ : ByteArray) ++ t148).size + 1 ≤ 9223372036854775807 then (if (((((⟨#[114, 117, 108, 101, 32]⟩ : ByteArray) ++ ((⟨#[114]⟩ : ByteArray) ++ t146)) ++ (⟨#[10, 32, 32, 99, 111, 109, 109, 97, 110, 100, 32, 61, 32]⟩ : ByteArray)) ++ t147) ++ (⟨#[10]⟩ : ByteArray)).size + (((⟨#[32, 32, 100, 101, 112, 102, 105, 108, 101, 32, 61, 32]⟩ : ByteArray) ++ t148) ++ (⟨#[10]⟩ : ByteArray)).size ≤ 9223372036854775807 then (print_edge.j0 k ((⟨#[114]⟩ : ByteArray) ++ t146) ((((((⟨#[114, 117, 108, 101, 32]⟩ : ByteArray) ++ ((⟨#[114]⟩ : ByteArray) ++ t146)) ++ (⟨#[10, 32, 32, 99, 111, 109, 109, 97, 110, 100, 32, 61, 32]⟩ : ByteArray)) ++ t147) ++ (⟨#[10]⟩ : ByteArray)) ++ (((⟨#[32, 32, 100, 101, 112, 102, 105, 108, 101, 32, 61, 32]⟩ : ByteArray) ++ t148) ++ (⟨#[10]⟩ : ByteArray))) l1_0 l1_1 l1_2 l1_3 a1_4 a1_5) else (none)) else (none)) else (none)))) else (none)) else (none)) = some r := H
        have A7 := Aside0.mk A70
        clear A70
        by_cases c8 : (((⟨#[114, 117, 108, 101, 32]⟩ : ByteArray) ++ ((⟨#[114]⟩ : ByteArray) ++ t146)) ++ (⟨#[10, 32, 32, 99, 111, 109, 109, 97, 110, 100, 32, 61, 32]⟩ : ByteArray)).size + t147.size ≤ 9223372036854775807
        · rw [if_pos c8] at H
          have c8b0 := eq_true c8
          have c8b1 : decide ((((⟨#[114, 117, 108, 101, 32]⟩ : ByteArray) ++ ((⟨#[114]⟩ : ByteArray) ++ t146)) ++ (⟨#[10, 32, 32, 99, 111, 109, 109, 97, 110, 100, 32, 61, 32]⟩ : ByteArray)).size + t147.size ≤ 9223372036854775807) = true := decide_eq_true c8
          try have c8b2 : (9223372036854775807 < (((⟨#[114, 117, 108, 101, 32]⟩ : ByteArray) ++ ((⟨#[114]⟩ : ByteArray) ++ t146)) ++ (⟨#[10, 32, 32, 99, 111, 109, 109, 97, 110, 100, 32, 61, 32]⟩ : ByteArray)).size + t147.size) = False := eq_false (Nat.not_lt.2 c8)
          have c8x : 5 + (1 + t146.size) + 13 + t147.size ≤ 9223372036854775807 := by have hh_ := c8; (try simp only [ByteArray.size_append] at hh_); exact hh_
          try have c8x0 : (9223372036854775807 < 5 + (1 + t146.size) + 13 + t147.size) = False := eq_false (by omega)
          by_cases c9 : ((((⟨#[114, 117, 108, 101, 32]⟩ : ByteArray) ++ ((⟨#[114]⟩ : ByteArray) ++ t146)) ++ (⟨#[10, 32, 32, 99, 111, 109, 109, 97, 110, 100, 32, 61, 32]⟩ : ByteArray)) ++ t147).size + 1 ≤ 9223372036854775807
          · rw [if_pos c9] at H
            have c9b0 := eq_true c9
            have c9b1 : decide (((((⟨#[114, 117, 108, 101, 32]⟩ : ByteArray) ++ ((⟨#[114]⟩ : ByteArray) ++ t146)) ++ (⟨#[10, 32, 32, 99, 111, 109, 109, 97, 110, 100, 32, 61, 32]⟩ : ByteArray)) ++ t147).size + 1 ≤ 9223372036854775807) = true := decide_eq_true c9
            try have c9b2 : (9223372036854775807 < ((((⟨#[114, 117, 108, 101, 32]⟩ : ByteArray) ++ ((⟨#[114]⟩ : ByteArray) ++ t146)) ++ (⟨#[10, 32, 32, 99, 111, 109, 109, 97, 110, 100, 32, 61, 32]⟩ : ByteArray)) ++ t147).size + 1) = False := eq_false (Nat.not_lt.2 c9)
            have c9x : 5 + (1 + t146.size) + 13 + t147.size + 1 ≤ 9223372036854775807 := by have hh_ := c9; (try simp only [ByteArray.size_append] at hh_); exact hh_
            try have c9x0 : (9223372036854775807 < 5 + (1 + t146.size) + 13 + t147.size + 1) = False := eq_false (by omega)
            try have c9x1 : (9223372036854775806 < 5 + (1 + t146.size) + 13 + t147.size) = False := eq_false (by omega)
            try have c9b7 : (9223372036854775806 < ((((⟨#[114, 117, 108, 101, 32]⟩ : ByteArray) ++ ((⟨#[114]⟩ : ByteArray) ++ t146)) ++ (⟨#[10, 32, 32, 99, 111, 109, 109, 97, 110, 100, 32, 61, 32]⟩ : ByteArray)) ++ t147).size) = False := eq_false (by omega)
            have HC10 := Aside0.mk H
            clear H
            go_enter Tryz.func12, Tryz.ntmps12
            go_upto_if 20 with (first | ((with_reducible refine gate_dst (N := 3) rfl ?_); refine box_event ?hg (N := 3) ?hd (cs := #[.slice A1_0 l1_0.length c1_0, .slice A1_1 l1_1.length c1_1, .slice A1_2 l1_2.length c1_2, .slice A1_3 l1_3.length c1_3, .string a1_4, .string a1_5]) (t := 43) ?hr ?_; (case hd => rfl); (case hg => rfl); (case hr => first | (go_simp; done) | (go_simp; rfl)); intro gb145 hg w11 hbox hb; have n0_ := Aside0.mk (below_step (by repeat (first | (with_reducible first | exact HB.out | apply below_alloc | apply pw_below_drewN | apply below_drew1) | exact HB.out)) hb); have n1_ := Aside0.mk (hbox); have n2_ := Aside0.mk ((by rw [hg]; exact (below_size (by repeat (first | (with_reducible first | exact HB.out | apply below_alloc | apply pw_below_drewN | apply below_drew1) | exact HB.out))) : w.heap.size ≤ gb145)); have n3_ := Aside0.mk ((by rw [hg]; exact (below_size (by repeat (first | (with_reducible first | exact HB.out | apply below_alloc | apply pw_below_drewN | apply below_drew1) | exact HB.out))) : w.heap.size ≤ gb145)); clear HB; have HB := n0_; have BK145 := n1_; have GW145 := n2_; have GE145 := n3_; clear n0_ n1_ n2_ n3_; clear hb hbox hg) | ((with_reducible refine gate_callee (f := 26) rfl ?_); refine goesL_ (some 8) rfl rfl Tryz.func26 (by kernel_rfl) rfl #[.int .i64 a0] rfl (by (try simp only [List.map_toArray, List.map_cons, List.map_nil]); first | done | rfl | (simp only [List.length_drop, List.length_take]; rfl)) ?_; (with_reducible refine (strconv_Itoa_26.calls a0 t146 _ A3.out).mono ?_); rintro e w12 ⟨rfl, hb⟩; refine ⟨_, rfl, ?_⟩; have n0_ := Aside0.mk (blk_below (g := gb145) (o := .cells #[.slice A1_0 l1_0.length c1_0, .slice A1_1 l1_1.length c1_1, .slice A1_2 l1_2.length c1_2, .slice A1_3 l1_3.length c1_3, .string a1_4, .string a1_5] 43 (0, 0)) (by (with_reducible repeat (first | refine blk_drewN ?_ _ | refine blk_drew ?_ | refine blk_alloc ?_ _)); exact BK145.out) hb); have n1_ := Aside0.mk (below_step (by repeat (first | (with_reducible first | exact HB.out | apply below_alloc | apply pw_below_drewN | apply below_drew1 | refine below_set ?_ GE145.out) | exact HB.out)) hb); clear BK145; clear HB; have BK145 := n0_; have HB := n1_; clear n0_ n1_; (try clear hb); (try clear hb2); (try clear hk); (try clear hi); have hcz13_0 : w12.cell? ⟨gb145, 0, none⟩ = some (.slice A1_0 l1_0.length c1_0) := (blk_cell BK145.out 0).trans rfl; have hcz13_1 : w12.cell? ⟨gb145, 1, none⟩ = some (.slice A1_1 l1_1.length c1_1) := (blk_cell BK145.out 1).trans rfl; have hcz13_2 : w12.cell? ⟨gb145, 2, none⟩ = some (.slice A1_2 l1_2.length c1_2) := (blk_cell BK145.out 2).trans rfl; have hcz13_3 : w12.cell? ⟨gb145, 3, none⟩ = some (.slice A1_3 l1_3.length c1_3) := (blk_cell BK145.out 3).trans rfl; have hcz13_4 : w12.cell? ⟨gb145, 4, none⟩ = some (.string a1_4) := (blk_cell BK145.out 4).trans rfl; have hcz13_5 : w12.cell? ⟨gb145, 5, none⟩ = some (.string a1_5) := (blk_cell BK145.out 5).trans rfl; have hfz13_0 := blk_frozen BK145.out 0; have hfz13_1 := blk_frozen BK145.out 1; have hfz13_2 := blk_frozen BK145.out 2; have hfz13_3 := blk_frozen BK145.out 3; have hfz13_4 := blk_frozen BK145.out 4; have hfz13_5 := blk_frozen BK145.out 5) | ((with_reducible refine gate_callee (f := 27) rfl ?_); refine goesL_ (some 15) rfl rfl Tryz.func27 (by kernel_rfl) rfl #[.string a1_4] rfl (by (try simp only [List.map_toArray, List.map_cons, List.map_nil]); first | done | rfl | (simp only [List.length_drop, List.length_take]; rfl)) ?_; (with_reducible refine (scope_Escape.calls a1_4 t147 _ A7.out).mono ?_); rintro e w14 ⟨rfl, hb⟩; refine ⟨_, rfl, ?_⟩; have n0_ := Aside0.mk (blk_below (g := gb145) (o := .cells #[.slice A1_0 l1_0.length c1_0, .slice A1_1 l1_1.length c1_1, .slice A1_2 l1_2.length c1_2, .slice A1_3 l1_3.length c1_3, .string a1_4, .string a1_5] 43 (0, 0)) (by (with_reducible repeat (first | refine blk_drewN ?_ _ | refine blk_drew ?_ | refine blk_alloc ?_ _)); exact BK145.out) hb); have n1_ := Aside0.mk (below_step (by repeat (first | (with_reducible first | exact HB.out | apply below_alloc | apply pw_below_drewN | apply below_drew1 | refine below_set ?_ GE145.out) | exact HB.out)) hb); clear BK145; clear HB; have BK145 := n0_; have HB := n1_; clear n0_ n1_; (try clear hb); (try clear hb2); (try clear hk); (try clear hi); have hcz15_0 : w14.cell? ⟨gb145, 0, none⟩ = some (.slice A1_0 l1_0.length c1_0) := (blk_cell BK145.out 0).trans rfl; have hcz15_1 : w14.cell? ⟨gb145, 1, none⟩ = some (.slice A1_1 l1_1.length c1_1) := (blk_cell BK145.out 1).trans rfl; have hcz15_2 : w14.cell? ⟨gb145, 2, none⟩ = some (.slice A1_2 l1_2.length c1_2) := (blk_cell BK145.out 2).trans rfl; have hcz15_3 : w14.cell? ⟨gb145, 3, none⟩ = some (.slice A1_3 l1_3.length c1_3) := (blk_cell BK145.out 3).trans rfl; have hcz15_4 : w14.cell? ⟨gb145, 4, none⟩ = some (.string a1_4) := (blk_cell BK145.out 4).trans rfl; have hcz15_5 : w14.cell? ⟨gb145, 5, none⟩ = some (.string a1_5) := (blk_cell BK145.out 5).trans rfl; have hfz15_0 := blk_frozen BK145.out 0; have hfz15_1 := blk_frozen BK145.out 1; have hfz15_2 := blk_frozen BK145.out 2; have hfz15_3 := blk_frozen BK145.out 3; have hfz15_4 := blk_frozen BK145.out 4; have hfz15_5 := blk_frozen BK145.out 5))
            (try simp only [Act.put, List.setIfInBounds_toArray, List.set_cons_zero, List.set_cons_succ])
            go_cut [6] (fun v6 wc => ∃ (kq : Nat) (x6_9 : ByteArray), v6 = .string x6_9 ∧ Aside0 (print_edge.j0 kq ((⟨#[114]⟩ : ByteArray) ++ t146) x6_9 l1_0 l1_1 l1_2 l1_3 a1_4 a1_5 = some r) ∧ Aside0 (kq ≤ k) ∧ Aside0 (wc.heap[gb145]? = some (.cells #[(.slice A1_0 l1_0.length c1_0), (.slice A1_1 l1_1.length c1_1), (.slice A1_2 l1_2.length c1_2), (.slice A1_3 l1_3.length c1_3), .string a1_4, .string a1_5] 43 (0, 0))) ∧ Aside0 (Below w.heap.size w wc))
            case first =>
              have H := HC10.out
              clear HC10
              by_cases c16 : a1_5.toList = ([] : List UInt8)
              · rw [if_pos c16] at H
                have c16b0 : (a1_5.toList == ([] : List UInt8)) = true := beq_iff_eq.mpr c16
                try have c16b7 : a1_5.toList.isEmpty = true := List.isEmpty_iff.2 (beq_iff_eq.1 c16b0)
                try have c16b8 : (!a1_5.toList.isEmpty) = false := by rw [c16b7]; rfl
                have c16b1 : (a1_5.toList != ([] : List UInt8)) = false := bne_eq_false_iff_eq.mpr c16
                clear c16
                (first | rw [c16b8] | rw [c16b0] | (simp only [i64_w, i32_w]; rw [c16b0]) | skip)
                have H' := Aside0.mk H
                clear H
                go_wp2
                go_meet
                case rel => exact ⟨_, (((((⟨#[114, 117, 108, 101, 32]⟩ : ByteArray) ++ ((⟨#[114]⟩ : ByteArray) ++ t146)) ++ (⟨#[10, 32, 32, 99, 111, 109, 109, 97, 110, 100, 32, 61, 32]⟩ : ByteArray)) ++ t147) ++ (⟨#[10]⟩ : ByteArray)), (by first | rfl | (simp; done) | (simp [*]; done)), H', ⟨by first | omega | exact Nat.le_refl _⟩, ⟨by (with_reducible repeat (first | refine blk_drewN ?_ _ | refine blk_drew ?_ | refine blk_alloc ?_ _)); exact BK145.out⟩, ⟨by repeat (first | (with_reducible first | exact HB.out | apply below_alloc | apply pw_below_drewN | apply below_drew1 | refine below_set ?_ GE145.out) | exact HB.out)⟩⟩
              · rw [if_neg c16] at H
                have c16b0 : (a1_5.toList == ([] : List UInt8)) = false := beq_eq_false_iff_ne.mpr c16
                try have c16b7 : a1_5.toList.isEmpty = false := by have hh_ := beq_eq_false_iff_ne.1 c16b0; cases hq_ : a1_5.toList with | nil => exact absurd hq_ hh_ | cons _ _ => rfl
                try have c16b8 : (!a1_5.toList.isEmpty) = true := by rw [c16b7]; rfl
                have c16b1 : (a1_5.toList != ([] : List UInt8)) = true := bne_iff_ne.mpr c16
                (first | rw [c16b8] | rw [c16b0] | (simp only [i64_w, i32_w]; rw [c16b0]) | skip)
                replace H := Option.bind_eq_some_iff.mp H
                obtain ⟨t148, A170, H⟩ := H
                replace H : (if 12 + t148.size ≤ 9223372036854775807 then (if ((⟨#[32, 32, 100, 101, 112, 102, 105, 108, 101, 32, 61, 32]⟩ : ByteArray) ++ t148).size + 1 ≤ 9223372036854775807 then (if (((((⟨#[114, 117, 108, 101, 32]⟩ : ByteArray) ++ ((⟨#[114]⟩ : ByteArray) ++ t146)) ++ (⟨#[10, 32, 32, 99, 111, 109, 109, 97, 110, 100, 32, 61, 32]⟩ : ByteArray)) ++ t147) ++ (⟨#[10]⟩ : ByteArray)).size + (((⟨#[32, 32, 100, 101, 112, 102, 105, 108, 101, 32, 61, 32]⟩ : ByteArray) ++ t148) ++ (⟨#[10]⟩ : ByteArray)).size ≤ 9223372036854775807 then (print_edge.j0 k ((⟨#[114]⟩ : ByteArray) ++ t146) ((((((⟨#[114, 117, 108, 101, 32]⟩ : ByteArray) ++ ((⟨#[114]⟩ : ByteArray) ++ t146)) ++ (⟨#[10, 32, 32, 99, 111, 109, 109, 97, 110, 100, 32, 61, 32]⟩ : ByteArray)) ++ t147) ++ (⟨#[10]⟩ : ByteArray)) ++ (((⟨#[32, 32, 100, 101, 112, 102, 105, 108, 101, 32, 61, 32]⟩ : ByteArray) ++ t148) ++ (⟨#[10]⟩ : ByteArray))) l1_0 l1_1 l1_2 l1_3 a1_4 a1_5) else (none)) else (none)) else (none)) = some r := H
                have A17 := Aside0.mk A170
                clear A170
                by_cases c18 : 12 + t148.size ≤ 9223372036854775807
                · rw [if_pos c18] at H
                  have c18b0 := eq_true c18
                  have c18b1 : decide (12 + t148.size ≤ 9223372036854775807) = true := decide_eq_true c18
                  try have c18b2 : (9223372036854775807 < 12 + t148.size) = False := eq_false (Nat.not_lt.2 c18)
                  have c18x : 12 + t148.size ≤ 9223372036854775807 := by have hh_ := c18; (try simp only [ByteArray.size_append] at hh_); exact hh_
                  try have c18x0 : (9223372036854775807 < 12 + t148.size) = False := eq_false (by omega)
                  by_cases c19 : ((⟨#[32, 32, 100, 101, 112, 102, 105, 108, 101, 32, 61, 32]⟩ : ByteArray) ++ t148).size + 1 ≤ 9223372036854775807
                  · rw [if_pos c19] at H
                    have c19b0 := eq_true c19
                    have c19b1 : decide (((⟨#[32, 32, 100, 101, 112, 102, 105, 108, 101, 32, 61, 32]⟩ : ByteArray) ++ t148).size + 1 ≤ 9223372036854775807) = true := decide_eq_true c19
                    try have c19b2 : (9223372036854775807 < ((⟨#[32, 32, 100, 101, 112, 102, 105, 108, 101, 32, 61, 32]⟩ : ByteArray) ++ t148).size + 1) = False := eq_false (Nat.not_lt.2 c19)
                    have c19x : 12 + t148.size + 1 ≤ 9223372036854775807 := by have hh_ := c19; (try simp only [ByteArray.size_append] at hh_); exact hh_
                    try have c19x0 : (9223372036854775807 < 12 + t148.size + 1) = False := eq_false (by omega)
                    try have c19x1 : (9223372036854775806 < 12 + t148.size) = False := eq_false (by omega)
                    try have c19b7 : (9223372036854775806 < ((⟨#[32, 32, 100, 101, 112, 102, 105, 108, 101, 32, 61, 32]⟩ : ByteArray) ++ t148).size) = False := eq_false (by omega)
                    have c19e : 12 + t148.size + 1 ≤ 9223372036854775807 := by have hh_ := c19; rw [ByteArray.size_append] at hh_; exact hh_
                    try have c19e0 : (9223372036854775806 < 12 + t148.size) = False := eq_false (by omega)
                    try have c19e1 : (9223372036854775794 < t148.size) = False := eq_false (by omega)
                    try have c19e2 : (9223372036854775807 < 12 + t148.size + 1) = False := eq_false (by omega)
                    try have c19e3 : (9223372036854775806 < t148.size + 12) = False := eq_false (by omega)
                    try have c19e4 : (9223372036854775807 < t148.size + 12 + 1) = False := eq_false (by omega)
                    by_cases c20 : (((((⟨#[114, 117, 108, 101, 32]⟩ : ByteArray) ++ ((⟨#[114]⟩ : ByteArray) ++ t146)) ++ (⟨#[10, 32, 32, 99, 111, 109, 109, 97, 110, 100, 32, 61, 32]⟩ : ByteArray)) ++ t147) ++ (⟨#[10]⟩ : ByteArray)).size + (((⟨#[32, 32, 100, 101, 112, 102, 105, 108, 101, 32, 61, 32]⟩ : ByteArray) ++ t148) ++ (⟨#[10]⟩ : ByteArray)).size ≤ 9223372036854775807
                    · rw [if_pos c20] at H
                      have c20b0 := eq_true c20
                      have c20b1 : decide ((((((⟨#[114, 117, 108, 101, 32]⟩ : ByteArray) ++ ((⟨#[114]⟩ : ByteArray) ++ t146)) ++ (⟨#[10, 32, 32, 99, 111, 109, 109, 97, 110, 100, 32, 61, 32]⟩ : ByteArray)) ++ t147) ++ (⟨#[10]⟩ : ByteArray)).size + (((⟨#[32, 32, 100, 101, 112, 102, 105, 108, 101, 32, 61, 32]⟩ : ByteArray) ++ t148) ++ (⟨#[10]⟩ : ByteArray)).size ≤ 9223372036854775807) = true := decide_eq_true c20
                      try have c20b2 : (9223372036854775807 < (((((⟨#[114, 117, 108, 101, 32]⟩ : ByteArray) ++ ((⟨#[114]⟩ : ByteArray) ++ t146)) ++ (⟨#[10, 32, 32, 99, 111, 109, 109, 97, 110, 100, 32, 61, 32]⟩ : ByteArray)) ++ t147) ++ (⟨#[10]⟩ : ByteArray)).size + (((⟨#[32, 32, 100, 101, 112, 102, 105, 108, 101, 32, 61, 32]⟩ : ByteArray) ++ t148) ++ (⟨#[10]⟩ : ByteArray)).size) = False := eq_false (Nat.not_lt.2 c20)
                      have c20x : 5 + (1 + t146.size) + 13 + t147.size + 1 + (12 + t148.size + 1) ≤ 9223372036854775807 := by have hh_ := c20; (try simp only [ByteArray.size_append] at hh_); exact hh_
                      try have c20x0 : (9223372036854775807 < 5 + (1 + t146.size) + 13 + t147.size + 1 + (12 + t148.size + 1)) = False := eq_false (by omega)
                      try have c20x1 : (9223372036854775806 < 5 + (1 + t146.size) + 13 + t147.size + 1 + (12 + t148.size)) = False := eq_false (by omega)
                      have H' := Aside0.mk H
                      clear H
                      have hcz21_0 : w14.cell? ⟨gb145, 0, none⟩ = some (.slice A1_0 l1_0.length c1_0) := (blk_cell BK145.out 0).trans rfl
                      have hcz21_1 : w14.cell? ⟨gb145, 1, none⟩ = some (.slice A1_1 l1_1.length c1_1) := (blk_cell BK145.out 1).trans rfl
                      have hcz21_2 : w14.cell? ⟨gb145, 2, none⟩ = some (.slice A1_2 l1_2.length c1_2) := (blk_cell BK145.out 2).trans rfl
                      have hcz21_3 : w14.cell? ⟨gb145, 3, none⟩ = some (.slice A1_3 l1_3.length c1_3) := (blk_cell BK145.out 3).trans rfl
                      have hcz21_4 : w14.cell? ⟨gb145, 4, none⟩ = some (.string a1_4) := (blk_cell BK145.out 4).trans rfl
                      have hcz21_5 : w14.cell? ⟨gb145, 5, none⟩ = some (.string a1_5) := (blk_cell BK145.out 5).trans rfl
                      have hfz21_0 := blk_frozen BK145.out 0
                      have hfz21_1 := blk_frozen BK145.out 1
                      have hfz21_2 := blk_frozen BK145.out 2
                      have hfz21_3 := blk_frozen BK145.out 3
                      have hfz21_4 := blk_frozen BK145.out 4
                      have hfz21_5 := blk_frozen BK145.out 5
                      go_wp2_with (first | ((with_reducible refine gate_callee (f := 27) rfl ?_); refine goesL_ (some 24) rfl rfl Tryz.func27 (by kernel_rfl) rfl #[.string a1_5] rfl (by (try simp only [List.map_toArray, List.map_cons, List.map_nil]); first | done | rfl | (simp only [List.length_drop, List.length_take]; rfl)) ?_; (with_reducible refine (scope_Escape.calls a1_5 t148 _ A17.out).mono ?_); rintro e w22 ⟨rfl, hb⟩; refine ⟨_, rfl, ?_⟩; have n0_ := Aside0.mk (blk_below (g := gb145) (o := .cells #[.slice A1_0 l1_0.length c1_0, .slice A1_1 l1_1.length c1_1, .slice A1_2 l1_2.length c1_2, .slice A1_3 l1_3.length c1_3, .string a1_4, .string a1_5] 43 (0, 0)) (by (with_reducible repeat (first | refine blk_drewN ?_ _ | refine blk_drew ?_ | refine blk_alloc ?_ _)); exact BK145.out) hb); have n1_ := Aside0.mk (below_step (by repeat (first | (with_reducible first | exact HB.out | apply below_alloc | apply pw_below_drewN | apply below_drew1 | refine below_set ?_ GE145.out) | exact HB.out)) hb); clear BK145; clear HB; have BK145 := n0_; have HB := n1_; clear n0_ n1_; (try clear hb); (try clear hb2); (try clear hk); (try clear hi)))
                      go_meet
                      case rel => exact ⟨_, ((((((⟨#[114, 117, 108, 101, 32]⟩ : ByteArray) ++ ((⟨#[114]⟩ : ByteArray) ++ t146)) ++ (⟨#[10, 32, 32, 99, 111, 109, 109, 97, 110, 100, 32, 61, 32]⟩ : ByteArray)) ++ t147) ++ (⟨#[10]⟩ : ByteArray)) ++ (((⟨#[32, 32, 100, 101, 112, 102, 105, 108, 101, 32, 61, 32]⟩ : ByteArray) ++ t148) ++ (⟨#[10]⟩ : ByteArray))), (by first | rfl | (simp; done) | (simp [*]; done)), H', ⟨by first | omega | exact Nat.le_refl _⟩, ⟨by (with_reducible repeat (first | refine blk_drewN ?_ _ | refine blk_drew ?_ | refine blk_alloc ?_ _)); exact BK145.out⟩, ⟨by repeat (first | (with_reducible first | exact HB.out | apply below_alloc | apply pw_below_drewN | apply below_drew1 | refine below_set ?_ GE145.out) | exact HB.out)⟩⟩
                    · rw [if_neg c20] at H
                      exact absurd H (by simp)
                  · rw [if_neg c19] at H
                    exact absurd H (by simp)
                · rw [if_neg c18] at H
                  exact absurd H (by simp)
            case rest =>
              clear HC10
              try clear c1
              try clear c2
              try clear p2
              try clear c4
              try clear c4b0
              try clear c4b1
              try clear c4b2
              try clear c5
              try clear c5b0
              try clear c5b1
              try clear c5b2
              try clear c6
              try clear c6b0
              try clear c6b1
              try clear c6b2
              try clear c8
              try clear c8b0
              try clear c8b1
              try clear c8b2
              try clear c9
              try clear c9b0
              try clear c9b1
              try clear c9b2
              try clear c12
              try clear c16
              try clear c16b0
              try clear c16b1
              try clear c18
              try clear c18b0
              try clear c18b1
              try clear c18b2
              try clear c19
              try clear c19b0
              try clear c19b1
              try clear c19b2
              try clear c20
              try clear c20b0
              try clear c20b1
              try clear c20b2
              try clear hcz13_0
              try clear hcz13_1
              try clear hcz13_2
              try clear hcz13_3
              try clear hcz13_4
              try clear hcz13_5
              try clear hcz15_0
              try clear hcz15_1
              try clear hcz15_2
              try clear hcz15_3
              try clear hcz15_4
              try clear hcz15_5
              try clear hcz21_0
              try clear hcz21_1
              try clear hcz21_2
              try clear hcz21_3
              try clear hcz21_4
              try clear hcz21_5
              try clear hfz13_0
              try clear hfz13_1
              try clear hfz13_2
              try clear hfz13_3
              try clear hfz13_4
              try clear hfz13_5
              try clear hfz15_0
              try clear hfz15_1
              try clear hfz15_2
              try clear hfz15_3
              try clear hfz15_4
              try clear hfz15_5
              try clear hfz21_0
              try clear hfz21_1
              try clear hfz21_2
              try clear hfz21_3
              try clear hfz21_4
              try clear hfz21_5
              obtain ⟨kq, x6_9, rfl, HA, HJ9, BK145, HB⟩ := hcut
              cases kq with
              | zero => exact absurd HA.out (by simp [print_edge.j0])
              | succ kj9 =>
                have H := HA.out
                clear HA
                simp only [print_edge.j0] at H
                replace H := Option.bind_eq_some_iff.mp H
                obtain ⟨t149, A230, H⟩ := H
                replace H : (if x6_9.size + t149.size ≤ 9223372036854775807 then (if (x6_9 ++ t149).size + 2 ≤ 9223372036854775807 then (if ((x6_9 ++ t149) ++ (⟨#[58, 32]⟩ : ByteArray)).size + ((⟨#[114]⟩ : ByteArray) ++ t146).size ≤ 9223372036854775807 then ((print_row.f (⟨#[]⟩ : ByteArray) l1_1).bind fun t150 => (if (((x6_9 ++ t149) ++ (⟨#[58, 32]⟩ : ByteArray)) ++ ((⟨#[114]⟩ : ByteArray) ++ t146)).size + t150.size ≤ 9223372036854775807 then ((print_row.f (⟨#[32, 124]⟩ : ByteArray) l1_2).bind fun t151 => (if ((((x6_9 ++ t149) ++ (⟨#[58, 32]⟩ : ByteArray)) ++ ((⟨#[114]⟩ : ByteArray) ++ t146)) ++ t150).size + t151.size ≤ 9223372036854775807 then ((print_row.f (⟨#[32, 124, 124]⟩ : ByteArray) l1_3).bind fun t152 => (if (((((x6_9 ++ t149) ++ (⟨#[58, 32]⟩ : ByteArray)) ++ ((⟨#[114]⟩ : ByteArray) ++ t146)) ++ t150) ++ t151).size + t152.size ≤ 9223372036854775807 then (if ((((((x6_9 ++ t149) ++ (⟨#[58, 32]⟩ : ByteArray)) ++ ((⟨#[114]⟩ : ByteArray) ++ t146)) ++ t150) ++ t151) ++ t152).size + 1 ≤ 9223372036854775807 then (some (((((((x6_9 ++ t149) ++ (⟨#[58, 32]⟩ : ByteArray)) ++ ((⟨#[114]⟩ : ByteArray) ++ t146)) ++ t150) ++ t151) ++ t152) ++ (⟨#[10]⟩ : ByteArray))) else (none)) else (none))) else (none))) else (none))) else (none)) else (none)) else (none)) = some r := H
                have A23 := Aside0.mk A230
                clear A230
                by_cases c24 : x6_9.size + t149.size ≤ 9223372036854775807
                · rw [if_pos c24] at H
                  have c24b0 := eq_true c24
                  have c24b1 : decide (x6_9.size + t149.size ≤ 9223372036854775807) = true := decide_eq_true c24
                  try have c24b2 : (9223372036854775807 < x6_9.size + t149.size) = False := eq_false (Nat.not_lt.2 c24)
                  have c24x : x6_9.size + t149.size ≤ 9223372036854775807 := by have hh_ := c24; (try simp only [ByteArray.size_append] at hh_); exact hh_
                  try have c24x0 : (9223372036854775807 < x6_9.size + t149.size) = False := eq_false (by omega)
                  have c24w : wrap64 ((x6_9.size : Int) + (t149.size : Int)) = (x6_9.size : Int) + (t149.size : Int) := wrap_two_YtapdchapjpnceaaGreatDoorPPrintEdge0 _ _ c24
                  clear c24w
                  by_cases c25 : (x6_9 ++ t149).size + 2 ≤ 9223372036854775807
                  · rw [if_pos c25] at H
                    have c25b0 := eq_true c25
                    have c25b1 : decide ((x6_9 ++ t149).size + 2 ≤ 9223372036854775807) = true := decide_eq_true c25
                    try have c25b2 : (9223372036854775807 < (x6_9 ++ t149).size + 2) = False := eq_false (Nat.not_lt.2 c25)
                    have c25x : x6_9.size + t149.size + 2 ≤ 9223372036854775807 := by have hh_ := c25; (try simp only [ByteArray.size_append] at hh_); exact hh_
                    try have c25x0 : (9223372036854775807 < x6_9.size + t149.size + 2) = False := eq_false (by omega)
                    try have c25x1 : (9223372036854775805 < x6_9.size + t149.size) = False := eq_false (by omega)
                    try have c25b7 : (9223372036854775805 < (x6_9 ++ t149).size) = False := eq_false (by omega)
                    try have c25b8 : (9223372036854775807 < x6_9.size + t149.size + 2) = False := by simpa only [ByteArray.size_append] using c25b2
                    try have c25b9 : (9223372036854775805 < x6_9.size + t149.size) = False := eq_false (by have hh_ := c25; rw [ByteArray.size_append] at hh_; omega)
                    by_cases c26 : ((x6_9 ++ t149) ++ (⟨#[58, 32]⟩ : ByteArray)).size + ((⟨#[114]⟩ : ByteArray) ++ t146).size ≤ 9223372036854775807
                    · rw [if_pos c26] at H
                      have c26b0 := eq_true c26
                      have c26b1 : decide (((x6_9 ++ t149) ++ (⟨#[58, 32]⟩ : ByteArray)).size + ((⟨#[114]⟩ : ByteArray) ++ t146).size ≤ 9223372036854775807) = true := decide_eq_true c26
                      try have c26b2 : (9223372036854775807 < ((x6_9 ++ t149) ++ (⟨#[58, 32]⟩ : ByteArray)).size + ((⟨#[114]⟩ : ByteArray) ++ t146).size) = False := eq_false (Nat.not_lt.2 c26)
                      have c26x : x6_9.size + t149.size + 2 + (1 + t146.size) ≤ 9223372036854775807 := by have hh_ := c26; (try simp only [ByteArray.size_append] at hh_); exact hh_
                      try have c26x0 : (9223372036854775807 < x6_9.size + t149.size + 2 + (1 + t146.size)) = False := eq_false (by omega)
                      replace H := Option.bind_eq_some_iff.mp H
                      obtain ⟨t150, A270, H⟩ := H
                      replace H : (if (((x6_9 ++ t149) ++ (⟨#[58, 32]⟩ : ByteArray)) ++ ((⟨#[114]⟩ : ByteArray) ++ t146)).size + t150.size ≤ 9223372036854775807 then ((print_row.f (⟨#[32, 124]⟩ : ByteArray) l1_2).bind fun t151 => (if ((((x6_9 ++ t149) ++ (⟨#[58, 32]⟩ : ByteArray)) ++ ((⟨#[114]⟩ : ByteArray) ++ t146)) ++ t150).size + t151.size ≤ 9223372036854775807 then ((print_row.f (⟨#[32, 124, 124]⟩ : ByteArray) l1_3).bind fun t152 => (if (((((x6_9 ++ t149) ++ (⟨#[58, 32]⟩ : ByteArray)) ++ ((⟨#[114]⟩ : ByteArray) ++ t146)) ++ t150) ++ t151).size + t152.size ≤ 9223372036854775807 then (if ((((((x6_9 ++ t149) ++ (⟨#[58, 32]⟩ : ByteArray)) ++ ((⟨#[114]⟩ : ByteArray) ++ t146)) ++ t150) ++ t151) ++ t152).size + 1 ≤ 9223372036854775807 then (some (((((((x6_9 ++ t149) ++ (⟨#[58, 32]⟩ : ByteArray)) ++ ((⟨#[114]⟩ : ByteArray) ++ t146)) ++ t150) ++ t151) ++ t152) ++ (⟨#[10]⟩ : ByteArray))) else (none)) else (none))) else (none))) else (none)) = some r := H
                      have A27 := Aside0.mk A270
                      clear A270
                      by_cases c28 : (((x6_9 ++ t149) ++ (⟨#[58, 32]⟩ : ByteArray)) ++ ((⟨#[114]⟩ : ByteArray) ++ t146)).size + t150.size ≤ 9223372036854775807
                      · rw [if_pos c28] at H
                        have c28b0 := eq_true c28
                        have c28b1 : decide ((((x6_9 ++ t149) ++ (⟨#[58, 32]⟩ : ByteArray)) ++ ((⟨#[114]⟩ : ByteArray) ++ t146)).size + t150.size ≤ 9223372036854775807) = true := decide_eq_true c28
                        try have c28b2 : (9223372036854775807 < (((x6_9 ++ t149) ++ (⟨#[58, 32]⟩ : ByteArray)) ++ ((⟨#[114]⟩ : ByteArray) ++ t146)).size + t150.size) = False := eq_false (Nat.not_lt.2 c28)
                        have c28x : x6_9.size + t149.size + 2 + (1 + t146.size) + t150.size ≤ 9223372036854775807 := by have hh_ := c28; (try simp only [ByteArray.size_append] at hh_); exact hh_
                        try have c28x0 : (9223372036854775807 < x6_9.size + t149.size + 2 + (1 + t146.size) + t150.size) = False := eq_false (by omega)
                        replace H := Option.bind_eq_some_iff.mp H
                        obtain ⟨t151, A290, H⟩ := H
                        replace H : (if ((((x6_9 ++ t149) ++ (⟨#[58, 32]⟩ : ByteArray)) ++ ((⟨#[114]⟩ : ByteArray) ++ t146)) ++ t150).size + t151.size ≤ 9223372036854775807 then ((print_row.f (⟨#[32, 124, 124]⟩ : ByteArray) l1_3).bind fun t152 => (if (((((x6_9 ++ t149) ++ (⟨#[58, 32]⟩ : ByteArray)) ++ ((⟨#[114]⟩ : ByteArray) ++ t146)) ++ t150) ++ t151).size + t152.size ≤ 9223372036854775807 then (if ((((((x6_9 ++ t149) ++ (⟨#[58, 32]⟩ : ByteArray)) ++ ((⟨#[114]⟩ : ByteArray) ++ t146)) ++ t150) ++ t151) ++ t152).size + 1 ≤ 9223372036854775807 then (some (((((((x6_9 ++ t149) ++ (⟨#[58, 32]⟩ : ByteArray)) ++ ((⟨#[114]⟩ : ByteArray) ++ t146)) ++ t150) ++ t151) ++ t152) ++ (⟨#[10]⟩ : ByteArray))) else (none)) else (none))) else (none)) = some r := H
                        have A29 := Aside0.mk A290
                        clear A290
                        by_cases c30 : ((((x6_9 ++ t149) ++ (⟨#[58, 32]⟩ : ByteArray)) ++ ((⟨#[114]⟩ : ByteArray) ++ t146)) ++ t150).size + t151.size ≤ 9223372036854775807
                        · rw [if_pos c30] at H
                          have c30b0 := eq_true c30
                          have c30b1 : decide (((((x6_9 ++ t149) ++ (⟨#[58, 32]⟩ : ByteArray)) ++ ((⟨#[114]⟩ : ByteArray) ++ t146)) ++ t150).size + t151.size ≤ 9223372036854775807) = true := decide_eq_true c30
                          try have c30b2 : (9223372036854775807 < ((((x6_9 ++ t149) ++ (⟨#[58, 32]⟩ : ByteArray)) ++ ((⟨#[114]⟩ : ByteArray) ++ t146)) ++ t150).size + t151.size) = False := eq_false (Nat.not_lt.2 c30)
                          have c30x : x6_9.size + t149.size + 2 + (1 + t146.size) + t150.size + t151.size ≤ 9223372036854775807 := by have hh_ := c30; (try simp only [ByteArray.size_append] at hh_); exact hh_
                          try have c30x0 : (9223372036854775807 < x6_9.size + t149.size + 2 + (1 + t146.size) + t150.size + t151.size) = False := eq_false (by omega)
                          replace H := Option.bind_eq_some_iff.mp H
                          obtain ⟨t152, A310, H⟩ := H
                          replace H : (if (((((x6_9 ++ t149) ++ (⟨#[58, 32]⟩ : ByteArray)) ++ ((⟨#[114]⟩ : ByteArray) ++ t146)) ++ t150) ++ t151).size + t152.size ≤ 9223372036854775807 then (if ((((((x6_9 ++ t149) ++ (⟨#[58, 32]⟩ : ByteArray)) ++ ((⟨#[114]⟩ : ByteArray) ++ t146)) ++ t150) ++ t151) ++ t152).size + 1 ≤ 9223372036854775807 then (some (((((((x6_9 ++ t149) ++ (⟨#[58, 32]⟩ : ByteArray)) ++ ((⟨#[114]⟩ : ByteArray) ++ t146)) ++ t150) ++ t151) ++ t152) ++ (⟨#[10]⟩ : ByteArray))) else (none)) else (none)) = some r := H
                          have A31 := Aside0.mk A310
                          clear A310
                          by_cases c32 : (((((x6_9 ++ t149) ++ (⟨#[58, 32]⟩ : ByteArray)) ++ ((⟨#[114]⟩ : ByteArray) ++ t146)) ++ t150) ++ t151).size + t152.size ≤ 9223372036854775807
                          · rw [if_pos c32] at H
                            have c32b0 := eq_true c32
                            have c32b1 : decide ((((((x6_9 ++ t149) ++ (⟨#[58, 32]⟩ : ByteArray)) ++ ((⟨#[114]⟩ : ByteArray) ++ t146)) ++ t150) ++ t151).size + t152.size ≤ 9223372036854775807) = true := decide_eq_true c32
                            try have c32b2 : (9223372036854775807 < (((((x6_9 ++ t149) ++ (⟨#[58, 32]⟩ : ByteArray)) ++ ((⟨#[114]⟩ : ByteArray) ++ t146)) ++ t150) ++ t151).size + t152.size) = False := eq_false (Nat.not_lt.2 c32)
                            have c32x : x6_9.size + t149.size + 2 + (1 + t146.size) + t150.size + t151.size + t152.size ≤ 9223372036854775807 := by have hh_ := c32; (try simp only [ByteArray.size_append] at hh_); exact hh_
                            try have c32x0 : (9223372036854775807 < x6_9.size + t149.size + 2 + (1 + t146.size) + t150.size + t151.size + t152.size) = False := eq_false (by omega)
                            by_cases c33 : ((((((x6_9 ++ t149) ++ (⟨#[58, 32]⟩ : ByteArray)) ++ ((⟨#[114]⟩ : ByteArray) ++ t146)) ++ t150) ++ t151) ++ t152).size + 1 ≤ 9223372036854775807
                            · rw [if_pos c33] at H
                              have c33b0 := eq_true c33
                              have c33b1 : decide (((((((x6_9 ++ t149) ++ (⟨#[58, 32]⟩ : ByteArray)) ++ ((⟨#[114]⟩ : ByteArray) ++ t146)) ++ t150) ++ t151) ++ t152).size + 1 ≤ 9223372036854775807) = true := decide_eq_true c33
                              try have c33b2 : (9223372036854775807 < ((((((x6_9 ++ t149) ++ (⟨#[58, 32]⟩ : ByteArray)) ++ ((⟨#[114]⟩ : ByteArray) ++ t146)) ++ t150) ++ t151) ++ t152).size + 1) = False := eq_false (Nat.not_lt.2 c33)
                              have c33x : x6_9.size + t149.size + 2 + (1 + t146.size) + t150.size + t151.size + t152.size + 1 ≤ 9223372036854775807 := by have hh_ := c33; (try simp only [ByteArray.size_append] at hh_); exact hh_
                              try have c33x0 : (9223372036854775807 < x6_9.size + t149.size + 2 + (1 + t146.size) + t150.size + t151.size + t152.size + 1) = False := eq_false (by omega)
                              try have c33x1 : (9223372036854775806 < x6_9.size + t149.size + 2 + (1 + t146.size) + t150.size + t151.size + t152.size) = False := eq_false (by omega)
                              try have c33b7 : (9223372036854775806 < ((((((x6_9 ++ t149) ++ (⟨#[58, 32]⟩ : ByteArray)) ++ ((⟨#[114]⟩ : ByteArray) ++ t146)) ++ t150) ++ t151) ++ t152).size) = False := eq_false (by omega)
                              obtain rfl := Option.some.inj H
                              try go_wp2
                              have n0_ := Aside0.mk (blk_drew BK145.out)
                              have n1_ := Aside0.mk (below_drew1 HB.out)
                              clear BK145
                              clear HB
                              have BK145 := n0_
                              have HB := n1_
                              clear n0_ n1_
                              refine start_ (n := 22) (S := fun w' => w'.cell? ⟨gb145, 0, none⟩ = some (.slice A1_0 l1_0.length c1_0) ∧ w'.cell? ⟨gb145, 1, none⟩ = some (.slice A1_1 l1_1.length c1_1) ∧ w'.cell? ⟨gb145, 2, none⟩ = some (.slice A1_2 l1_2.length c1_2) ∧ w'.cell? ⟨gb145, 3, none⟩ = some (.slice A1_3 l1_3.length c1_3) ∧ w'.cell? ⟨gb145, 4, none⟩ = some (.string a1_4) ∧ w'.cell? ⟨gb145, 5, none⟩ = some (.string a1_5)) (ds := []) #[false, false, false, false, false, false, false, false, false, false, false, false, false, false, false, false, false, false, false, false, false, false] (by kernel_rfl) rfl rfl ⟨(blk_cell BK145.out 0).trans rfl, (blk_cell BK145.out 1).trans rfl, (blk_cell BK145.out 2).trans rfl, (blk_cell BK145.out 3).trans rfl, (blk_cell BK145.out 4).trans rfl, (blk_cell BK145.out 5).trans rfl⟩ (fun hHeld => ?_); refine with_tabW print_edge.tab5 print_edge.bits5 (fun HT_ HW_ => ?_)
                              generalize wc.drew = w34 at BK145 HB hHeld ⊢
                              refine pure_ (i := 0) (N := some 28) (v := ?_) (a' := ?_) #[true, false, false, false, false, false, false, false, false, false, false, false, false, false, false, false, false, false, false, false, false, false] rfl rfl (any_of HT_.out (by kernel_rfl)) (fun _ _ _ h => h) (Or.inl ⟨by rfl, ?_⟩) ?_ ?_
                              rotate_left
                              · intro w'
                                go_simp
                                with_reducible rfl
                              rotate_left
                              · simp only [Act.put, List.setIfInBounds_toArray, List.set_cons_zero, List.set_cons_succ, i64_w, i32_w]
                                rfl
                              refine pure_ (i := 1) (N := some 29) (v := ?_) (a' := ?_) #[true, true, false, false, false, false, false, false, false, false, false, false, false, false, false, false, false, false, false, false, false, false] rfl rfl (any_of HT_.out (by kernel_rfl)) (fun _ _ _ h => h) (Or.inl ⟨by rfl, ?_⟩) ?_ ?_
                              rotate_left
                              · intro w'
                                go_simp
                                with_reducible rfl
                              rotate_left
                              · simp only [Act.put, List.setIfInBounds_toArray, List.set_cons_zero, List.set_cons_succ, i64_w, i32_w]
                                rfl
                              refine pure_ (i := 6) (N := some 34) (v := ?_) (a' := ?_) #[true, true, false, false, false, false, true, false, false, false, false, false, false, false, false, false, false, false, false, false, false, false] rfl rfl (any_of HT_.out (by kernel_rfl)) (fun _ _ _ h => h) (Or.inl ⟨by rfl, ?_⟩) ?_ ?_
                              rotate_left
                              · intro w'
                                go_simp
                                with_reducible rfl
                              rotate_left
                              · simp only [Act.put, List.setIfInBounds_toArray, List.set_cons_zero, List.set_cons_succ, i64_w, i32_w]
                                rfl
                              refine pure_ (i := 8) (N := some 36) (v := ?_) (a' := ?_) #[true, true, false, false, false, false, true, false, true, false, false, false, false, false, false, false, false, false, false, false, false, false] rfl rfl (any_of HT_.out (by kernel_rfl)) (fun _ _ _ h => h) (Or.inl ⟨by rfl, ?_⟩) ?_ ?_
                              rotate_left
                              · intro w'
                                go_simp
                                with_reducible rfl
                              rotate_left
                              · simp only [Act.put, List.setIfInBounds_toArray, List.set_cons_zero, List.set_cons_succ, i64_w, i32_w]
                                rfl
                              refine pure_ (i := 12) (N := some 40) (v := ?_) (a' := ?_) #[true, true, false, false, false, false, true, false, true, false, false, false, true, false, false, false, false, false, false, false, false, false] rfl rfl (any_of HT_.out (by kernel_rfl)) (fun _ _ _ h => h) (Or.inl ⟨by rfl, ?_⟩) ?_ ?_
                              rotate_left
                              · intro w'
                                go_simp
                                with_reducible rfl
                              rotate_left
                              · simp only [Act.put, List.setIfInBounds_toArray, List.set_cons_zero, List.set_cons_succ, i64_w, i32_w]
                                rfl
                              refine pure_ (i := 16) (N := some 44) (v := ?_) (a' := ?_) #[true, true, false, false, false, false, true, false, true, false, false, false, true, false, false, false, true, false, false, false, false, false] rfl rfl (any_of HT_.out (by kernel_rfl)) (fun _ _ _ h => h) (Or.inl ⟨by rfl, ?_⟩) ?_ ?_
                              rotate_left
                              · intro w'
                                go_simp
                                with_reducible rfl
                              rotate_left
                              · simp only [Act.put, List.setIfInBounds_toArray, List.set_cons_zero, List.set_cons_succ, i64_w, i32_w]
                                rfl
                              refine take_ (i := 2) (N := some 30) (v := ?_) (a' := ?_) #[true, true, true, false, false, false, true, false, true, false, false, false, true, false, false, false, true, false, false, false, false, false] rfl rfl (take_ofW HT_.out HW_.out (by kernel_rfl)) (fun _ _ _ h => h) (Or.inl ⟨by rfl, ?_⟩) hHeld ?_ ?_
                              rotate_left
                              · rintro w' ⟨s0, s1, s2, s3, s4, s5⟩
                                go_simp
                                with_reducible rfl
                              rotate_left
                              · simp only [Act.put, List.setIfInBounds_toArray, List.set_cons_zero, List.set_cons_succ, i64_w, i32_w]
                                rfl
                              refine take_ (i := 9) (N := some 37) (v := ?_) (a' := ?_) #[true, true, true, false, false, false, true, false, true, true, false, false, true, false, false, false, true, false, false, false, false, false] rfl rfl (take_ofW HT_.out HW_.out (by kernel_rfl)) (fun _ _ _ h => h) (Or.inl ⟨by rfl, ?_⟩) hHeld ?_ ?_
                              rotate_left
                              · rintro w' ⟨s0, s1, s2, s3, s4, s5⟩
                                go_simp
                                with_reducible rfl
                              rotate_left
                              · simp only [Act.put, List.setIfInBounds_toArray, List.set_cons_zero, List.set_cons_succ, i64_w, i32_w]
                                rfl
                              refine take_ (i := 13) (N := some 41) (v := ?_) (a' := ?_) #[true, true, true, false, false, false, true, false, true, true, false, false, true, true, false, false, true, false, false, false, false, false] rfl rfl (take_ofW HT_.out HW_.out (by kernel_rfl)) (fun _ _ _ h => h) (Or.inl ⟨by rfl, ?_⟩) hHeld ?_ ?_
                              rotate_left
                              · rintro w' ⟨s0, s1, s2, s3, s4, s5⟩
                                go_simp
                                with_reducible rfl
                              rotate_left
                              · simp only [Act.put, List.setIfInBounds_toArray, List.set_cons_zero, List.set_cons_succ, i64_w, i32_w]
                                rfl
                              refine take_ (i := 17) (N := some 45) (v := ?_) (a' := ?_) #[true, true, true, false, false, false, true, false, true, true, false, false, true, true, false, false, true, true, false, false, false, false] rfl rfl (take_ofW HT_.out HW_.out (by kernel_rfl)) (fun _ _ _ h => h) (Or.inl ⟨by rfl, ?_⟩) hHeld ?_ ?_
                              rotate_left
                              · rintro w' ⟨s0, s1, s2, s3, s4, s5⟩
                                go_simp
                                with_reducible rfl
                              rotate_left
                              · simp only [Act.put, List.setIfInBounds_toArray, List.set_cons_zero, List.set_cons_succ, i64_w, i32_w]
                                rfl
                              refine one_ (i := 3) (N := some 31) #[true, true, true, true, false, false, true, false, true, true, false, false, true, true, false, false, true, true, false, false, false, false] rfl rfl (one_of HT_.out (by kernel_rfl)) (by decide) (fun K hK => ?_)
                              refine goes_ Tryz.func13 (by kernel_rfl) rfl #[.string (⟨#[98, 117, 105, 108, 100]⟩ : ByteArray), .slice A1_0 l1_0.length c1_0] (by rfl) rfl rfl (by (try simp only [List.map_toArray, List.map_cons, List.map_nil]); first | done | rfl | (simp only [List.length_drop, List.length_take]; rfl)) ?_
                              with_reducible refine (print_row.calls (⟨#[98, 117, 105, 108, 100]⟩ : ByteArray) _ _ l1_0 t149 _ ?side1 ?side2 A23.out).mono ?_
                              (case side1 => repeat (first | exact (Kd.C_below HR1_0.out HB.out) | (with_reducible refine Kd.C_alloc ?_ _) | (with_reducible refine Kd.C_drewN ?_ _) | (with_reducible refine Kd.C_drew ?_)))
                              (case side2 => exact HC1_0.out)
                              rintro e w35 ⟨rfl, hb⟩
                              refine ⟨_, rfl, ?_⟩
                              have n0_ := Aside0.mk (blk_below (g := gb145) (o := .cells #[.slice A1_0 l1_0.length c1_0, .slice A1_1 l1_1.length c1_1, .slice A1_2 l1_2.length c1_2, .slice A1_3 l1_3.length c1_3, .string a1_4, .string a1_5] 43 (0, 0)) (by (with_reducible repeat (first | refine blk_drewN ?_ _ | refine blk_drew ?_ | refine blk_alloc ?_ _)); exact BK145.out) hb)
                              have n1_ := Aside0.mk (below_step (by repeat (first | (with_reducible first | exact HB.out | apply below_alloc | apply pw_below_drewN | apply below_drew1 | refine below_set ?_ GE145.out) | exact HB.out)) hb)
                              clear BK145
                              clear HB
                              have BK145 := n0_
                              have HB := n1_
                              clear n0_ n1_
                              (try clear hb)
                              (try clear hb2)
                              (try clear hk)
                              (try clear hi)
                              refine hK.out _ _ ⟨(blk_cell BK145.out 0).trans rfl, (blk_cell BK145.out 1).trans rfl, (blk_cell BK145.out 2).trans rfl, (blk_cell BK145.out 3).trans rfl, (blk_cell BK145.out 4).trans rfl, (blk_cell BK145.out 5).trans rfl⟩ (fun hHeld => ?_)
                              clear hK K
                              refine norm_ (a' := ?_) ?_ ?_
                              rotate_left
                              · show Act.put _ (some 31) _ = _
                                simp only [Act.put, List.setIfInBounds_toArray, List.set_cons_zero, List.set_cons_succ, i64_w, i32_w]
                                rfl
                              refine pure_ (i := 4) (N := some 32) (v := ?_) (a' := ?_) #[true, true, true, true, true, false, true, false, true, true, false, false, true, true, false, false, true, true, false, false, false, false] rfl rfl (any_of HT_.out (by kernel_rfl)) (fun _ _ _ h => h) (Or.inl ⟨by rfl, ?_⟩) ?_ ?_
                              rotate_left
                              · intro w'
                                go_simp
                                with_reducible rfl
                              rotate_left
                              · simp only [Act.put, List.setIfInBounds_toArray, List.set_cons_zero, List.set_cons_succ, i64_w, i32_w]
                                rfl
                              refine pure_ (i := 5) (N := some 33) (v := ?_) (a' := ?_) #[true, true, true, true, true, true, true, false, true, true, false, false, true, true, false, false, true, true, false, false, false, false] rfl rfl (any_of HT_.out (by kernel_rfl)) (fun _ _ _ h => h) (Or.inl ⟨by rfl, ?_⟩) ?_ ?_
                              rotate_left
                              · intro w'
                                go_simp
                                with_reducible rfl
                              rotate_left
                              · simp only [Act.put, List.setIfInBounds_toArray, List.set_cons_zero, List.set_cons_succ, i64_w, i32_w]
                                rfl
                              refine pure_ (i := 7) (N := some 35) (v := ?_) (a' := ?_) #[true, true, true, true, true, true, true, true, true, true, false, false, true, true, false, false, true, true, false, false, false, false] rfl rfl (any_of HT_.out (by kernel_rfl)) (fun _ _ _ h => h) (Or.inl ⟨by rfl, ?_⟩) ?_ ?_
                              rotate_left
                              · intro w'
                                go_simp
                                with_reducible rfl
                              rotate_left
                              · simp only [Act.put, List.setIfInBounds_toArray, List.set_cons_zero, List.set_cons_succ, i64_w, i32_w]
                                rfl
                              refine one_ (i := 10) (N := some 38) #[true, true, true, true, true, true, true, true, true, true, true, false, true, true, false, false, true, true, false, false, false, false] rfl rfl (one_of HT_.out (by kernel_rfl)) (by decide) (fun K hK => ?_)
                              refine goes_ Tryz.func13 (by kernel_rfl) rfl #[.string (⟨#[]⟩ : ByteArray), .slice A1_1 l1_1.length c1_1] (by rfl) rfl rfl (by (try simp only [List.map_toArray, List.map_cons, List.map_nil]); first | done | rfl | (simp only [List.length_drop, List.length_take]; rfl)) ?_
                              with_reducible refine (print_row.calls (⟨#[]⟩ : ByteArray) _ _ l1_1 t150 _ ?side1 ?side2 A27.out).mono ?_
                              (case side1 => repeat (first | exact (Kd.C_below HR1_1.out HB.out) | (with_reducible refine Kd.C_alloc ?_ _) | (with_reducible refine Kd.C_drewN ?_ _) | (with_reducible refine Kd.C_drew ?_)))
                              (case side2 => exact HC1_1.out)
                              rintro e w36 ⟨rfl, hb⟩
                              refine ⟨_, rfl, ?_⟩
                              have n0_ := Aside0.mk (blk_below (g := gb145) (o := .cells #[.slice A1_0 l1_0.length c1_0, .slice A1_1 l1_1.length c1_1, .slice A1_2 l1_2.length c1_2, .slice A1_3 l1_3.length c1_3, .string a1_4, .string a1_5] 43 (0, 0)) (by (with_reducible repeat (first | refine blk_drewN ?_ _ | refine blk_drew ?_ | refine blk_alloc ?_ _)); exact BK145.out) hb)
                              have n1_ := Aside0.mk (below_step (by repeat (first | (with_reducible first | exact HB.out | apply below_alloc | apply pw_below_drewN | apply below_drew1 | refine below_set ?_ GE145.out) | exact HB.out)) hb)
                              clear BK145
                              clear HB
                              have BK145 := n0_
                              have HB := n1_
                              clear n0_ n1_
                              (try clear hb)
                              (try clear hb2)
                              (try clear hk)
                              (try clear hi)
                              refine hK.out _ _ ⟨(blk_cell BK145.out 0).trans rfl, (blk_cell BK145.out 1).trans rfl, (blk_cell BK145.out 2).trans rfl, (blk_cell BK145.out 3).trans rfl, (blk_cell BK145.out 4).trans rfl, (blk_cell BK145.out 5).trans rfl⟩ (fun hHeld => ?_)
                              clear hK K
                              refine norm_ (a' := ?_) ?_ ?_
                              rotate_left
                              · show Act.put _ (some 38) _ = _
                                simp only [Act.put, List.setIfInBounds_toArray, List.set_cons_zero, List.set_cons_succ, i64_w, i32_w]
                                rfl
                              refine pure_ (i := 11) (N := some 39) (v := ?_) (a' := ?_) #[true, true, true, true, true, true, true, true, true, true, true, true, true, true, false, false, true, true, false, false, false, false] rfl rfl (any_of HT_.out (by kernel_rfl)) (fun _ _ _ h => h) (Or.inl ⟨by rfl, ?_⟩) ?_ ?_
                              rotate_left
                              · intro w'
                                go_simp
                                with_reducible rfl
                              rotate_left
                              · simp only [Act.put, List.setIfInBounds_toArray, List.set_cons_zero, List.set_cons_succ, i64_w, i32_w]
                                rfl
                              refine one_ (i := 14) (N := some 42) #[true, true, true, true, true, true, true, true, true, true, true, true, true, true, true, false, true, true, false, false, false, false] rfl rfl (one_of HT_.out (by kernel_rfl)) (by decide) (fun K hK => ?_)
                              refine goes_ Tryz.func13 (by kernel_rfl) rfl #[.string (⟨#[32, 124]⟩ : ByteArray), .slice A1_2 l1_2.length c1_2] (by rfl) rfl rfl (by (try simp only [List.map_toArray, List.map_cons, List.map_nil]); first | done | rfl | (simp only [List.length_drop, List.length_take]; rfl)) ?_
                              with_reducible refine (print_row.calls (⟨#[32, 124]⟩ : ByteArray) _ _ l1_2 t151 _ ?side1 ?side2 A29.out).mono ?_
                              (case side1 => repeat (first | exact (Kd.C_below HR1_2.out HB.out) | (with_reducible refine Kd.C_alloc ?_ _) | (with_reducible refine Kd.C_drewN ?_ _) | (with_reducible refine Kd.C_drew ?_)))
                              (case side2 => exact HC1_2.out)
                              rintro e w37 ⟨rfl, hb⟩
                              refine ⟨_, rfl, ?_⟩
                              have n0_ := Aside0.mk (blk_below (g := gb145) (o := .cells #[.slice A1_0 l1_0.length c1_0, .slice A1_1 l1_1.length c1_1, .slice A1_2 l1_2.length c1_2, .slice A1_3 l1_3.length c1_3, .string a1_4, .string a1_5] 43 (0, 0)) (by (with_reducible repeat (first | refine blk_drewN ?_ _ | refine blk_drew ?_ | refine blk_alloc ?_ _)); exact BK145.out) hb)
                              have n1_ := Aside0.mk (below_step (by repeat (first | (with_reducible first | exact HB.out | apply below_alloc | apply pw_below_drewN | apply below_drew1 | refine below_set ?_ GE145.out) | exact HB.out)) hb)
                              clear BK145
                              clear HB
                              have BK145 := n0_
                              have HB := n1_
                              clear n0_ n1_
                              (try clear hb)
                              (try clear hb2)
                              (try clear hk)
                              (try clear hi)
                              refine hK.out _ _ ⟨(blk_cell BK145.out 0).trans rfl, (blk_cell BK145.out 1).trans rfl, (blk_cell BK145.out 2).trans rfl, (blk_cell BK145.out 3).trans rfl, (blk_cell BK145.out 4).trans rfl, (blk_cell BK145.out 5).trans rfl⟩ (fun hHeld => ?_)
                              clear hK K
                              refine norm_ (a' := ?_) ?_ ?_
                              rotate_left
                              · show Act.put _ (some 42) _ = _
                                simp only [Act.put, List.setIfInBounds_toArray, List.set_cons_zero, List.set_cons_succ, i64_w, i32_w]
                                rfl
                              refine pure_ (i := 15) (N := some 43) (v := ?_) (a' := ?_) #[true, true, true, true, true, true, true, true, true, true, true, true, true, true, true, true, true, true, false, false, false, false] rfl rfl (any_of HT_.out (by kernel_rfl)) (fun _ _ _ h => h) (Or.inl ⟨by rfl, ?_⟩) ?_ ?_
                              rotate_left
                              · intro w'
                                go_simp
                                with_reducible rfl
                              rotate_left
                              · simp only [Act.put, List.setIfInBounds_toArray, List.set_cons_zero, List.set_cons_succ, i64_w, i32_w]
                                rfl
                              refine one_ (i := 18) (N := some 46) #[true, true, true, true, true, true, true, true, true, true, true, true, true, true, true, true, true, true, true, false, false, false] rfl rfl (one_of HT_.out (by kernel_rfl)) (by decide) (fun K hK => ?_)
                              refine goes_ Tryz.func13 (by kernel_rfl) rfl #[.string (⟨#[32, 124, 124]⟩ : ByteArray), .slice A1_3 l1_3.length c1_3] (by rfl) rfl rfl (by (try simp only [List.map_toArray, List.map_cons, List.map_nil]); first | done | rfl | (simp only [List.length_drop, List.length_take]; rfl)) ?_
                              with_reducible refine (print_row.calls (⟨#[32, 124, 124]⟩ : ByteArray) _ _ l1_3 t152 _ ?side1 ?side2 A31.out).mono ?_
                              (case side1 => repeat (first | exact (Kd.C_below HR1_3.out HB.out) | (with_reducible refine Kd.C_alloc ?_ _) | (with_reducible refine Kd.C_drewN ?_ _) | (with_reducible refine Kd.C_drew ?_)))
                              (case side2 => exact HC1_3.out)
                              rintro e w38 ⟨rfl, hb⟩
                              refine ⟨_, rfl, ?_⟩
                              have n0_ := Aside0.mk (blk_below (g := gb145) (o := .cells #[.slice A1_0 l1_0.length c1_0, .slice A1_1 l1_1.length c1_1, .slice A1_2 l1_2.length c1_2, .slice A1_3 l1_3.length c1_3, .string a1_4, .string a1_5] 43 (0, 0)) (by (with_reducible repeat (first | refine blk_drewN ?_ _ | refine blk_drew ?_ | refine blk_alloc ?_ _)); exact BK145.out) hb)
                              have n1_ := Aside0.mk (below_step (by repeat (first | (with_reducible first | exact HB.out | apply below_alloc | apply pw_below_drewN | apply below_drew1 | refine below_set ?_ GE145.out) | exact HB.out)) hb)
                              clear BK145
                              clear HB
                              have BK145 := n0_
                              have HB := n1_
                              clear n0_ n1_
                              (try clear hb)
                              (try clear hb2)
                              (try clear hk)
                              (try clear hi)
                              refine hK.out _ _ ⟨(blk_cell BK145.out 0).trans rfl, (blk_cell BK145.out 1).trans rfl, (blk_cell BK145.out 2).trans rfl, (blk_cell BK145.out 3).trans rfl, (blk_cell BK145.out 4).trans rfl, (blk_cell BK145.out 5).trans rfl⟩ (fun hHeld => ?_)
                              clear hK K
                              refine norm_ (a' := ?_) ?_ ?_
                              rotate_left
                              · show Act.put _ (some 46) _ = _
                                simp only [Act.put, List.setIfInBounds_toArray, List.set_cons_zero, List.set_cons_succ, i64_w, i32_w]
                                rfl
                              refine pure_ (i := 19) (N := some 47) (v := ?_) (a' := ?_) #[true, true, true, true, true, true, true, true, true, true, true, true, true, true, true, true, true, true, true, true, false, false] rfl rfl (any_of HT_.out (by kernel_rfl)) (fun _ _ _ h => h) (Or.inl ⟨by rfl, ?_⟩) ?_ ?_
                              rotate_left
                              · intro w'
                                go_simp
                                with_reducible rfl
                              rotate_left
                              · simp only [Act.put, List.setIfInBounds_toArray, List.set_cons_zero, List.set_cons_succ, i64_w, i32_w]
                                rfl
                              refine pure_ (i := 20) (N := some 48) (v := ?_) (a' := ?_) #[true, true, true, true, true, true, true, true, true, true, true, true, true, true, true, true, true, true, true, true, true, false] rfl rfl (any_of HT_.out (by kernel_rfl)) (fun _ _ _ h => h) (Or.inl ⟨by rfl, ?_⟩) ?_ ?_
                              rotate_left
                              · intro w'
                                go_simp
                                with_reducible rfl
                              rotate_left
                              · simp only [Act.put, List.setIfInBounds_toArray, List.set_cons_zero, List.set_cons_succ, i64_w, i32_w]
                                rfl
                              refine pure_ (i := 21) (N := some 4) (v := ?_) (a' := ?_) #[true, true, true, true, true, true, true, true, true, true, true, true, true, true, true, true, true, true, true, true, true, true] rfl rfl (any_of HT_.out (by kernel_rfl)) (fun _ _ _ h => h) (Or.inl ⟨by rfl, ?_⟩) ?_ ?_
                              rotate_left
                              · intro w'
                                go_simp
                                with_reducible rfl
                              rotate_left
                              · simp only [Act.put, List.setIfInBounds_toArray, List.set_cons_zero, List.set_cons_succ, i64_w, i32_w]
                                rfl
                              refine done_ (done_of HT_.out (by kernel_rfl)) ?_
                              try go_wp2
                              go_ret
                              exact ⟨by first | rfl | (simp [errW_none, errW_some] <;> rfl) | (simp [*, errW_none, errW_some] <;> rfl), by repeat (first | (with_reducible first | exact HB.out | apply below_alloc | apply pw_below_drewN | apply below_drew1 | refine below_set ?_ GE145.out) | exact HB.out)⟩
                            · rw [if_neg c33] at H
                              exact absurd H (by simp)
                          · rw [if_neg c32] at H
                            exact absurd H (by simp)
                        · rw [if_neg c30] at H
                          exact absurd H (by simp)
                      · rw [if_neg c28] at H
                        exact absurd H (by simp)
                    · rw [if_neg c26] at H
                      exact absurd H (by simp)
                  · rw [if_neg c25] at H
                    exact absurd H (by simp)
                · rw [if_neg c24] at H
                  exact absurd H (by simp)
          · rw [if_neg c9] at H
            exact absurd H (by simp)
        · rw [if_neg c8] at H
          exact absurd H (by simp)
      · rw [if_neg c6] at H
        exact absurd H (by simp)
    · rw [if_neg c5] at H
      exact absurd H (by simp)
  · rw [if_neg c4] at H
    exact absurd H (by simp)
end Go.Proofs.YtapdchapjpnceaaGreatDoor.P
end
section
set_option linter.unusedSimpArgs false
set_option linter.unusedVariables false
namespace Go.Proofs.YtapdchapjpnceaaGreatDoor.P
open Go.RowKit Go.Lib Go.Shelf Go.Proofs.YtapdchapjpnceaaGreatDoorW.PrintWords Go.Proofs.YtapdchapjpnceaaGreatDoorW.PrintLast Go.Proofs.YtapdchapjpnceaaGreatDoorW.PrintMore Go.Proofs.YtapdchapjpnceaaGreatDoor.U Go.Proofs.YtapdchapjpnceaaGreatDoor.PTh
def rowL (wd : List UInt8) (l : List (List UInt8)) : List UInt8 := if l = [] then [] else wd ++ [32] ++ Lib.join l [32]
def headL (i : Nat) (x : S43) : List UInt8 := [114, 117, 108, 101, 32] ++ ([114] ++ Lib.decDigits i) ++ [10, 32, 32, 99, 111, 109, 109, 97, 110, 100, 32, 61, 32] ++ Sc.escL (toL x.f4) ++ [10]
def depL (x : S43) : List UInt8 := if toL x.f5 = [] then [] else [32, 32, 100, 101, 112, 102, 105, 108, 101, 32, 61, 32] ++ Sc.escL (toL x.f5) ++ [10]
def edgeL (i : Nat) (x : S43) : List UInt8 :=
  headL i x ++ depL x ++ rowL [98, 117, 105, 108, 100] (x.f0.map toL) ++ [58, 32] ++ ([114] ++ Lib.decDigits i) ++ rowL [] (x.f1.map toL) ++ rowL [32, 124] (x.f2.map toL) ++ rowL [32, 124, 124] (x.f3.map toL) ++ [10]
def edgesL : Nat → List S43 → List UInt8
  | _, [] => []
  | i, x :: xs => edgeL i x ++ edgesL (i + 1) xs
def defL (l : List ByteArray) : List UInt8 := if l = [] then [] else rowL [100, 101, 102, 97, 117, 108, 116] (l.map toL) ++ [10]
def boundN (l : List ByteArray) : Bool := decide (l.length ≤ 1000) && l.all fun a => decide (a.size ≤ 1000)
def boundS (x : S43) : Bool := boundN x.f0 && boundN x.f1 && boundN x.f2 && boundN x.f3 && decide (x.f4.size ≤ 100000) && decide (x.f5.size ≤ 100000)
theorem B_app (a b : List UInt8) : B (a ++ b) = B a ++ B b := by
  apply ByteArray.ext; simp [B, ByteArray.data_append]
theorem B_size (a : List UInt8) : (B a).size = a.length := by simp [B, ByteArray.size]
theorem toL_length (a : ByteArray) : (toL a).length = a.size := Array.length_toList
theorem toL_eq (a : ByteArray) : a.toList = toL a := ByteArray.toList_eq a
theorem digits_len (i : Nat) (h : i < 100) : (Lib.decDigits i).length ≤ 2 := by
  by_cases h1 : i < 10
  · rw [Lib.decDigits_one h1]; simp
  · rw [Lib.decDigits_two h1 h]; simp
theorem lens_le (l : List ByteArray) (h : l.all (fun a => decide (a.size ≤ 1000)) = true) : Lib.lens (l.map toL) ≤ 1000 * l.length := by
  induction l with
  | nil => simp [Lib.lens]
  | cons a l ih =>
    rw [List.all_cons, Bool.and_eq_true, decide_eq_true_iff] at h
    have := ih h.2
    simp only [Lib.lens, List.map_cons, List.sum_cons, List.length_cons] at this ⊢
    rw [toL_length]; omega
theorem join_len (l : List ByteArray) (h : boundN l = true) : (Lib.join (l.map toL) [32]).length ≤ 1001000 := by
  rw [boundN, Bool.and_eq_true, decide_eq_true_iff] at h
  have h1 := lens_le l h.2
  cases l with
  | nil => exact Nat.zero_le _
  | cons a l =>
    rw [List.map_cons] at h1 ⊢
    rw [Lib.join_length, List.length_map]
    have h2 := h.1
    rw [List.length_cons] at h1 h2
    simp only [List.length_singleton]
    omega
theorem row_len (wd : List UInt8) (l : List ByteArray) (h : boundN l = true) : (rowL wd (l.map toL)).length ≤ wd.length + 1001001 := by
  have := join_len l h
  unfold rowL
  split
  · simp
  · simp only [List.length_append, List.length_singleton]; omega
theorem row_f (wd : List UInt8) (l : List ByteArray) (hw : wd.length ≤ 100) (h : boundN l = true) : print_row.f (B wd) l = some (B (rowL wd (l.map toL))) := by
  have hj := join_len l h
  unfold print_row.f rowL
  by_cases h0 : l = []
  · subst h0; rfl
  · have hp : 0 < l.length := List.length_pos_iff.2 h0
    have n1 : ¬ (l.length : Int) = 0 := by omega
    have n2 : ¬ l.map toL = [] := by simpa using h0
    rw [if_neg n1, if_neg n2, B_size, if_pos (by omega)]
    have hS : strings_Join.f l (⟨#[32]⟩ : ByteArray) = some (B (Lib.join (l.map toL) [32])) := by
      unfold strings_Join.f
      rw [if_pos]
      · rfl
      · rw [boundN, Bool.and_eq_true, decide_eq_true_iff] at h
        refine ⟨by omega, ?_⟩
        have : (Lib.join (l.map toL) [32]).length ≤ 140737488355328 := by omega
        exact this
    have e1 : (⟨#[32]⟩ : ByteArray) = B [32] := rfl
    rw [hS, Option.bind_some, e1, ByteArray.size_append, B_size, B_size, B_size, if_pos (by simp only [List.length_singleton]; omega), B_app, B_app]
theorem escL_le (l : List UInt8) : (Sc.escL l).length ≤ 2 * l.length := by
  rw [Sc.escL_len]; have := List.countP_le_length (p := Sc.escB) (l := l); omega
theorem esc_f (a : ByteArray) (h : a.size ≤ 100000) : scope_Escape.f a = some (B (Sc.escL (toL a))) := by
  unfold scope_Escape.f
  rw [if_pos]
  · rfl
  · have := toL_length a; simp only [toL] at this; omega
theorem itoa_f (i : Nat) (h : i < 100) : strconv_Itoa_26.f (i : Int) = some (B (Lib.decDigits i)) := by
  unfold strconv_Itoa_26.f
  rw [if_pos (by omega), Int.toNat_natCast]
  try rfl
theorem edge_len (i : Nat) (x : S43) (hi : i < 100) (h : boundS x = true) : (edgeL i x).length ≤ 10000000 := by
  simp only [boundS, Bool.and_eq_true, decide_eq_true_iff] at h
  obtain ⟨⟨⟨⟨⟨h0, h1⟩, h2⟩, h3⟩, h4⟩, h5⟩ := h
  have d := digits_len i hi
  have e4 := escL_le (toL x.f4)
  have e5 := escL_le (toL x.f5)
  rw [toL_length] at e4 e5
  have r0 := row_len [98, 117, 105, 108, 100] x.f0 h0
  have r1 := row_len [] x.f1 h1
  have r2 := row_len [32, 124] x.f2 h2
  have r3 := row_len [32, 124, 124] x.f3 h3
  simp only [List.length_cons, List.length_nil] at r0 r1 r2 r3
  have ed : (depL x).length ≤ 200013 := by
    unfold depL
    split
    · simp
    · simp only [List.length_append, List.length_cons, List.length_nil]; omega
  simp only [edgeL, headL, List.length_append, List.length_cons, List.length_nil]
  omega
set_option maxRecDepth 100000 in
set_option maxHeartbeats 4000000 in
theorem edge_j (s : List UInt8) (own : List UInt8) (x : S43) (h : boundS x = true) (hs : s.length ≤ 1000000) (ho : own.length ≤ 100) :
    print_edge.j0 1 (B own) (B s) x.f0 x.f1 x.f2 x.f3 x.f4 x.f5 = some (B (s ++ rowL [98, 117, 105, 108, 100] (x.f0.map toL) ++ [58, 32] ++ own ++ rowL [] (x.f1.map toL) ++ rowL [32, 124] (x.f2.map toL) ++ rowL [32, 124, 124] (x.f3.map toL) ++ [10])) := by
  simp only [boundS, Bool.and_eq_true, decide_eq_true_iff] at h
  obtain ⟨⟨⟨⟨⟨h0, h1⟩, h2⟩, h3⟩, h4⟩, h5⟩ := h
  have r0 := row_len [98, 117, 105, 108, 100] x.f0 h0
  have r1 := row_len [] x.f1 h1
  have r2 := row_len [32, 124] x.f2 h2
  have r3 := row_len [32, 124, 124] x.f3 h3
  simp only [List.length_cons, List.length_nil] at r0 r1 r2 r3
  have q0 := row_f [98, 117, 105, 108, 100] x.f0 (by simp) h0
  have q1 := row_f [] x.f1 (by simp) h1
  have q2 := row_f [32, 124] x.f2 (by simp) h2
  have q3 := row_f [32, 124, 124] x.f3 (by simp) h3
  generalize rowL [98, 117, 105, 108, 100] (x.f0.map toL) = R0 at *
  generalize rowL [] (x.f1.map toL) = R1 at *
  generalize rowL [32, 124] (x.f2.map toL) = R2 at *
  generalize rowL [32, 124, 124] (x.f3.map toL) = R3 at *
  have e1 : (⟨#[98, 117, 105, 108, 100]⟩ : ByteArray) = B [98, 117, 105, 108, 100] := rfl
  have e2 : (⟨#[]⟩ : ByteArray) = B [] := rfl
  have e3 : (⟨#[32, 124]⟩ : ByteArray) = B [32, 124] := rfl
  have e4 : (⟨#[32, 124, 124]⟩ : ByteArray) = B [32, 124, 124] := rfl
  have e5 : (⟨#[58, 32]⟩ : ByteArray) = B [58, 32] := rfl
  have e6 : (⟨#[10]⟩ : ByteArray) = B [10] := rfl
  rw [print_edge.j0]
  rw [e1, e2, e3, e4, e5, e6, q0, q1, q2, q3]
  simp only [Option.bind_some, ← B_app, B_size, List.length_append, List.length_cons, List.length_nil]
  rw [if_pos (by omega), if_pos (by omega), if_pos (by omega), if_pos (by omega), if_pos (by omega), if_pos (by omega), if_pos (by omega)]
set_option maxRecDepth 100000 in
set_option maxHeartbeats 4000000 in
theorem edge_f (i : Nat) (x : S43) (hi : i < 100) (h : boundS x = true) : print_edge.f 1 (i : Int) x.f0 x.f1 x.f2 x.f3 x.f4 x.f5 = some (B (edgeL i x)) := by
  have h' := h
  simp only [boundS, Bool.and_eq_true, decide_eq_true_iff] at h'
  obtain ⟨⟨⟨⟨⟨h0, h1⟩, h2⟩, h3⟩, h4⟩, h5⟩ := h'
  have d := digits_len i hi
  have g4 := escL_le (toL x.f4)
  have g5 := escL_le (toL x.f5)
  rw [toL_length] at g4 g5
  have e1 : (⟨#[114]⟩ : ByteArray) = B [114] := rfl
  have e2 : (⟨#[114, 117, 108, 101, 32]⟩ : ByteArray) = B [114, 117, 108, 101, 32] := rfl
  have e3 : (⟨#[10, 32, 32, 99, 111, 109, 109, 97, 110, 100, 32, 61, 32]⟩ : ByteArray) = B [10, 32, 32, 99, 111, 109, 109, 97, 110, 100, 32, 61, 32] := rfl
  have e4 : (⟨#[10]⟩ : ByteArray) = B [10] := rfl
  have e5 : (⟨#[32, 32, 100, 101, 112, 102, 105, 108, 101, 32, 61, 32]⟩ : ByteArray) = B [32, 32, 100, 101, 112, 102, 105, 108, 101, 32, 61, 32] := rfl
  unfold print_edge.f edgeL headL depL
  rw [itoa_f i hi, esc_f x.f4 h4, esc_f x.f5 h5, toL_eq, e1, e2, e3, e4, e5]
  simp only [Option.bind_some, ← B_app, B_size, List.length_append, List.length_cons, List.length_nil]
  generalize Sc.escL (toL x.f4) = E4 at *
  generalize Sc.escL (toL x.f5) = E5 at *
  generalize Lib.decDigits i = D at *
  rw [if_pos (by omega), if_pos (by omega), if_pos (by omega), if_pos (by omega), if_pos (by omega)]
  by_cases hz : toL x.f5 = []
  · rw [if_pos hz, if_pos hz, edge_j _ _ x h (by simp; omega) (by simp; omega), List.append_nil]
  · rw [if_neg hz, if_neg hz, if_pos (by omega), if_pos (by omega), if_pos (by omega), edge_j _ _ x h (by simp; omega) (by simp; omega)]
    try simp only [List.append_assoc]
end Go.Proofs.YtapdchapjpnceaaGreatDoor.P
end
section
set_option linter.unusedVariables false
namespace Go.Proofs.YtapdchapjpnceaaGreatDoor.Bld
open Go.RowKit Go.Shelf
theorem info53 : (Tryz.prog.info? 42).map (·.size) = some 2 := by kernel_rfl
theorem lies53 : liesAt Tryz.prog Tryz.prog.depth 42 (2 / Tryz.prog.cellsOf 42) 0 42 1 = true := by kernel_rfl
theorem info5 : (Tryz.prog.info? 5).map (fun i => (i.zero, i.size, i.bytes)) = some (some (.int .u8 0), 1, 1) := by kernel_rfl
set_option maxHeartbeats 1000000 in
set_option maxRecDepth 100000 in
theorem check_used (b : Nat) (w : World) (h0 : w.cell? ⟨b, 0, none⟩ = some (.pointer (some ⟨b, 0, none⟩))) :
    Calls Tryz.prog 25 #[.pointer (some ⟨b, 0, none⟩)] w fun e w' => e = .returned (.tuple #[]) ∧ w' = w := by
  obtain ⟨j, hj, _⟩ := Option.map_eq_some_iff.1 info53
  go_enter Tryz.func25, Tryz.ntmps25
  go_wp2
  rw [Lib.run_neq_ptr_same w _ Tryz.underlying39 hj]
  go_wp2
  go_end0
  exact ⟨rfl, rfl⟩
set_option maxHeartbeats 1000000 in
set_option maxRecDepth 100000 in
theorem check_fresh (b : Nat) (w : World) (h0 : w.cell? ⟨b, 0, none⟩ = some (.pointer none)) (hsh : w.shape? b = some (42, 2)) (hfz : w.frozen? ⟨b, 0, none⟩ = false) :
    Calls Tryz.prog 25 #[.pointer (some ⟨b, 0, none⟩)] w fun e w' => e = .returned (.tuple #[]) ∧ w' = w.setCell ⟨b, 0, none⟩ (.pointer (some ⟨b, 0, none⟩)) := by
  obtain ⟨j, hj, hjs⟩ := Option.map_eq_some_iff.1 info53
  go_enter Tryz.func25, Tryz.ntmps25
  go_wp2
  rw [Lib.run_to_unsafe w ⟨b, 0, none⟩ Tryz.underlying39 Tryz.underlying68 hj (by rw [hjs]; decide) hsh (Nat.zero_lt_succ 1)]
  simp only [Result.andThen]
  rw [Oper.upon_value]
  go_wp2
  rw [run_callFunc_extern Tryz.func36 (by kernel_rfl) (by kernel_rfl) (by kernel_rfl) (e := Extern.AbiNoEscape.same) (by kernel_rfl)]
  rw [Lib.run_noEscape]
  simp only [Result.andThen]
  rw [Oper.upon_value]
  go_wp2
  rw [Lib.run_from_unsafe w ⟨b, 0, none⟩ Tryz.underlying68 Tryz.underlying39 hj hsh lies53]
  simp only [Result.andThen]
  rw [Oper.upon_value]
  go_wp2
  go_end0
  exact ⟨rfl, rfl⟩
abbrev IsB (B b : Nat) (l : List UInt8) (w : World) : Prop := Lib.IsBuilder 42 5 B b (Lib.byteCells l) w
theorem check_any (B b : Nat) (bs : List Value) (w : World) (h : Lib.IsBuilder 42 5 B b bs w) :
    Calls Tryz.prog 25 #[.pointer (some ⟨b, 0, none⟩)] w fun e w' => e = .returned (.tuple #[]) ∧ (Lib.BuilderAt 42 5 B b (.pointer (some ⟨b, 0, none⟩)) bs w' ∧ Below B w w') := by
  rcases h with h | h
  · refine (check_fresh b w h.cell0 h.shape h.frozen0).mono ?_
    rintro e w' ⟨rfl, rfl⟩
    exact ⟨rfl, h.used _, (Below.refl B w).setCell (p := ⟨b, 0, none⟩) h.1 _⟩
  · refine (check_used b w h.cell0).mono ?_
    rintro e w' ⟨rfl, rfl⟩
    exact ⟨rfl, h, Below.refl B _⟩
set_option maxHeartbeats 2000000 in
set_option maxRecDepth 100000 in
theorem write_any (B b : Nat) (bs : List Value) (s : ByteArray) (w : World) (h : Lib.IsBuilder 42 5 B b bs w) (hlen : bs.length + s.size ≤ 140737488355328) (hBw : B ≤ w.heap.size) :
    Calls Tryz.prog 11 #[.pointer (some ⟨b, 0, none⟩), .string s] w fun e w' => e = .returned (.tuple #[.int .i64 s.size, .nilIface]) ∧ (Lib.BuilderAt 42 5 B b (.pointer (some ⟨b, 0, none⟩)) (bs ++ Lib.strCells s) w' ∧ Below B w w') := by
  obtain ⟨i0, hi, hz0, hz1, hz2⟩ := info_parts info5
  go_enter Tryz.func11, Tryz.ntmps11
  go_wp2_with (go_at_call 25; refine (check_any B b bs _ h).mono ?_)
  rintro e w1 ⟨rfl, h1, hb1⟩
  obtain ⟨hB, v, hbk, hown, hne⟩ := h1
  have c0 : w1.cell? ⟨b, 0, none⟩ = some (.pointer (some ⟨b, 0, none⟩)) := by rw [Lib.cell_of_heap hbk]; rfl
  have c1 : w1.cell? ⟨b, 1, none⟩ = some v := by rw [Lib.cell_of_heap hbk]; rfl
  go_wp2_with (at_builtin; refine Lib.wpList_append_own_string _ rfl _ _ 40 9 rfl B 5 i0 Tryz.underlying40 Tryz.underlying9 hi hz0 hz1 hz2 _ _ _ rfl hown s rfl ?c3 ?c4 ?c5 ?_)
  case c3 => unfold maxLen; omega
  case c4 => omega
  case c5 => have := hb1.size; omega
  intro v' w2 hown' hgrow _
  have hlt : b < w1.heap.size := by
    rcases Nat.lt_or_ge b w1.heap.size with h' | h'
    · exact h'
    · simp [Array.getElem?_eq_none h'] at hbk
  have hb2 : w2.heap[b]? = some (.cells #[.pointer (some ⟨b, 0, none⟩), v] 42 (0, 0)) := by
    rw [hgrow.block b hlt (fun e => hne e.symm)]
    exact hbk
  have d0 : w2.cell? ⟨b, 0, none⟩ = some (.pointer (some ⟨b, 0, none⟩)) := by rw [Lib.cell_of_heap hb2]; rfl
  have d1 : w2.cell? ⟨b, 1, none⟩ = some v := by rw [Lib.cell_of_heap hb2]; rfl
  have f1 : w2.frozen? ⟨b, 1, none⟩ = false := Lib.frozen_of_heap hb2 1
  obtain ⟨ao, n', cap, rfl⟩ : ∃ ao n' cap, v' = .slice ao n' cap := by
    rcases hown'.2 with ⟨hv, _⟩ | ⟨g, cap, cur, hv, _⟩
    · exact ⟨_, _, _, hv⟩
    · exact ⟨_, _, _, hv⟩
  go_wp2
  go_ret2
  refine ⟨rfl, ?_, ?_⟩
  · exact Lib.BuilderAt.put (T := 42) (e := 5) hB hb2 (bs' := bs ++ Lib.strCells s) (by simpa [Lib.strCells_length] using hown') (by decide)
  · exact (hb1.grown hgrow (by have := hb1.size; omega) (fun k hk => (hown.lt k hk).1)).setCell (p := ⟨b, 1, none⟩) hB _
theorem strCells_bytes (l : List UInt8) : Lib.strCells ⟨l.toArray⟩ = Lib.byteCells l := by
  simp [Lib.strCells, Lib.byteCells]
theorem write (B b : Nat) (l m : List UInt8) (w : World) (h : IsB B b l w) (hlen : l.length + m.length ≤ 140737488355328) (hBw : B ≤ w.heap.size) :
    Calls Tryz.prog 11 #[.pointer (some ⟨b, 0, none⟩), .string ⟨m.toArray⟩] w fun e w' => e = .returned (.tuple #[.int .i64 m.length, .nilIface]) ∧ IsB B b (l ++ m) w' ∧ Below B w w' := by
  refine (write_any B b (Lib.byteCells l) ⟨m.toArray⟩ w h (by simpa [Lib.byteCells, ByteArray.size] using hlen) hBw).mono ?_
  rintro e w' ⟨rfl, h1, h2⟩
  refine ⟨by simp [ByteArray.size], ?_, h2⟩
  rw [strCells_bytes] at h1
  have : Lib.byteCells (l ++ m) = Lib.byteCells l ++ Lib.byteCells m := by simp [Lib.byteCells]
  show Lib.IsBuilder _ _ _ _ _ _
  rw [this]
  exact .inr h1
end Go.Proofs.YtapdchapjpnceaaGreatDoor.Bld
end
section
set_option linter.unusedSimpArgs false
set_option linter.unusedVariables false
namespace Go.Proofs.YtapdchapjpnceaaGreatDoor.P
open Go.RowKit Go.Lib Go.Shelf Go.Proofs.YtapdchapjpnceaaGreatDoorW.PrintWords Go.Proofs.YtapdchapjpnceaaGreatDoorW.PrintLast Go.Proofs.YtapdchapjpnceaaGreatDoorW.PrintMore Go.Proofs.YtapdchapjpnceaaGreatDoor.U Go.Proofs.YtapdchapjpnceaaGreatDoor.PTh Go.Proofs.YtapdchapjpnceaaGreatDoor.Bld
theorem Len_b (B0 b : Nat) (l : List UInt8) (w : World) (h : IsB B0 b l w) : Calls Tryz.prog 14 #[.pointer (some ⟨b, 0, none⟩)] w fun e w' => e = .returned (.int .i64 (l.length : Int)) ∧ w = w' := by
  refine (Tryz.Builder_Len B0 b (Lib.byteCells l) w h).mono ?_
  rintro e w' ⟨rfl, rfl⟩
  exact ⟨by simp [Lib.byteCells], rfl⟩
theorem isB_below {B0 b : Nat} {l : List UInt8} {w w' : World} (h : IsB B0 b l w) (hb : Below w.heap.size w w') : IsB B0 b l w' := by
  have key : ∀ p, Lib.BuilderAt 42 5 B0 b p (Lib.byteCells l) w → Lib.BuilderAt 42 5 B0 b p (Lib.byteCells l) w' := by
    intro p h
    have hlt := h.lt
    obtain ⟨h1, v, h2, h3, h4⟩ := h
    refine ⟨h1, v, (hb.block _ hlt).trans h2, ?_, h4⟩
    exact h3.kept (row := none) ⟨hb.os, hb.tape, hb.output, hb.size, fun k hk _ => hb.block k hk⟩ (Classical.em _)
  rcases h with h | h
  · exact .inl (key _ h)
  · exact .inr (key _ h)
def printM (l0 : List S43) (l1 : List ByteArray) : ByteArray × Int :=
  if rightM l0 l1 = false then (⟨#[]⟩, 1) else if 16384 < (edgesL 0 l0 ++ defL l1).length then (⟨#[]⟩, 3) else (B (edgesL 0 l0 ++ defL l1), 0)
def okM (l0 : List S43) (l1 : List ByteArray) : Bool := decide (l0.length ≤ 99) && boundN l1 && l0.all boundS
theorem isB_fresh (w : World) : IsB w.heap.size w.heap.size [] (w.alloc (.cells #[.pointer none, .slice none 0 0] 42)) := by
  refine .inl ⟨Nat.le_refl _, .slice none 0 0, heap_alloc_new w _, own_nil _ _ _ _, by simp [Value.ownBlock]⟩
set_option maxRecDepth 100000 in
set_option maxHeartbeats 8000000 in
theorem Print_any (A0 A1 : Option Addr) (c0 c1 : Nat) (l0 : List S43) (l1 : List ByteArray) (w : World) (hr0 : Kd.C k43 w A0 l0.length l0) (hc0 : l0.length ≤ c0) (hr1 : Kd.C Kd.string w A1 l1.length l1) (hc1 : l1.length ≤ c1) (hok : okM l0 l1 = true) :
    Calls Tryz.prog 5 #[.agg #[.slice A0 l0.length c0, .slice A1 l1.length c1]] w fun e w' => e = .returned (.tuple #[.string (printM l0 l1).1, .int .i64 (printM l0 l1).2]) ∧ Below w.heap.size w w' := by
  have hu32 := Tryz.underlying32
  have hu43 := Tryz.underlying43
  simp only [okM, Bool.and_eq_true, decide_eq_true_iff] at hok
  obtain ⟨⟨hn0, hb1⟩, hbs⟩ := hok
  have hn1 : l1.length ≤ 1000 := by simp only [boundN, Bool.and_eq_true, decide_eq_true_iff] at hb1; exact hb1.1
  have hnx : ∀ x ∈ l0, namesS x ≤ 100000 := by
    intro x hx
    have := List.all_eq_true.1 hbs x hx
    simp only [boundS, boundN, Bool.and_eq_true, decide_eq_true_iff] at this
    unfold namesS; omega
  have hR := Lib.hid (fun (W : World) (h : Below w.heap.size w W) => Right_any A0 A1 c0 c1 l0 l1 W (Kd.C_below hr0 h) hc0 (Kd.C_below hr1 h) hc1 (by omega) (by omega) hnx)
  have hC0 := Lib.hid hr0
  have hC1 := Lib.hid hr1
  have hBS := Lib.hid hbs
  have hBN := Lib.hid hb1
  clear hr0 hr1 hbs hb1 hnx
  obtain ⟨r, hr⟩ : ∃ r, rightM l0 l1 = r := ⟨_, rfl⟩
  rw [hr] at hR
  have hBox := Lib.hid ((Below.refl w.heap.size w).alloc (Nat.le_refl _) (.cells #[.slice A0 l0.length c0, .slice A1 l1.length c1] 32))
  have hCell : Hid ((w.alloc (.cells #[.slice A0 l0.length c0, .slice A1 l1.length c1] 32)).heap[w.heap.size]? = some (.cells #[.slice A0 l0.length c0, .slice A1 l1.length c1] 32 (0, 0))) := heap_alloc_new w _
  have hSz : w.heap.size < (w.alloc (.cells #[.slice A0 l0.length c0, .slice A1 l1.length c1] 32)).heap.size := by simp
  go_enter Tryz.func5, Tryz.ntmps5
  go_wp2_with fail
  generalize w.alloc (.cells #[.slice A0 l0.length c0, .slice A1 l1.length c1] 32) = w0 at *
  refine (hR.out _ hBox.out).mono ?_
  rintro e w1 ⟨rfl, hb⟩
  have hB1 := Lib.hid (hBox.out.trans (hb.mono hBox.out.size))
  have hCe1 := Lib.hid ((hb.block _ hSz).trans hCell.out)
  have hSz1 : w.heap.size < w1.heap.size := Nat.lt_of_lt_of_le hSz hb.size
  clear hb hBox hCell hSz hR
  cases r with
  | false =>
    have hp : printM l0 l1 = (⟨#[]⟩, 1) := by rw [printM, hr]; rfl
    go_wp2_with fail
    go_ret2
    rw [hp]
    exact ⟨rfl, hB1.out⟩
  | true =>
    have hB2 := Lib.hid ((Below.refl w1.heap.size w1).alloc (Nat.le_refl _) (.cells #[.pointer none, .slice none 0 0] 42))
    have hIs := Lib.hid (isB_fresh w1)
    have hsz2 : w1.heap.size < (w1.alloc (.cells #[.pointer none, .slice none 0 0] 42)).heap.size := by simp
    obtain ⟨w2, hw2⟩ : ∃ w2, w1.alloc (.cells #[.pointer none, .slice none 0 0] 42) = w2 := ⟨_, rfl⟩
    rw [hw2] at hB2 hIs hsz2
    have hCe2 := Lib.hid ((hB2.out.block _ hSz1).trans hCe1.out)
    have k0 := (cell_of_heap (j := 0) hCe2.out).trans rfl
    go_wp2_with fail
    have hB2w := Lib.hid (hB1.out.trans (hB2.out.mono hB1.out.size))
    have hB1size := hB1.out.size
    clear hB1 hCe1 k0 hw2
    obtain ⟨n, hN⟩ : ∃ n, l0.length = n := ⟨_, rfl⟩
    rw [hN] at hn0 hC0 hCe2 hc0 ⊢
    go_loopg [13] n (fun gk s13 wr => ∃ (i : Nat) (out : List UInt8), s13 = .int .i64 (i : Int) ∧ i + gk = n ∧ Hid (out ++ edgesL i (l0.drop i) = edgesL 0 l0) ∧ out.length ≤ i * 10000000 ∧ Hid (IsB w1.heap.size w1.heap.size out wr) ∧ Hid (Below w1.heap.size w2 wr))
    case atStart => exact ⟨0, [], rfl, Nat.zero_add _, rfl, Nat.zero_le _, hIs, Below.refl _ _⟩
    case round =>
      obtain ⟨i, out, rfl, hik, hO, hol, hIB, hBl⟩ := hrel
      cases gk with
      | zero =>
        obtain rfl : i = n := by omega
        have hlt : decide ((i : Int) < (i : Int)) = false := by simp
        have hbase : Hid (w1.heap.size ≤ wr.heap.size) := Nat.le_trans (Nat.le_of_lt hsz2) hBl.out.size
        have hCe := Lib.hid ((hBl.out.block _ hSz1).trans hCe2.out)
        have k1 := (cell_of_heap (j := 1) hCe.out).trans rfl
        have hfin : Hid (out = edgesL 0 l0) := by
          show _ = _
          have := hO.out
          rw [List.drop_of_length_le (by omega), edgesL, List.append_nil] at this
          exact this
        have hC1r := Lib.hid (Kd.C_below hC1.out (hB2w.out.trans (hBl.out.mono hB1size)))
        by_cases hz : l1 = []
        · subst hz
          have hd0 : decide ((0 : Int) < (0 : Int)) = false := rfl
          have hpm : Hid (printM l0 [] = if 16384 < out.length then (⟨#[]⟩, 3) else (B out, 0)) := by
            show _ = _
            rw [printM, hr, hfin.out]
            simp [defL]
          have hLn := Lib.hid (Len_b w1.heap.size w1.heap.size out wr hIB.out)
          have hSt := Lib.hid (Tryz.Builder_String_any w1.heap.size w1.heap.size out wr hIB.out hbase.out)
          go_wp2_with fail
          refine hLn.out.mono ?_
          rintro e w3 ⟨rfl, rfl⟩
          by_cases hbig : 16384 < out.length
          · have hdb : decide ((16384 : Int) < (out.length : Int)) = true := by rw [decide_eq_true_iff]; omega
            rw [if_pos hbig] at hpm
            go_wp2_with fail
            go_ret2
            rw [hpm.out]
            exact ⟨rfl, hB2w.out.trans (hBl.out.mono hB1size)⟩
          · have hdb : decide ((16384 : Int) < (out.length : Int)) = false := by rw [decide_eq_false_iff_not]; omega
            rw [if_neg hbig] at hpm
            go_wp2_with fail
            refine hSt.out.mono ?_
            rintro e w3 ⟨rfl, hb3⟩
            go_wp2_with fail
            go_ret2
            rw [hpm.out]
            exact ⟨rfl, hB2w.out.trans ((hBl.out.trans hb3).mono hB1size)⟩
        · have hp1 : 0 < l1.length := List.length_pos_iff.2 hz
          have hd0 : decide ((0 : Int) < (l1.length : Int)) = true := by rw [decide_eq_true_iff]; omega
          have hlen := row_len [100, 101, 102, 97, 117, 108, 116] l1 hBN.out
          simp only [List.length_cons, List.length_nil] at hlen
          obtain ⟨rw1, hrw⟩ : ∃ rw1, rowL [100, 101, 102, 97, 117, 108, 116] (l1.map toL) = rw1 := ⟨_, rfl⟩
          have hRow := Lib.hid (print_row.calls (B [100, 101, 102, 97, 117, 108, 116]) A1 c1 l1 _ wr hC1r.out hc1 (row_f [100, 101, 102, 97, 117, 108, 116] l1 (by simp) hBN.out))
          rw [hrw] at hRow hlen
          have hpm : Hid (printM l0 l1 = if 16384 < (out ++ (rw1 ++ [10])).length then (⟨#[]⟩, 3) else (B (out ++ (rw1 ++ [10])), 0)) := by
            show _ = _
            rw [printM, hr, hfin.out, defL, if_neg hz, hrw]
            simp
          have hsum : (9223372036854775806 < rw1.length) = False := eq_false (by omega)
          have hsum2 : (9223372036854775807 < rw1.length + 1) = False := eq_false (by omega)
          have hsum3 : (9223372036854775806 < (B rw1).size) = False := by rw [B_size]; exact hsum
          have hsum4 : (9223372036854775807 < (B rw1).size + 1) = False := by rw [B_size]; exact hsum2
          go_wp2_with fail
          refine hRow.out.mono ?_
          rintro e w3 ⟨rfl, hb3⟩
          have hI3 := Lib.hid (isB_below hIB.out hb3)
          have hBl3 := Lib.hid (hBl.out.trans (hb3.mono hbase.out))
          clear hb3 hRow
          have hWr := Lib.hid (write w1.heap.size w1.heap.size out (rw1 ++ [10]) w3 hI3.out (by simp; omega) (Nat.le_trans (Nat.le_of_lt hsz2) hBl3.out.size))
          have hcat : B rw1 ++ (⟨#[10]⟩ : ByteArray) = ⟨(rw1 ++ [10]).toArray⟩ := (B_app rw1 [10]).symm
          clear hI3
          go_wp2_with fail
          refine hWr.out.mono ?_
          rintro e w4 ⟨rfl, hI4, hb4⟩
          have hI := Lib.hid hI4
          have hBl4 := Lib.hid (hBl3.out.trans hb4)
          have hbase4 : Hid (w1.heap.size ≤ w4.heap.size) := Nat.le_trans (Nat.le_of_lt hsz2) hBl4.out.size
          clear hI4 hb4 hWr hBl3
          obtain ⟨tot, htot⟩ : ∃ tot, out ++ (rw1 ++ [10]) = tot := ⟨_, rfl⟩
          rw [htot] at hI hpm
          have hLn := Lib.hid (Len_b w1.heap.size w1.heap.size tot w4 hI.out)
          have hSt := Lib.hid (Tryz.Builder_String_any w1.heap.size w1.heap.size tot w4 hI.out hbase4.out)
          go_wp2_with fail
          refine hLn.out.mono ?_
          rintro e w5 ⟨rfl, rfl⟩
          by_cases hbig : 16384 < tot.length
          · have hdb : decide ((16384 : Int) < (tot.length : Int)) = true := by rw [decide_eq_true_iff]; omega
            rw [if_pos hbig] at hpm
            go_wp2_with fail
            go_ret2
            rw [hpm.out]
            exact ⟨rfl, hB2w.out.trans (hBl4.out.mono hB1size)⟩
          · have hdb : decide ((16384 : Int) < (tot.length : Int)) = false := by rw [decide_eq_false_iff_not]; omega
            rw [if_neg hbig] at hpm
            go_wp2_with fail
            refine hSt.out.mono ?_
            rintro e w5 ⟨rfl, hb5⟩
            go_wp2_with fail
            go_ret2
            rw [hpm.out]
            exact ⟨rfl, hB2w.out.trans ((hBl4.out.trans hb5).mono hB1size)⟩
      | succ gk =>
        have hin : i < l0.length := by omega
        have hlt : decide ((i : Int) < (n : Int)) = true := by rw [decide_eq_true_iff]; omega
        have i1 : (0 : Int) ≤ (i : Int) := by omega
        have i2 : (i : Int) < (n : Int) := by omega
        have hBw := Lib.hid (hB2w.out.trans (hBl.out.mono hB1size))
        have hCw : Kd.C k43 wr A0 n l0 := Kd.C_below hC0.out hBw.out
        obtain ⟨ad, a0, d0, a1, d1, a2, d2, a3, d3, hA', q0, q1, q2, q3, q4, q5, m0, g0, m1, g1, m2, g2, m3, g3⟩ := at_T43 hCw (i : Int) i1 i2
        subst hA'
        have hrd : rd_T43 l0 (i : Int) = l0[i] := by simp [rd_T43, List.getD_eq_getElem?_getD, List.getElem?_eq_getElem hin]
        rw [Int.toNat_natCast] at q0 q1 q2 q3 q4 q5
        rw [hrd] at q0 q1 q2 q3 q4 q5 m0 g0 m1 g1 m2 g2 m3 g3
        have hdrop : l0.drop i = l0[i] :: l0.drop (i + 1) := List.drop_eq_getElem_cons hin
        have hO2 : Hid ((out ++ edgeL i l0[i]) ++ edgesL (i + 1) (l0.drop (i + 1)) = edgesL 0 l0) := by
          show _ = _
          have := hO.out
          rw [hdrop, edgesL, ← List.append_assoc] at this
          exact this
        have hbx := List.all_eq_true.1 hBS.out l0[i] (List.getElem_mem hin)
        generalize l0[i] = x at *
        have hel := edge_len i x (by omega) hbx
        have hol2 : (out ++ edgeL i x).length ≤ (i + 1) * 10000000 := by rw [List.length_append]; omega
        have hEd := Lib.hid (fun (W : World) (h : Below wr.heap.size wr W) => print_edge.calls 1 (i : Int) a0 d0 x.f0 a1 d1 x.f1 a2 d2 x.f2 a3 d3 x.f3 x.f4 x.f5 _ W (Kd.C_below g0 h) m0 (Kd.C_below g1 h) m1 (Kd.C_below g2 h) m2 (Kd.C_below g3 h) m3 (edge_f i x (by omega) hbx))
        have hBa := Lib.hid ((Below.refl wr.heap.size wr).alloc (Nat.le_refl _) (.cells #[.slice a0 x.f0.length d0, .slice a1 x.f1.length d1, .slice a2 x.f2.length d2, .slice a3 x.f3.length d3, .string x.f4, .string x.f5] 43))
        clear g0 m0 g1 m1 g2 m2 g3 m3 hCw hrd hdrop hO
        go_wp2_with fail
        refine (hEd.out _ hBa.out).mono ?_
        rintro e w3 ⟨rfl, hb3⟩
        have hB3 := Lib.hid (hBa.out.trans (hb3.mono hBa.out.size))
        clear hb3 hEd hBa
        have hI3 := Lib.hid (isB_below hIB.out hB3.out)
        have hBl3 := Lib.hid (hBl.out.trans (hB3.out.mono (Nat.le_trans (Nat.le_of_lt hsz2) hBl.out.size)))
        have hWr := Lib.hid (write w1.heap.size w1.heap.size out (edgeL i x) w3 hI3.out (by omega) (Nat.le_trans (Nat.le_of_lt hsz2) hBl3.out.size))
        clear hI3 hIB hB3 hBw
        go_wp2_with fail
        refine hWr.out.mono ?_
        rintro e w4 ⟨rfl, hI4, hb4⟩
        have hI := Lib.hid hI4
        have hBl4 := Lib.hid (hBl3.out.trans hb4)
        clear hI4 hb4 hWr hBl3
        go_wp2_with fail
        go_roundg gk
        case measure => omega
        case rel => exact ⟨i + 1, out ++ edgeL i x, by first | rfl | simp, by omega, hO2, hol2, hI, hBl4⟩
def print_Print.f (l0 : List S43) (l1 : List ByteArray) : Option (ByteArray × Int) := if okM l0 l1 = true then some (printM l0 l1) else none
theorem print_Print.calls (A0 : Option Addr) (c0 : Nat) (l0 : List S43) (A1 : Option Addr) (c1 : Nat) (l1 : List ByteArray) (r0 : ByteArray) (r1 : Int) (w : World) (hr0 : Kd.C k43 w A0 l0.length l0) (hc0 : l0.length ≤ c0) (hr1 : Kd.C Kd.string w A1 l1.length l1) (hc1 : l1.length ≤ c1) (h : print_Print.f l0 l1 = some (r0, r1)) :
    Calls Tryz.prog 5 #[.agg #[.slice A0 l0.length c0, .slice A1 l1.length c1]] w fun e w' => e = .returned (.tuple #[.string r0, .int .i64 r1]) ∧ Below w.heap.size w w' := by
  unfold print_Print.f at h
  split at h
  · rename_i hc
    have h' := Option.some.inj h
    have := Print_any A0 A1 c0 c1 l0 l1 w hr0 hc0 hr1 hc1 hc
    rwa [h'] at this
  · cases h
end Go.Proofs.YtapdchapjpnceaaGreatDoor.P
end
section
namespace Go.Proofs.YtapdchapjpnceaaGreatDoor.P
open Go.RowKit Go.Proofs.YtapdchapjpnceaaGreatDoorW.PrintWords Go.Proofs.YtapdchapjpnceaaGreatDoorW.PrintLast Go.Proofs.YtapdchapjpnceaaGreatDoorW.PrintMore
attribute [local go_sem] max2_int min2_int max_two min_two max_three min_three max_four min_four
set_option linter.unusedVariables false
set_option linter.unusedSimpArgs false
def bellowsref03_plain.f (a0 : Int) : Option (Bool) := if a0 ≥ 97 then (if a0 ≤ 122 then (some true) else (if a0 ≥ 65 then (if a0 ≤ 90 then (some true) else (if a0 ≥ 48 then (if a0 ≤ 57 then (some true) else (if a0 = 46 then (some true) else (if a0 = 95 then (some true) else (if a0 = 45 then (some true) else (if a0 = 43 then (some true) else (some (a0 == 47))))))) else (if a0 = 46 then (some true) else (if a0 = 95 then (some true) else (if a0 = 45 then (some true) else (if a0 = 43 then (some true) else (some (a0 == 47)))))))) else (if a0 ≥ 48 then (if a0 ≤ 57 then (some true) else (if a0 = 46 then (some true) else (if a0 = 95 then (some true) else (if a0 = 45 then (some true) else (if a0 = 43 then (some true) else (some (a0 == 47))))))) else (if a0 = 46 then (some true) else (if a0 = 95 then (some true) else (if a0 = 45 then (some true) else (if a0 = 43 then (some true) else (some (a0 == 47))))))))) else (if a0 ≥ 65 then (if a0 ≤ 90 then (some true) else (if a0 ≥ 48 then (if a0 ≤ 57 then (some true) else (if a0 = 46 then (some true) else (if a0 = 95 then (some true) else (if a0 = 45 then (some true) else (if a0 = 43 then (some true) else (some (a0 == 47))))))) else (if a0 = 46 then (some true) else (if a0 = 95 then (some true) else (if a0 = 45 then (some true) else (if a0 = 43 then (some true) else (some (a0 == 47)))))))) else (if a0 ≥ 48 then (if a0 ≤ 57 then (some true) else (if a0 = 46 then (some true) else (if a0 = 95 then (some true) else (if a0 = 45 then (some true) else (if a0 = 43 then (some true) else (some (a0 == 47))))))) else (if a0 = 46 then (some true) else (if a0 = 95 then (some true) else (if a0 = 45 then (some true) else (if a0 = 43 then (some true) else (some (a0 == 47))))))))
set_option maxHeartbeats 8000000 in
set_option maxRecDepth 100000 in
theorem bellowsref03_plain.calls (a0 : Int) (r : Bool) (w : World) (h : bellowsref03_plain.f a0 = some r) :
    Calls Tryz.prog 41 #[.int .u8 a0] w fun e w' => e = .returned (.bool r) ∧ Drawn0 w w' := by
  have H : (if a0 ≥ 97 then (if a0 ≤ 122 then (some true) else (if a0 ≥ 65 then (if a0 ≤ 90 then (some true) else (if a0 ≥ 48 then (if a0 ≤ 57 then (some true) else (if a0 = 46 then (some true) else (if a0 = 95 then (some true) else (if a0 = 45 then (some true) else (if a0 = 43 then (some true) else (some (a0 == 47))))))) else (if a0 = 46 then (some true) else (if a0 = 95 then (some true) else (if a0 = 45 then (some true) else (if a0 = 43 then (some true) else (some (a0 == 47)))))))) else (if a0 ≥ 48 then (if a0 ≤ 57 then (some true) else (if a0 = 46 then (some true) else (if a0 = 95 then (some true) else (if a0 = 45 then (some true) else (if a0 = 43 then (some true) else (some (a0 == 47))))))) else (if a0 = 46 then (some true) else (if a0 = 95 then (some true) else (if a0 = 45 then (some true) else (if a0 = 43 then (some true) else (some (a0 == 47))))))))) else (if a0 ≥ 65 then (if a0 ≤ 90 then (some true) else (if a0 ≥ 48 then (if a0 ≤ 57 then (some true) else (if a0 = 46 then (some true) else (if a0 = 95 then (some true) else (if a0 = 45 then (some true) else (if a0 = 43 then (some true) else (some (a0 == 47))))))) else (if a0 = 46 then (some true) else (if a0 = 95 then (some true) else (if a0 = 45 then (some true) else (if a0 = 43 then (some true) else (some (a0 == 47)))))))) else (if a0 ≥ 48 then (if a0 ≤ 57 then (some true) else (if a0 = 46 then (some true) else (if a0 = 95 then (some true) else (if a0 = 45 then (some true) else (if a0 = 43 then (some true) else (some (a0 == 47))))))) else (if a0 = 46 then (some true) else (if a0 = 95 then (some true) else (if a0 = 45 then (some true) else (if a0 = 43 then (some true) else (some (a0 == 47))))))))) = some r := h
  clear h
  by_cases c2 : a0 ≥ 97
  · rw [if_pos c2] at H
    have c2b0 : decide (97 ≤ a0) = true := decide_eq_true c2
    clear c2
    by_cases c3 : a0 ≤ 122
    · rw [if_pos c3] at H
      have c3b0 : decide (a0 ≤ 122) = true := decide_eq_true c3
      clear c3
      obtain rfl := Option.some.inj H
      go_enter Tryz.func41, Tryz.ntmps41
      go_wp2
      go_ret
      exact ⟨by first | rfl | (simp; done) | (simp [*]; done), by repeat (first | exact Drawn0.refl _ | apply Drawn0.step)⟩
    · rw [if_neg c3] at H
      have c3b0 : decide (a0 ≤ 122) = false := decide_eq_false c3
      clear c3
      by_cases c4 : a0 ≥ 65
      · rw [if_pos c4] at H
        have c4b0 : decide (65 ≤ a0) = true := decide_eq_true c4
        clear c4
        by_cases c5 : a0 ≤ 90
        · rw [if_pos c5] at H
          have c5b0 : decide (a0 ≤ 90) = true := decide_eq_true c5
          clear c5
          obtain rfl := Option.some.inj H
          go_enter Tryz.func41, Tryz.ntmps41
          go_wp2
          go_ret
          exact ⟨by first | rfl | (simp; done) | (simp [*]; done), by repeat (first | exact Drawn0.refl _ | apply Drawn0.step)⟩
        · rw [if_neg c5] at H
          have c5b0 : decide (a0 ≤ 90) = false := decide_eq_false c5
          clear c5
          by_cases c6 : a0 ≥ 48
          · rw [if_pos c6] at H
            have c6b0 : decide (48 ≤ a0) = true := decide_eq_true c6
            clear c6
            by_cases c7 : a0 ≤ 57
            · rw [if_pos c7] at H
              have c7b0 : decide (a0 ≤ 57) = true := decide_eq_true c7
              clear c7
              obtain rfl := Option.some.inj H
              go_enter Tryz.func41, Tryz.ntmps41
              go_wp2
              go_ret
              exact ⟨by first | rfl | (simp; done) | (simp [*]; done), by repeat (first | exact Drawn0.refl _ | apply Drawn0.step)⟩
            · rw [if_neg c7] at H
              have c7b0 : decide (a0 ≤ 57) = false := decide_eq_false c7
              clear c7
              by_cases c8 : a0 = 46
              · rw [if_pos c8] at H
                have c8b0 : (a0 == 46) = true := beq_iff_eq.mpr c8
                have c8b1 : (a0 != 46) = false := bne_eq_false_iff_eq.mpr c8
                clear c8
                obtain rfl := Option.some.inj H
                go_enter Tryz.func41, Tryz.ntmps41
                go_wp2
                go_ret
                exact ⟨by first | rfl | (simp; done) | (simp [*]; done), by repeat (first | exact Drawn0.refl _ | apply Drawn0.step)⟩
              · rw [if_neg c8] at H
                have c8b0 : (a0 == 46) = false := beq_eq_false_iff_ne.mpr c8
                have c8b1 : (a0 != 46) = true := bne_iff_ne.mpr c8
                by_cases c9 : a0 = 95
                · rw [if_pos c9] at H
                  have c9b0 : (a0 == 95) = true := beq_iff_eq.mpr c9
                  have c9b1 : (a0 != 95) = false := bne_eq_false_iff_eq.mpr c9
                  clear c9
                  obtain rfl := Option.some.inj H
                  go_enter Tryz.func41, Tryz.ntmps41
                  go_wp2
                  go_ret
                  exact ⟨by first | rfl | (simp; done) | (simp [*]; done), by repeat (first | exact Drawn0.refl _ | apply Drawn0.step)⟩
                · rw [if_neg c9] at H
                  have c9b0 : (a0 == 95) = false := beq_eq_false_iff_ne.mpr c9
                  have c9b1 : (a0 != 95) = true := bne_iff_ne.mpr c9
                  by_cases c10 : a0 = 45
                  · rw [if_pos c10] at H
                    have c10b0 : (a0 == 45) = true := beq_iff_eq.mpr c10
                    have c10b1 : (a0 != 45) = false := bne_eq_false_iff_eq.mpr c10
                    clear c10
                    obtain rfl := Option.some.inj H
                    go_enter Tryz.func41, Tryz.ntmps41
                    go_wp2
                    go_ret
                    exact ⟨by first | rfl | (simp; done) | (simp [*]; done), by repeat (first | exact Drawn0.refl _ | apply Drawn0.step)⟩
                  · rw [if_neg c10] at H
                    have c10b0 : (a0 == 45) = false := beq_eq_false_iff_ne.mpr c10
                    have c10b1 : (a0 != 45) = true := bne_iff_ne.mpr c10
                    by_cases c11 : a0 = 43
                    · rw [if_pos c11] at H
                      have c11b0 : (a0 == 43) = true := beq_iff_eq.mpr c11
                      have c11b1 : (a0 != 43) = false := bne_eq_false_iff_eq.mpr c11
                      clear c11
                      obtain rfl := Option.some.inj H
                      go_enter Tryz.func41, Tryz.ntmps41
                      go_wp2
                      go_ret
                      exact ⟨by first | rfl | (simp; done) | (simp [*]; done), by repeat (first | exact Drawn0.refl _ | apply Drawn0.step)⟩
                    · rw [if_neg c11] at H
                      have c11b0 : (a0 == 43) = false := beq_eq_false_iff_ne.mpr c11
                      have c11b1 : (a0 != 43) = true := bne_iff_ne.mpr c11
                      obtain rfl := Option.some.inj H
                      go_enter Tryz.func41, Tryz.ntmps41
                      go_wp2
                      go_ret
                      exact ⟨by first | rfl | (simp; done) | (simp [*]; done), by repeat (first | exact Drawn0.refl _ | apply Drawn0.step)⟩
          · rw [if_neg c6] at H
            have c6b0 : decide (48 ≤ a0) = false := decide_eq_false c6
            clear c6
            by_cases c12 : a0 = 46
            · rw [if_pos c12] at H
              have c12b0 : (a0 == 46) = true := beq_iff_eq.mpr c12
              have c12b1 : (a0 != 46) = false := bne_eq_false_iff_eq.mpr c12
              clear c12
              obtain rfl := Option.some.inj H
              go_enter Tryz.func41, Tryz.ntmps41
              go_wp2
              go_ret
              exact ⟨by first | rfl | (simp; done) | (simp [*]; done), by repeat (first | exact Drawn0.refl _ | apply Drawn0.step)⟩
            · rw [if_neg c12] at H
              have c12b0 : (a0 == 46) = false := beq_eq_false_iff_ne.mpr c12
              have c12b1 : (a0 != 46) = true := bne_iff_ne.mpr c12
              by_cases c13 : a0 = 95
              · rw [if_pos c13] at H
                have c13b0 : (a0 == 95) = true := beq_iff_eq.mpr c13
                have c13b1 : (a0 != 95) = false := bne_eq_false_iff_eq.mpr c13
                clear c13
                obtain rfl := Option.some.inj H
                go_enter Tryz.func41, Tryz.ntmps41
                go_wp2
                go_ret
                exact ⟨by first | rfl | (simp; done) | (simp [*]; done), by repeat (first | exact Drawn0.refl _ | apply Drawn0.step)⟩
              · rw [if_neg c13] at H
                have c13b0 : (a0 == 95) = false := beq_eq_false_iff_ne.mpr c13
                have c13b1 : (a0 != 95) = true := bne_iff_ne.mpr c13
                by_cases c14 : a0 = 45
                · rw [if_pos c14] at H
                  have c14b0 : (a0 == 45) = true := beq_iff_eq.mpr c14
                  have c14b1 : (a0 != 45) = false := bne_eq_false_iff_eq.mpr c14
                  clear c14
                  obtain rfl := Option.some.inj H
                  go_enter Tryz.func41, Tryz.ntmps41
                  go_wp2
                  go_ret
                  exact ⟨by first | rfl | (simp; done) | (simp [*]; done), by repeat (first | exact Drawn0.refl _ | apply Drawn0.step)⟩
                · rw [if_neg c14] at H
                  have c14b0 : (a0 == 45) = false := beq_eq_false_iff_ne.mpr c14
                  have c14b1 : (a0 != 45) = true := bne_iff_ne.mpr c14
                  by_cases c15 : a0 = 43
                  · rw [if_pos c15] at H
                    have c15b0 : (a0 == 43) = true := beq_iff_eq.mpr c15
                    have c15b1 : (a0 != 43) = false := bne_eq_false_iff_eq.mpr c15
                    clear c15
                    obtain rfl := Option.some.inj H
                    go_enter Tryz.func41, Tryz.ntmps41
                    go_wp2
                    go_ret
                    exact ⟨by first | rfl | (simp; done) | (simp [*]; done), by repeat (first | exact Drawn0.refl _ | apply Drawn0.step)⟩
                  · rw [if_neg c15] at H
                    have c15b0 : (a0 == 43) = false := beq_eq_false_iff_ne.mpr c15
                    have c15b1 : (a0 != 43) = true := bne_iff_ne.mpr c15
                    obtain rfl := Option.some.inj H
                    go_enter Tryz.func41, Tryz.ntmps41
                    go_wp2
                    go_ret
                    exact ⟨by first | rfl | (simp; done) | (simp [*]; done), by repeat (first | exact Drawn0.refl _ | apply Drawn0.step)⟩
      · rw [if_neg c4] at H
        have c4b0 : decide (65 ≤ a0) = false := decide_eq_false c4
        clear c4
        by_cases c16 : a0 ≥ 48
        · rw [if_pos c16] at H
          have c16b0 : decide (48 ≤ a0) = true := decide_eq_true c16
          clear c16
          by_cases c17 : a0 ≤ 57
          · rw [if_pos c17] at H
            have c17b0 : decide (a0 ≤ 57) = true := decide_eq_true c17
            clear c17
            obtain rfl := Option.some.inj H
            go_enter Tryz.func41, Tryz.ntmps41
            go_wp2
            go_ret
            exact ⟨by first | rfl | (simp; done) | (simp [*]; done), by repeat (first | exact Drawn0.refl _ | apply Drawn0.step)⟩
          · rw [if_neg c17] at H
            have c17b0 : decide (a0 ≤ 57) = false := decide_eq_false c17
            clear c17
            by_cases c18 : a0 = 46
            · rw [if_pos c18] at H
              have c18b0 : (a0 == 46) = true := beq_iff_eq.mpr c18
              have c18b1 : (a0 != 46) = false := bne_eq_false_iff_eq.mpr c18
              clear c18
              obtain rfl := Option.some.inj H
              go_enter Tryz.func41, Tryz.ntmps41
              go_wp2
              go_ret
              exact ⟨by first | rfl | (simp; done) | (simp [*]; done), by repeat (first | exact Drawn0.refl _ | apply Drawn0.step)⟩
            · rw [if_neg c18] at H
              have c18b0 : (a0 == 46) = false := beq_eq_false_iff_ne.mpr c18
              have c18b1 : (a0 != 46) = true := bne_iff_ne.mpr c18
              by_cases c19 : a0 = 95
              · rw [if_pos c19] at H
                have c19b0 : (a0 == 95) = true := beq_iff_eq.mpr c19
                have c19b1 : (a0 != 95) = false := bne_eq_false_iff_eq.mpr c19
                clear c19
                obtain rfl := Option.some.inj H
                go_enter Tryz.func41, Tryz.ntmps41
                go_wp2
                go_ret
                exact ⟨by first | rfl | (simp; done) | (simp [*]; done), by repeat (first | exact Drawn0.refl _ | apply Drawn0.step)⟩
              · rw [if_neg c19] at H
                have c19b0 : (a0 == 95) = false := beq_eq_false_iff_ne.mpr c19
                have c19b1 : (a0 != 95) = true := bne_iff_ne.mpr c19
                by_cases c20 : a0 = 45
                · rw [if_pos c20] at H
                  have c20b0 : (a0 == 45) = true := beq_iff_eq.mpr c20
                  have c20b1 : (a0 != 45) = false := bne_eq_false_iff_eq.mpr c20
                  clear c20
                  obtain rfl := Option.some.inj H
                  go_enter Tryz.func41, Tryz.ntmps41
                  go_wp2
                  go_ret
                  exact ⟨by first | rfl | (simp; done) | (simp [*]; done), by repeat (first | exact Drawn0.refl _ | apply Drawn0.step)⟩
                · rw [if_neg c20] at H
                  have c20b0 : (a0 == 45) = false := beq_eq_false_iff_ne.mpr c20
                  have c20b1 : (a0 != 45) = true := bne_iff_ne.mpr c20
                  by_cases c21 : a0 = 43
                  · rw [if_pos c21] at H
                    have c21b0 : (a0 == 43) = true := beq_iff_eq.mpr c21
                    have c21b1 : (a0 != 43) = false := bne_eq_false_iff_eq.mpr c21
                    clear c21
                    obtain rfl := Option.some.inj H
                    go_enter Tryz.func41, Tryz.ntmps41
                    go_wp2
                    go_ret
                    exact ⟨by first | rfl | (simp; done) | (simp [*]; done), by repeat (first | exact Drawn0.refl _ | apply Drawn0.step)⟩
                  · rw [if_neg c21] at H
                    have c21b0 : (a0 == 43) = false := beq_eq_false_iff_ne.mpr c21
                    have c21b1 : (a0 != 43) = true := bne_iff_ne.mpr c21
                    obtain rfl := Option.some.inj H
                    go_enter Tryz.func41, Tryz.ntmps41
                    go_wp2
                    go_ret
                    exact ⟨by first | rfl | (simp; done) | (simp [*]; done), by repeat (first | exact Drawn0.refl _ | apply Drawn0.step)⟩
        · rw [if_neg c16] at H
          have c16b0 : decide (48 ≤ a0) = false := decide_eq_false c16
          clear c16
          by_cases c22 : a0 = 46
          · rw [if_pos c22] at H
            have c22b0 : (a0 == 46) = true := beq_iff_eq.mpr c22
            have c22b1 : (a0 != 46) = false := bne_eq_false_iff_eq.mpr c22
            clear c22
            obtain rfl := Option.some.inj H
            go_enter Tryz.func41, Tryz.ntmps41
            go_wp2
            go_ret
            exact ⟨by first | rfl | (simp; done) | (simp [*]; done), by repeat (first | exact Drawn0.refl _ | apply Drawn0.step)⟩
          · rw [if_neg c22] at H
            have c22b0 : (a0 == 46) = false := beq_eq_false_iff_ne.mpr c22
            have c22b1 : (a0 != 46) = true := bne_iff_ne.mpr c22
            by_cases c23 : a0 = 95
            · rw [if_pos c23] at H
              have c23b0 : (a0 == 95) = true := beq_iff_eq.mpr c23
              have c23b1 : (a0 != 95) = false := bne_eq_false_iff_eq.mpr c23
              clear c23
              obtain rfl := Option.some.inj H
              go_enter Tryz.func41, Tryz.ntmps41
              go_wp2
              go_ret
              exact ⟨by first | rfl | (simp; done) | (simp [*]; done), by repeat (first | exact Drawn0.refl _ | apply Drawn0.step)⟩
            · rw [if_neg c23] at H
              have c23b0 : (a0 == 95) = false := beq_eq_false_iff_ne.mpr c23
              have c23b1 : (a0 != 95) = true := bne_iff_ne.mpr c23
              by_cases c24 : a0 = 45
              · rw [if_pos c24] at H
                have c24b0 : (a0 == 45) = true := beq_iff_eq.mpr c24
                have c24b1 : (a0 != 45) = false := bne_eq_false_iff_eq.mpr c24
                clear c24
                obtain rfl := Option.some.inj H
                go_enter Tryz.func41, Tryz.ntmps41
                go_wp2
                go_ret
                exact ⟨by first | rfl | (simp; done) | (simp [*]; done), by repeat (first | exact Drawn0.refl _ | apply Drawn0.step)⟩
              · rw [if_neg c24] at H
                have c24b0 : (a0 == 45) = false := beq_eq_false_iff_ne.mpr c24
                have c24b1 : (a0 != 45) = true := bne_iff_ne.mpr c24
                by_cases c25 : a0 = 43
                · rw [if_pos c25] at H
                  have c25b0 : (a0 == 43) = true := beq_iff_eq.mpr c25
                  have c25b1 : (a0 != 43) = false := bne_eq_false_iff_eq.mpr c25
                  clear c25
                  obtain rfl := Option.some.inj H
                  go_enter Tryz.func41, Tryz.ntmps41
                  go_wp2
                  go_ret
                  exact ⟨by first | rfl | (simp; done) | (simp [*]; done), by repeat (first | exact Drawn0.refl _ | apply Drawn0.step)⟩
                · rw [if_neg c25] at H
                  have c25b0 : (a0 == 43) = false := beq_eq_false_iff_ne.mpr c25
                  have c25b1 : (a0 != 43) = true := bne_iff_ne.mpr c25
                  obtain rfl := Option.some.inj H
                  go_enter Tryz.func41, Tryz.ntmps41
                  go_wp2
                  go_ret
                  exact ⟨by first | rfl | (simp; done) | (simp [*]; done), by repeat (first | exact Drawn0.refl _ | apply Drawn0.step)⟩
  · rw [if_neg c2] at H
    have c2b0 : decide (97 ≤ a0) = false := decide_eq_false c2
    clear c2
    by_cases c26 : a0 ≥ 65
    · rw [if_pos c26] at H
      have c26b0 : decide (65 ≤ a0) = true := decide_eq_true c26
      clear c26
      by_cases c27 : a0 ≤ 90
      · rw [if_pos c27] at H
        have c27b0 : decide (a0 ≤ 90) = true := decide_eq_true c27
        clear c27
        obtain rfl := Option.some.inj H
        go_enter Tryz.func41, Tryz.ntmps41
        go_wp2
        go_ret
        exact ⟨by first | rfl | (simp; done) | (simp [*]; done), by repeat (first | exact Drawn0.refl _ | apply Drawn0.step)⟩
      · rw [if_neg c27] at H
        have c27b0 : decide (a0 ≤ 90) = false := decide_eq_false c27
        clear c27
        by_cases c28 : a0 ≥ 48
        · rw [if_pos c28] at H
          have c28b0 : decide (48 ≤ a0) = true := decide_eq_true c28
          clear c28
          by_cases c29 : a0 ≤ 57
          · rw [if_pos c29] at H
            have c29b0 : decide (a0 ≤ 57) = true := decide_eq_true c29
            clear c29
            obtain rfl := Option.some.inj H
            go_enter Tryz.func41, Tryz.ntmps41
            go_wp2
            go_ret
            exact ⟨by first | rfl | (simp; done) | (simp [*]; done), by repeat (first | exact Drawn0.refl _ | apply Drawn0.step)⟩
          · rw [if_neg c29] at H
            have c29b0 : decide (a0 ≤ 57) = false := decide_eq_false c29
            clear c29
            by_cases c30 : a0 = 46
            · rw [if_pos c30] at H
              have c30b0 : (a0 == 46) = true := beq_iff_eq.mpr c30
              have c30b1 : (a0 != 46) = false := bne_eq_false_iff_eq.mpr c30
              clear c30
              obtain rfl := Option.some.inj H
              go_enter Tryz.func41, Tryz.ntmps41
              go_wp2
              go_ret
              exact ⟨by first | rfl | (simp; done) | (simp [*]; done), by repeat (first | exact Drawn0.refl _ | apply Drawn0.step)⟩
            · rw [if_neg c30] at H
              have c30b0 : (a0 == 46) = false := beq_eq_false_iff_ne.mpr c30
              have c30b1 : (a0 != 46) = true := bne_iff_ne.mpr c30
              by_cases c31 : a0 = 95
              · rw [if_pos c31] at H
                have c31b0 : (a0 == 95) = true := beq_iff_eq.mpr c31
                have c31b1 : (a0 != 95) = false := bne_eq_false_iff_eq.mpr c31
                clear c31
                obtain rfl := Option.some.inj H
                go_enter Tryz.func41, Tryz.ntmps41
                go_wp2
                go_ret
                exact ⟨by first | rfl | (simp; done) | (simp [*]; done), by repeat (first | exact Drawn0.refl _ | apply Drawn0.step)⟩
              · rw [if_neg c31] at H
                have c31b0 : (a0 == 95) = false := beq_eq_false_iff_ne.mpr c31
                have c31b1 : (a0 != 95) = true := bne_iff_ne.mpr c31
                by_cases c32 : a0 = 45
                · rw [if_pos c32] at H
                  have c32b0 : (a0 == 45) = true := beq_iff_eq.mpr c32
                  have c32b1 : (a0 != 45) = false := bne_eq_false_iff_eq.mpr c32
                  clear c32
                  obtain rfl := Option.some.inj H
                  go_enter Tryz.func41, Tryz.ntmps41
                  go_wp2
                  go_ret
                  exact ⟨by first | rfl | (simp; done) | (simp [*]; done), by repeat (first | exact Drawn0.refl _ | apply Drawn0.step)⟩
                · rw [if_neg c32] at H
                  have c32b0 : (a0 == 45) = false := beq_eq_false_iff_ne.mpr c32
                  have c32b1 : (a0 != 45) = true := bne_iff_ne.mpr c32
                  by_cases c33 : a0 = 43
                  · rw [if_pos c33] at H
                    have c33b0 : (a0 == 43) = true := beq_iff_eq.mpr c33
                    have c33b1 : (a0 != 43) = false := bne_eq_false_iff_eq.mpr c33
                    clear c33
                    obtain rfl := Option.some.inj H
                    go_enter Tryz.func41, Tryz.ntmps41
                    go_wp2
                    go_ret
                    exact ⟨by first | rfl | (simp; done) | (simp [*]; done), by repeat (first | exact Drawn0.refl _ | apply Drawn0.step)⟩
                  · rw [if_neg c33] at H
                    have c33b0 : (a0 == 43) = false := beq_eq_false_iff_ne.mpr c33
                    have c33b1 : (a0 != 43) = true := bne_iff_ne.mpr c33
                    obtain rfl := Option.some.inj H
                    go_enter Tryz.func41, Tryz.ntmps41
                    go_wp2
                    go_ret
                    exact ⟨by first | rfl | (simp; done) | (simp [*]; done), by repeat (first | exact Drawn0.refl _ | apply Drawn0.step)⟩
        · rw [if_neg c28] at H
          have c28b0 : decide (48 ≤ a0) = false := decide_eq_false c28
          clear c28
          by_cases c34 : a0 = 46
          · rw [if_pos c34] at H
            have c34b0 : (a0 == 46) = true := beq_iff_eq.mpr c34
            have c34b1 : (a0 != 46) = false := bne_eq_false_iff_eq.mpr c34
            clear c34
            obtain rfl := Option.some.inj H
            go_enter Tryz.func41, Tryz.ntmps41
            go_wp2
            go_ret
            exact ⟨by first | rfl | (simp; done) | (simp [*]; done), by repeat (first | exact Drawn0.refl _ | apply Drawn0.step)⟩
          · rw [if_neg c34] at H
            have c34b0 : (a0 == 46) = false := beq_eq_false_iff_ne.mpr c34
            have c34b1 : (a0 != 46) = true := bne_iff_ne.mpr c34
            by_cases c35 : a0 = 95
            · rw [if_pos c35] at H
              have c35b0 : (a0 == 95) = true := beq_iff_eq.mpr c35
              have c35b1 : (a0 != 95) = false := bne_eq_false_iff_eq.mpr c35
              clear c35
              obtain rfl := Option.some.inj H
              go_enter Tryz.func41, Tryz.ntmps41
              go_wp2
              go_ret
              exact ⟨by first | rfl | (simp; done) | (simp [*]; done), by repeat (first | exact Drawn0.refl _ | apply Drawn0.step)⟩
            · rw [if_neg c35] at H
              have c35b0 : (a0 == 95) = false := beq_eq_false_iff_ne.mpr c35
              have c35b1 : (a0 != 95) = true := bne_iff_ne.mpr c35
              by_cases c36 : a0 = 45
              · rw [if_pos c36] at H
                have c36b0 : (a0 == 45) = true := beq_iff_eq.mpr c36
                have c36b1 : (a0 != 45) = false := bne_eq_false_iff_eq.mpr c36
                clear c36
                obtain rfl := Option.some.inj H
                go_enter Tryz.func41, Tryz.ntmps41
                go_wp2
                go_ret
                exact ⟨by first | rfl | (simp; done) | (simp [*]; done), by repeat (first | exact Drawn0.refl _ | apply Drawn0.step)⟩
              · rw [if_neg c36] at H
                have c36b0 : (a0 == 45) = false := beq_eq_false_iff_ne.mpr c36
                have c36b1 : (a0 != 45) = true := bne_iff_ne.mpr c36
                by_cases c37 : a0 = 43
                · rw [if_pos c37] at H
                  have c37b0 : (a0 == 43) = true := beq_iff_eq.mpr c37
                  have c37b1 : (a0 != 43) = false := bne_eq_false_iff_eq.mpr c37
                  clear c37
                  obtain rfl := Option.some.inj H
                  go_enter Tryz.func41, Tryz.ntmps41
                  go_wp2
                  go_ret
                  exact ⟨by first | rfl | (simp; done) | (simp [*]; done), by repeat (first | exact Drawn0.refl _ | apply Drawn0.step)⟩
                · rw [if_neg c37] at H
                  have c37b0 : (a0 == 43) = false := beq_eq_false_iff_ne.mpr c37
                  have c37b1 : (a0 != 43) = true := bne_iff_ne.mpr c37
                  obtain rfl := Option.some.inj H
                  go_enter Tryz.func41, Tryz.ntmps41
                  go_wp2
                  go_ret
                  exact ⟨by first | rfl | (simp; done) | (simp [*]; done), by repeat (first | exact Drawn0.refl _ | apply Drawn0.step)⟩
    · rw [if_neg c26] at H
      have c26b0 : decide (65 ≤ a0) = false := decide_eq_false c26
      clear c26
      by_cases c38 : a0 ≥ 48
      · rw [if_pos c38] at H
        have c38b0 : decide (48 ≤ a0) = true := decide_eq_true c38
        clear c38
        by_cases c39 : a0 ≤ 57
        · rw [if_pos c39] at H
          have c39b0 : decide (a0 ≤ 57) = true := decide_eq_true c39
          clear c39
          obtain rfl := Option.some.inj H
          go_enter Tryz.func41, Tryz.ntmps41
          go_wp2
          go_ret
          exact ⟨by first | rfl | (simp; done) | (simp [*]; done), by repeat (first | exact Drawn0.refl _ | apply Drawn0.step)⟩
        · rw [if_neg c39] at H
          have c39b0 : decide (a0 ≤ 57) = false := decide_eq_false c39
          clear c39
          by_cases c40 : a0 = 46
          · rw [if_pos c40] at H
            have c40b0 : (a0 == 46) = true := beq_iff_eq.mpr c40
            have c40b1 : (a0 != 46) = false := bne_eq_false_iff_eq.mpr c40
            clear c40
            obtain rfl := Option.some.inj H
            go_enter Tryz.func41, Tryz.ntmps41
            go_wp2
            go_ret
            exact ⟨by first | rfl | (simp; done) | (simp [*]; done), by repeat (first | exact Drawn0.refl _ | apply Drawn0.step)⟩
          · rw [if_neg c40] at H
            have c40b0 : (a0 == 46) = false := beq_eq_false_iff_ne.mpr c40
            have c40b1 : (a0 != 46) = true := bne_iff_ne.mpr c40
            by_cases c41 : a0 = 95
            · rw [if_pos c41] at H
              have c41b0 : (a0 == 95) = true := beq_iff_eq.mpr c41
              have c41b1 : (a0 != 95) = false := bne_eq_false_iff_eq.mpr c41
              clear c41
              obtain rfl := Option.some.inj H
              go_enter Tryz.func41, Tryz.ntmps41
              go_wp2
              go_ret
              exact ⟨by first | rfl | (simp; done) | (simp [*]; done), by repeat (first | exact Drawn0.refl _ | apply Drawn0.step)⟩
            · rw [if_neg c41] at H
              have c41b0 : (a0 == 95) = false := beq_eq_false_iff_ne.mpr c41
              have c41b1 : (a0 != 95) = true := bne_iff_ne.mpr c41
              by_cases c42 : a0 = 45
              · rw [if_pos c42] at H
                have c42b0 : (a0 == 45) = true := beq_iff_eq.mpr c42
                have c42b1 : (a0 != 45) = false := bne_eq_false_iff_eq.mpr c42
                clear c42
                obtain rfl := Option.some.inj H
                go_enter Tryz.func41, Tryz.ntmps41
                go_wp2
                go_ret
                exact ⟨by first | rfl | (simp; done) | (simp [*]; done), by repeat (first | exact Drawn0.refl _ | apply Drawn0.step)⟩
              · rw [if_neg c42] at H
                have c42b0 : (a0 == 45) = false := beq_eq_false_iff_ne.mpr c42
                have c42b1 : (a0 != 45) = true := bne_iff_ne.mpr c42
                by_cases c43 : a0 = 43
                · rw [if_pos c43] at H
                  have c43b0 : (a0 == 43) = true := beq_iff_eq.mpr c43
                  have c43b1 : (a0 != 43) = false := bne_eq_false_iff_eq.mpr c43
                  clear c43
                  obtain rfl := Option.some.inj H
                  go_enter Tryz.func41, Tryz.ntmps41
                  go_wp2
                  go_ret
                  exact ⟨by first | rfl | (simp; done) | (simp [*]; done), by repeat (first | exact Drawn0.refl _ | apply Drawn0.step)⟩
                · rw [if_neg c43] at H
                  have c43b0 : (a0 == 43) = false := beq_eq_false_iff_ne.mpr c43
                  have c43b1 : (a0 != 43) = true := bne_iff_ne.mpr c43
                  obtain rfl := Option.some.inj H
                  go_enter Tryz.func41, Tryz.ntmps41
                  go_wp2
                  go_ret
                  exact ⟨by first | rfl | (simp; done) | (simp [*]; done), by repeat (first | exact Drawn0.refl _ | apply Drawn0.step)⟩
      · rw [if_neg c38] at H
        have c38b0 : decide (48 ≤ a0) = false := decide_eq_false c38
        clear c38
        by_cases c44 : a0 = 46
        · rw [if_pos c44] at H
          have c44b0 : (a0 == 46) = true := beq_iff_eq.mpr c44
          have c44b1 : (a0 != 46) = false := bne_eq_false_iff_eq.mpr c44
          clear c44
          obtain rfl := Option.some.inj H
          go_enter Tryz.func41, Tryz.ntmps41
          go_wp2
          go_ret
          exact ⟨by first | rfl | (simp; done) | (simp [*]; done), by repeat (first | exact Drawn0.refl _ | apply Drawn0.step)⟩
        · rw [if_neg c44] at H
          have c44b0 : (a0 == 46) = false := beq_eq_false_iff_ne.mpr c44
          have c44b1 : (a0 != 46) = true := bne_iff_ne.mpr c44
          by_cases c45 : a0 = 95
          · rw [if_pos c45] at H
            have c45b0 : (a0 == 95) = true := beq_iff_eq.mpr c45
            have c45b1 : (a0 != 95) = false := bne_eq_false_iff_eq.mpr c45
            clear c45
            obtain rfl := Option.some.inj H
            go_enter Tryz.func41, Tryz.ntmps41
            go_wp2
            go_ret
            exact ⟨by first | rfl | (simp; done) | (simp [*]; done), by repeat (first | exact Drawn0.refl _ | apply Drawn0.step)⟩
          · rw [if_neg c45] at H
            have c45b0 : (a0 == 95) = false := beq_eq_false_iff_ne.mpr c45
            have c45b1 : (a0 != 95) = true := bne_iff_ne.mpr c45
            by_cases c46 : a0 = 45
            · rw [if_pos c46] at H
              have c46b0 : (a0 == 45) = true := beq_iff_eq.mpr c46
              have c46b1 : (a0 != 45) = false := bne_eq_false_iff_eq.mpr c46
              clear c46
              obtain rfl := Option.some.inj H
              go_enter Tryz.func41, Tryz.ntmps41
              go_wp2
              go_ret
              exact ⟨by first | rfl | (simp; done) | (simp [*]; done), by repeat (first | exact Drawn0.refl _ | apply Drawn0.step)⟩
            · rw [if_neg c46] at H
              have c46b0 : (a0 == 45) = false := beq_eq_false_iff_ne.mpr c46
              have c46b1 : (a0 != 45) = true := bne_iff_ne.mpr c46
              by_cases c47 : a0 = 43
              · rw [if_pos c47] at H
                have c47b0 : (a0 == 43) = true := beq_iff_eq.mpr c47
                have c47b1 : (a0 != 43) = false := bne_eq_false_iff_eq.mpr c47
                clear c47
                obtain rfl := Option.some.inj H
                go_enter Tryz.func41, Tryz.ntmps41
                go_wp2
                go_ret
                exact ⟨by first | rfl | (simp; done) | (simp [*]; done), by repeat (first | exact Drawn0.refl _ | apply Drawn0.step)⟩
              · rw [if_neg c47] at H
                have c47b0 : (a0 == 43) = false := beq_eq_false_iff_ne.mpr c47
                have c47b1 : (a0 != 43) = true := bne_iff_ne.mpr c47
                obtain rfl := Option.some.inj H
                go_enter Tryz.func41, Tryz.ntmps41
                go_wp2
                go_ret
                exact ⟨by first | rfl | (simp; done) | (simp [*]; done), by repeat (first | exact Drawn0.refl _ | apply Drawn0.step)⟩
end Go.Proofs.YtapdchapjpnceaaGreatDoor.P
end
section
namespace Go.Proofs.YtapdchapjpnceaaGreatDoor.P
open Go.RowKit Go.Proofs.YtapdchapjpnceaaGreatDoorW.PrintWords Go.Proofs.YtapdchapjpnceaaGreatDoorW.PrintLast Go.Proofs.YtapdchapjpnceaaGreatDoorW.PrintMore
attribute [local go_sem] max2_int min2_int max_two min_two max_three min_three max_four min_four
set_option linter.unusedVariables false
set_option linter.unusedSimpArgs false
mutual
def bellowsref03_Clean.l0 : Nat → ByteArray → Int → Option (ByteArray × Int)
  | 0, _, _ => none
  | k + 1, x0, x4 => if x4 < (x0.size : Int) then (if 0 ≤ x4 then ((bellowsref03_plain.f (bt x0 x4)).bind fun t191 => (if t191 = true then (if x4 = 0 then (if (bt x0 x4) = 47 then (some ((⟨#[]⟩ : ByteArray), 5)) else (bellowsref03_Clean.l0 k x0 (wrap64 (x4 + 1)))) else (bellowsref03_Clean.l0 k x0 (wrap64 (x4 + 1)))) else (some ((⟨#[]⟩ : ByteArray), 5)))) else (none)) else (bellowsref03_Clean.l1 k x0 ([] : List ByteArray) 0 0)
def bellowsref03_Clean.l1 : Nat → ByteArray → List ByteArray → Int → Int → Option (ByteArray × Int)
  | 0, _, _, _, _ => none
  | k + 1, x0, x5, x6, x7 => if x7 ≤ (x0.size : Int) then (if x7 < (x0.size : Int) then (if 0 ≤ x7 then (bellowsref03_Clean.j2 k x0 x5 x6 x7 ((bt x0 x7) != 47)) else (none)) else (bellowsref03_Clean.j2 k x0 x5 x6 x7 false)) else (bellowsref03_Clean.l2 k x5 (⟨#[]⟩ : ByteArray) 0)
def bellowsref03_Clean.j2 : Nat → ByteArray → List ByteArray → Int → Int → Bool → Option (ByteArray × Int)
  | 0, _, _, _, _, _ => none
  | k + 1, x0, x5, x6, x7, x50 => if x50 = true then (bellowsref03_Clean.l1 k x0 x5 x6 (wrap64 (x7 + 1))) else (if 0 ≤ x6 then (if x6 ≤ x7 then (if x7 ≤ (x0.size : Int) then (if (x0.extract (x6 : Int).toNat (x7 : Int).toNat).toList = ([] : List UInt8) then (bellowsref03_Clean.j3 k x0 x5 (wrap64 (x7 + 1)) x7 (x0.extract (x6 : Int).toNat (x7 : Int).toNat) true) else (bellowsref03_Clean.j3 k x0 x5 (wrap64 (x7 + 1)) x7 (x0.extract (x6 : Int).toNat (x7 : Int).toNat) ((x0.extract (x6 : Int).toNat (x7 : Int).toNat).toList == ([46] : List UInt8)))) else (none)) else (none)) else (none))
def bellowsref03_Clean.j3 : Nat → ByteArray → List ByteArray → Int → Int → ByteArray → Bool → Option (ByteArray × Int)
  | 0, _, _, _, _, _, _ => none
  | k + 1, x0, x5, x6, x7, x8, x62 => if x62 = true then (bellowsref03_Clean.l1 k x0 x5 x6 (wrap64 (x7 + 1))) else (if x8.toList = ([46, 46] : List UInt8) then (bellowsref03_Clean.j4 k x0 x5 x6 x7 x8 ((x5.length : Int) == 0)) else (bellowsref03_Clean.j4 k x0 x5 x6 x7 x8 false))
def bellowsref03_Clean.j4 : Nat → ByteArray → List ByteArray → Int → Int → ByteArray → Bool → Option (ByteArray × Int)
  | 0, _, _, _, _, _, _ => none
  | k + 1, x0, x5, x6, x7, x8, x69 => if x69 = true then (some ((⟨#[]⟩ : ByteArray), 5)) else (if x8.toList = ([46, 46] : List UInt8) then (if 0 ≤ (wrap64 ((x5.length : Int) - 1)) then (if (wrap64 ((x5.length : Int) - 1)) ≤ (x5.length : Int) then (bellowsref03_Clean.l1 k x0 (x5.take ((wrap64 ((x5.length : Int) - 1)) : Int).toNat) x6 (wrap64 (x7 + 1))) else (none)) else (none)) else (if x5.length < 8796093022208 then (bellowsref03_Clean.l1 k x0 (x5 ++ [x8]) x6 (wrap64 (x7 + 1))) else (none)))
def bellowsref03_Clean.l2 : Nat → List ByteArray → ByteArray → Int → Option (ByteArray × Int)
  | 0, _, _, _ => none
  | k + 1, x5, x9, x10 => if x10 < (x5.length : Int) then (if x10 > 0 then (if x9.size + 1 ≤ 9223372036854775807 then (if 0 ≤ x10 then (if (x9 ++ (⟨#[47]⟩ : ByteArray)).size + (rdOf ByteArray.empty x5 x10).size ≤ 9223372036854775807 then (bellowsref03_Clean.l2 k x5 ((x9 ++ (⟨#[47]⟩ : ByteArray)) ++ (rdOf ByteArray.empty x5 x10)) (wrap64 (x10 + 1))) else (none)) else (none)) else (none)) else (if 0 ≤ x10 then (if x9.size + (rdOf ByteArray.empty x5 x10).size ≤ 9223372036854775807 then (bellowsref03_Clean.l2 k x5 (x9 ++ (rdOf ByteArray.empty x5 x10)) (wrap64 (x10 + 1))) else (none)) else (none))) else (if x9.toList = ([] : List UInt8) then (some ((⟨#[]⟩ : ByteArray), 5)) else (if (x9.size : Int) > 100 then (some ((⟨#[]⟩ : ByteArray), 3)) else (some (x9, 0))))
end
def bellowsref03_Clean.f (k : Nat) (a0 : ByteArray) : Option (ByteArray × Int) := if (a0.size : Int) > 1000 then (some ((⟨#[]⟩ : ByteArray), 3)) else (bellowsref03_Clean.l0 k a0 0)
theorem bellowsref03_Clean.mono_l : ∀ k, (∀ y0 y1, LeO (bellowsref03_Clean.l0 k y0 y1) (bellowsref03_Clean.l0 (k + 1) y0 y1)) ∧ (∀ y0 y1 y2 y3, LeO (bellowsref03_Clean.l1 k y0 y1 y2 y3) (bellowsref03_Clean.l1 (k + 1) y0 y1 y2 y3)) ∧ (∀ y0 y1 y2 y3 y4, LeO (bellowsref03_Clean.j2 k y0 y1 y2 y3 y4) (bellowsref03_Clean.j2 (k + 1) y0 y1 y2 y3 y4)) ∧ (∀ y0 y1 y2 y3 y4 y5, LeO (bellowsref03_Clean.j3 k y0 y1 y2 y3 y4 y5) (bellowsref03_Clean.j3 (k + 1) y0 y1 y2 y3 y4 y5)) ∧ (∀ y0 y1 y2 y3 y4 y5, LeO (bellowsref03_Clean.j4 k y0 y1 y2 y3 y4 y5) (bellowsref03_Clean.j4 (k + 1) y0 y1 y2 y3 y4 y5)) ∧ (∀ y0 y1 y2, LeO (bellowsref03_Clean.l2 k y0 y1 y2) (bellowsref03_Clean.l2 (k + 1) y0 y1 y2))
  | 0 => ⟨fun _ _ r h => by simp [bellowsref03_Clean.l0] at h, fun _ _ _ _ r h => by simp [bellowsref03_Clean.l1] at h, fun _ _ _ _ _ r h => by simp [bellowsref03_Clean.j2] at h, fun _ _ _ _ _ _ r h => by simp [bellowsref03_Clean.j3] at h, fun _ _ _ _ _ _ r h => by simp [bellowsref03_Clean.j4] at h, fun _ _ _ r h => by simp [bellowsref03_Clean.l2] at h⟩
  | k + 1 => by
    obtain ⟨ih0, ih1, ih2, ih3, ih4, ih5⟩ := bellowsref03_Clean.mono_l k
    refine ⟨?_, ?_, ?_, ?_, ?_, ?_⟩
    · intro y0 y1
      unfold bellowsref03_Clean.l0
      repeat' first
      | (with_reducible exact ih0 _ _)
      | (with_reducible exact ih1 _ _ _ _)
      | (with_reducible exact ih2 _ _ _ _ _)
      | (with_reducible exact ih3 _ _ _ _ _ _)
      | (with_reducible exact ih4 _ _ _ _ _ _)
      | (with_reducible exact ih5 _ _ _)
      | (with_reducible exact LeO.refl _)
      | (with_reducible exact LeO.none _)
      | (with_reducible refine LeO.ite ?_ ?_)
      | (with_reducible refine LeO.bind ?_ (fun _ => ?_))
      | exact ih0 _ _
      | exact ih1 _ _ _ _
      | exact ih2 _ _ _ _ _
      | exact ih3 _ _ _ _ _ _
      | exact ih4 _ _ _ _ _ _
      | exact ih5 _ _ _
      | exact LeO.none _
      | refine LeO.ite ?_ ?_
      | refine LeO.bind ?_ (fun _ => ?_)
    · intro y0 y1 y2 y3
      unfold bellowsref03_Clean.l1
      repeat' first
      | (with_reducible exact ih0 _ _)
      | (with_reducible exact ih1 _ _ _ _)
      | (with_reducible exact ih2 _ _ _ _ _)
      | (with_reducible exact ih3 _ _ _ _ _ _)
      | (with_reducible exact ih4 _ _ _ _ _ _)
      | (with_reducible exact ih5 _ _ _)
      | (with_reducible exact LeO.refl _)
      | (with_reducible exact LeO.none _)
      | (with_reducible refine LeO.ite ?_ ?_)
      | (with_reducible refine LeO.bind ?_ (fun _ => ?_))
      | exact ih0 _ _
      | exact ih1 _ _ _ _
      | exact ih2 _ _ _ _ _
      | exact ih3 _ _ _ _ _ _
      | exact ih4 _ _ _ _ _ _
      | exact ih5 _ _ _
      | exact LeO.none _
      | refine LeO.ite ?_ ?_
      | refine LeO.bind ?_ (fun _ => ?_)
    · intro y0 y1 y2 y3 y4
      unfold bellowsref03_Clean.j2
      repeat' first
      | (with_reducible exact ih0 _ _)
      | (with_reducible exact ih1 _ _ _ _)
      | (with_reducible exact ih2 _ _ _ _ _)
      | (with_reducible exact ih3 _ _ _ _ _ _)
      | (with_reducible exact ih4 _ _ _ _ _ _)
      | (with_reducible exact ih5 _ _ _)
      | (with_reducible exact LeO.refl _)
      | (with_reducible exact LeO.none _)
      | (with_reducible refine LeO.ite ?_ ?_)
      | (with_reducible refine LeO.bind ?_ (fun _ => ?_))
      | exact ih0 _ _
      | exact ih1 _ _ _ _
      | exact ih2 _ _ _ _ _
      | exact ih3 _ _ _ _ _ _
      | exact ih4 _ _ _ _ _ _
      | exact ih5 _ _ _
      | exact LeO.none _
      | refine LeO.ite ?_ ?_
      | refine LeO.bind ?_ (fun _ => ?_)
    · intro y0 y1 y2 y3 y4 y5
      unfold bellowsref03_Clean.j3
      repeat' first
      | (with_reducible exact ih0 _ _)
      | (with_reducible exact ih1 _ _ _ _)
      | (with_reducible exact ih2 _ _ _ _ _)
      | (with_reducible exact ih3 _ _ _ _ _ _)
      | (with_reducible exact ih4 _ _ _ _ _ _)
      | (with_reducible exact ih5 _ _ _)
      | (with_reducible exact LeO.refl _)
      | (with_reducible exact LeO.none _)
      | (with_reducible refine LeO.ite ?_ ?_)
      | (with_reducible refine LeO.bind ?_ (fun _ => ?_))
      | exact ih0 _ _
      | exact ih1 _ _ _ _
      | exact ih2 _ _ _ _ _
      | exact ih3 _ _ _ _ _ _
      | exact ih4 _ _ _ _ _ _
      | exact ih5 _ _ _
      | exact LeO.none _
      | refine LeO.ite ?_ ?_
      | refine LeO.bind ?_ (fun _ => ?_)
    · intro y0 y1 y2 y3 y4 y5
      unfold bellowsref03_Clean.j4
      repeat' first
      | (with_reducible exact ih0 _ _)
      | (with_reducible exact ih1 _ _ _ _)
      | (with_reducible exact ih2 _ _ _ _ _)
      | (with_reducible exact ih3 _ _ _ _ _ _)
      | (with_reducible exact ih4 _ _ _ _ _ _)
      | (with_reducible exact ih5 _ _ _)
      | (with_reducible exact LeO.refl _)
      | (with_reducible exact LeO.none _)
      | (with_reducible refine LeO.ite ?_ ?_)
      | (with_reducible refine LeO.bind ?_ (fun _ => ?_))
      | exact ih0 _ _
      | exact ih1 _ _ _ _
      | exact ih2 _ _ _ _ _
      | exact ih3 _ _ _ _ _ _
      | exact ih4 _ _ _ _ _ _
      | exact ih5 _ _ _
      | exact LeO.none _
      | refine LeO.ite ?_ ?_
      | refine LeO.bind ?_ (fun _ => ?_)
    · intro y0 y1 y2
      unfold bellowsref03_Clean.l2
      repeat' first
      | (with_reducible exact ih0 _ _)
      | (with_reducible exact ih1 _ _ _ _)
      | (with_reducible exact ih2 _ _ _ _ _)
      | (with_reducible exact ih3 _ _ _ _ _ _)
      | (with_reducible exact ih4 _ _ _ _ _ _)
      | (with_reducible exact ih5 _ _ _)
      | (with_reducible exact LeO.refl _)
      | (with_reducible exact LeO.none _)
      | (with_reducible refine LeO.ite ?_ ?_)
      | (with_reducible refine LeO.bind ?_ (fun _ => ?_))
      | exact ih0 _ _
      | exact ih1 _ _ _ _
      | exact ih2 _ _ _ _ _
      | exact ih3 _ _ _ _ _ _
      | exact ih4 _ _ _ _ _ _
      | exact ih5 _ _ _
      | exact LeO.none _
      | refine LeO.ite ?_ ?_
      | refine LeO.bind ?_ (fun _ => ?_)
theorem bellowsref03_Clean.mono : ∀ a0 k, LeO (bellowsref03_Clean.f k a0) (bellowsref03_Clean.f (k + 1) a0) := by
  intro a0 k
  obtain ⟨ih0, ih1, ih2, ih3, ih4, ih5⟩ := bellowsref03_Clean.mono_l k
  unfold bellowsref03_Clean.f
  repeat' first
      | (with_reducible exact ih0 _ _)
      | (with_reducible exact ih1 _ _ _ _)
      | (with_reducible exact ih2 _ _ _ _ _)
      | (with_reducible exact ih3 _ _ _ _ _ _)
      | (with_reducible exact ih4 _ _ _ _ _ _)
      | (with_reducible exact ih5 _ _ _)
      | (with_reducible exact LeO.refl _)
      | (with_reducible exact LeO.none _)
      | (with_reducible refine LeO.ite ?_ ?_)
      | (with_reducible refine LeO.bind ?_ (fun _ => ?_))
      | exact ih0 _ _
      | exact ih1 _ _ _ _
      | exact ih2 _ _ _ _ _
      | exact ih3 _ _ _ _ _ _
      | exact ih4 _ _ _ _ _ _
      | exact ih5 _ _ _
      | exact LeO.none _
      | refine LeO.ite ?_ ?_
      | refine LeO.bind ?_ (fun _ => ?_)
set_option maxHeartbeats 8000000 in
set_option maxRecDepth 100000 in
theorem bellowsref03_Clean.calls (k : Nat) (a0 : ByteArray) (r1 : ByteArray) (r2 : Int) (w : World) (h : bellowsref03_Clean.f k a0 = some (r1, r2)) :
    Calls Tryz.prog 29 #[.string a0] w fun e w' => e = .returned (.tuple #[.string r1, .int .i64 r2]) ∧ Below w.heap.size w w' := by
  have HB := Aside0.mk (Below.refl w.heap.size w)
  have H : (if (a0.size : Int) > 1000 then (some ((⟨#[]⟩ : ByteArray), 3)) else (bellowsref03_Clean.l0 k a0 0)) = some (r1, r2) := h
  clear h
  by_cases c2 : (a0.size : Int) > 1000
  · rw [if_pos c2] at H
    have c2b0 : decide (1000 < (a0.size : Int)) = true := decide_eq_true c2
    have c2b1 : decide (1000 < a0.size) = true := decide_eq_true (by omega)
    clear c2
    simp only [Option.some.injEq, Prod.mk.injEq] at H
    obtain ⟨rfl, rfl⟩ := H
    go_enter Tryz.func29, Tryz.ntmps29
    go_wp2
    go_ret2
    exact ⟨by first | rfl | (simp [errW_none, errW_some] <;> rfl) | (simp [*, errW_none, errW_some] <;> rfl), by repeat (first | (with_reducible first | exact HB.out | apply below_alloc | apply pw_below_drewN | apply below_drew1) | exact HB.out)⟩
  · rw [if_neg c2] at H
    have c2b0 : decide (1000 < (a0.size : Int)) = false := decide_eq_false c2
    have c2b1 : decide (1000 < a0.size) = false := decide_eq_false (by omega)
    clear c2
    have H' := Aside0.mk H
    clear H
    go_enter Tryz.func29, Tryz.ntmps29
    go_wp2
    go_loopg [4] k (fun kq v4 w' => ∃ (x4_1 : Int), v4 = .int .i64 x4_1 ∧ Aside0 (bellowsref03_Clean.l0 kq a0 x4_1 = some (r1, r2)) ∧ Aside0 (kq ≤ k) ∧ Aside0 (Below w.heap.size w w'))
    case atStart => exact ⟨(0), (by first | rfl | (simp; done) | (simp [*]; done)), H', ⟨Nat.le_refl _⟩, ⟨by repeat (first | (with_reducible first | exact HB.out | apply below_alloc | apply pw_below_drewN | apply below_drew1) | exact HB.out)⟩⟩
    case round =>
      clear H'
      try clear c2
      try clear c2b0
      try clear c2b1
      try clear p2
      obtain ⟨x4_1, rfl, HA, HK1, HB⟩ := hrel
      cases gk with
      | zero => exact absurd HA.out (by simp [bellowsref03_Clean.l0])
      | succ k1 =>
        have H := HA.out
        clear HA
        simp only [bellowsref03_Clean.l0] at H
        by_cases c3 : x4_1 < (a0.size : Int)
        · rw [if_pos c3] at H
          have c3b0 : decide (x4_1 < (a0.size : Int)) = true := decide_eq_true c3
          clear c3
          by_cases c4 : 0 ≤ x4_1
          · rw [if_pos c4] at H
            have c4b0 : decide (0 ≤ x4_1) = true := decide_eq_true c4
            clear c4
            replace H := Option.bind_eq_some_iff.mp H
            obtain ⟨t191, A60, H⟩ := H
            replace H : (if t191 = true then (if x4_1 = 0 then (if (bt a0 x4_1) = 47 then (some ((⟨#[]⟩ : ByteArray), 5)) else (bellowsref03_Clean.l0 k1 a0 (wrap64 (x4_1 + 1)))) else (bellowsref03_Clean.l0 k1 a0 (wrap64 (x4_1 + 1)))) else (some ((⟨#[]⟩ : ByteArray), 5))) = some (r1, r2) := H
            have A6 := Aside0.mk A60
            clear A60
            by_cases c7 : t191 = true
            · subst c7
              have H1 : (if x4_1 = 0 then (if (bt a0 x4_1) = 47 then (some ((⟨#[]⟩ : ByteArray), 5)) else (bellowsref03_Clean.l0 k1 a0 (wrap64 (x4_1 + 1)))) else (bellowsref03_Clean.l0 k1 a0 (wrap64 (x4_1 + 1)))) = some (r1, r2) := by rw [if_pos rfl] at H; exact H
              clear H
              have H := H1
              clear H1
              by_cases c8 : x4_1 = 0
              · rw [if_pos c8] at H
                have c8b0 : (x4_1 == 0) = true := beq_iff_eq.mpr c8
                have c8b1 : (x4_1 != 0) = false := bne_eq_false_iff_eq.mpr c8
                clear c8
                by_cases c10 : (bt a0 x4_1) = 47
                · rw [if_pos c10] at H
                  have c10b0 : ((bt a0 x4_1) == 47) = true := beq_iff_eq.mpr c10
                  have c10b1 : ((bt a0 x4_1) != 47) = false := bne_eq_false_iff_eq.mpr c10
                  clear c10
                  simp only [Option.some.injEq, Prod.mk.injEq] at H
                  obtain ⟨rfl, rfl⟩ := H
                  have p5 : 0 ≤ (x4_1 : Int) := of_decide_eq_true (by first | (with_reducible assumption) | assumption)
                  have q5 : x4_1 < (a0.size : Int) := of_decide_eq_true (by first | (with_reducible assumption) | assumption)
                  have hx5 := bt_at a0 x4_1
                  replace p5 := eq_true p5
                  replace q5 := eq_true q5
                  go_wp2_with (first | ((with_reducible refine gate_callee (f := 41) rfl ?_); refine goesL_ (some 23) rfl rfl Tryz.func41 (by kernel_rfl) rfl #[.int .u8 (bt a0 x4_1)] rfl (by (try simp only [List.map_toArray, List.map_cons, List.map_nil]); first | done | rfl | (simp only [List.length_drop, List.length_take]; rfl)) ?_; (with_reducible refine (bellowsref03_plain.calls (bt a0 x4_1) true _ A6.out).mono ?_); rintro e w' ⟨rfl, ⟨nd, rfl⟩⟩; refine ⟨_, rfl, ?_⟩; have p9 : 0 ≤ (x4_1 : Int) := of_decide_eq_true (by first | (with_reducible assumption) | assumption); have q9 : x4_1 < (a0.size : Int) := of_decide_eq_true (by first | (with_reducible assumption) | assumption); have hx9 := bt_at a0 x4_1; replace p9 := eq_true p9; replace q9 := eq_true q9))
                  go_ret2
                  exact ⟨by first | rfl | (simp [errW_none, errW_some] <;> rfl) | (simp [*, errW_none, errW_some] <;> rfl), by repeat (first | (with_reducible first | exact HB.out | apply below_alloc | apply pw_below_drewN | apply below_drew1) | exact HB.out)⟩
                · rw [if_neg c10] at H
                  have c10b0 : ((bt a0 x4_1) == 47) = false := beq_eq_false_iff_ne.mpr c10
                  have c10b1 : ((bt a0 x4_1) != 47) = true := bne_iff_ne.mpr c10
                  have H' := Aside0.mk H
                  clear H
                  have p5 : 0 ≤ (x4_1 : Int) := of_decide_eq_true (by first | (with_reducible assumption) | assumption)
                  have q5 : x4_1 < (a0.size : Int) := of_decide_eq_true (by first | (with_reducible assumption) | assumption)
                  have hx5 := bt_at a0 x4_1
                  replace p5 := eq_true p5
                  replace q5 := eq_true q5
                  go_wp2_with (first | ((with_reducible refine gate_callee (f := 41) rfl ?_); refine goesL_ (some 23) rfl rfl Tryz.func41 (by kernel_rfl) rfl #[.int .u8 (bt a0 x4_1)] rfl (by (try simp only [List.map_toArray, List.map_cons, List.map_nil]); first | done | rfl | (simp only [List.length_drop, List.length_take]; rfl)) ?_; (with_reducible refine (bellowsref03_plain.calls (bt a0 x4_1) true _ A6.out).mono ?_); rintro e w' ⟨rfl, ⟨nd, rfl⟩⟩; refine ⟨_, rfl, ?_⟩; have p9 : 0 ≤ (x4_1 : Int) := of_decide_eq_true (by first | (with_reducible assumption) | assumption); have q9 : x4_1 < (a0.size : Int) := of_decide_eq_true (by first | (with_reducible assumption) | assumption); have hx9 := bt_at a0 x4_1; replace p9 := eq_true p9; replace q9 := eq_true q9))
                  go_roundg k1
                  case measure => have := HK1.out; omega
                  case rel => exact ⟨(wrap64 (x4_1 + 1)), (by first | rfl | (simp; done) | (simp [*]; done)), H', ⟨by have := HK1.out; omega⟩, ⟨by repeat (first | (with_reducible first | exact HB.out | apply below_alloc | apply pw_below_drewN | apply below_drew1) | exact HB.out)⟩⟩
              · rw [if_neg c8] at H
                have c8b0 : (x4_1 == 0) = false := beq_eq_false_iff_ne.mpr c8
                have c8b1 : (x4_1 != 0) = true := bne_iff_ne.mpr c8
                have H' := Aside0.mk H
                clear H
                have p5 : 0 ≤ (x4_1 : Int) := of_decide_eq_true (by first | (with_reducible assumption) | assumption)
                have q5 : x4_1 < (a0.size : Int) := of_decide_eq_true (by first | (with_reducible assumption) | assumption)
                have hx5 := bt_at a0 x4_1
                replace p5 := eq_true p5
                replace q5 := eq_true q5
                go_wp2_with (first | ((with_reducible refine gate_callee (f := 41) rfl ?_); refine goesL_ (some 23) rfl rfl Tryz.func41 (by kernel_rfl) rfl #[.int .u8 (bt a0 x4_1)] rfl (by (try simp only [List.map_toArray, List.map_cons, List.map_nil]); first | done | rfl | (simp only [List.length_drop, List.length_take]; rfl)) ?_; (with_reducible refine (bellowsref03_plain.calls (bt a0 x4_1) true _ A6.out).mono ?_); rintro e w' ⟨rfl, ⟨nd, rfl⟩⟩; refine ⟨_, rfl, ?_⟩))
                go_roundg k1
                case measure => have := HK1.out; omega
                case rel => exact ⟨(wrap64 (x4_1 + 1)), (by first | rfl | (simp; done) | (simp [*]; done)), H', ⟨by have := HK1.out; omega⟩, ⟨by repeat (first | (with_reducible first | exact HB.out | apply below_alloc | apply pw_below_drewN | apply below_drew1) | exact HB.out)⟩⟩
            · replace c7 := Bool.eq_false_iff.mpr c7
              subst c7
              have H1 : (some ((⟨#[]⟩ : ByteArray), 5)) = some (r1, r2) := by rw [if_neg (show ¬ (false = true) by decide)] at H; exact H
              clear H
              have H := H1
              clear H1
              simp only [Option.some.injEq, Prod.mk.injEq] at H
              obtain ⟨rfl, rfl⟩ := H
              have p5 : 0 ≤ (x4_1 : Int) := of_decide_eq_true (by first | (with_reducible assumption) | assumption)
              have q5 : x4_1 < (a0.size : Int) := of_decide_eq_true (by first | (with_reducible assumption) | assumption)
              have hx5 := bt_at a0 x4_1
              replace p5 := eq_true p5
              replace q5 := eq_true q5
              go_wp2_with (first | ((with_reducible refine gate_callee (f := 41) rfl ?_); refine goesL_ (some 23) rfl rfl Tryz.func41 (by kernel_rfl) rfl #[.int .u8 (bt a0 x4_1)] rfl (by (try simp only [List.map_toArray, List.map_cons, List.map_nil]); first | done | rfl | (simp only [List.length_drop, List.length_take]; rfl)) ?_; (with_reducible refine (bellowsref03_plain.calls (bt a0 x4_1) false _ A6.out).mono ?_); rintro e w' ⟨rfl, ⟨nd, rfl⟩⟩; refine ⟨_, rfl, ?_⟩))
              go_ret2
              exact ⟨by first | rfl | (simp [errW_none, errW_some] <;> rfl) | (simp [*, errW_none, errW_some] <;> rfl), by repeat (first | (with_reducible first | exact HB.out | apply below_alloc | apply pw_below_drewN | apply below_drew1) | exact HB.out)⟩
          · rw [if_neg c4] at H
            exact absurd H (by simp)
        · rw [if_neg c3] at H
          have c3b0 : decide (x4_1 < (a0.size : Int)) = false := decide_eq_false c3
          clear c3
          have H' := Aside0.mk H
          clear H
          go_wp2
          go_loopg [5, 6, 7] k1 (fun kq v5 v6 v7 w' => ∃ (x5_2 : List ByteArray) (x6_2 : Int) (x7_2 : Int), v6 = .int .i64 x6_2 ∧ v7 = .int .i64 x7_2 ∧ Aside0 (bellowsref03_Clean.l1 kq a0 x5_2 x6_2 x7_2 = some (r1, r2)) ∧ Aside0 (kq ≤ k1) ∧ Aside0 (Kd.R Kd.string 9 w' w.heap.size (fun _ => True) v5 x5_2) ∧ Aside0 (Below w.heap.size w w'))
          case atStart => exact ⟨(([] : List ByteArray)), (0), (0), (by first | rfl | (simp; done) | (simp [*]; done)), (by first | rfl | (simp; done) | (simp [*]; done)), H', ⟨Nat.le_refl _⟩, ⟨by first | exact Kd.R_nil _ _ _ _ _ | exact Kd.N_nil _ _ _ _ _ | exact Kd.V_nil _ _ _ _ _ | exact Kd.Q_nil _ _ _ _ _ | exact Kd.S_nil _ _ _ _ _⟩, ⟨by repeat (first | (with_reducible first | exact HB.out | apply below_alloc | apply pw_below_drewN | apply below_drew1) | exact HB.out)⟩⟩
          case round =>
            clear H'
            try clear c1
            try clear c2
            try clear c2b0
            try clear c2b1
            try clear p2
            try clear c3
            try clear c3b0
            try clear c4
            try clear c4b0
            try clear p5
            try clear q5
            try clear hx5
            try clear p6
            try clear c7
            try clear c8
            try clear c8b0
            try clear c8b1
            try clear p9
            try clear q9
            try clear hx9
            try clear c10
            try clear c10b0
            try clear c10b1
            try clear p2
            try clear p5
            try clear p9
            try clear q5
            try clear q9
            obtain ⟨x5_2, x6_2, x7_2, rfl, rfl, HA, HK2, HO_5, HB⟩ := hrel
            cases gk with
            | zero => exact absurd HA.out (by simp [bellowsref03_Clean.l1])
            | succ k2 =>
              have H := HA.out
              clear HA
              simp only [bellowsref03_Clean.l1] at H
              by_cases c11 : x7_2 ≤ (a0.size : Int)
              · rw [if_pos c11] at H
                have c11b0 : decide (x7_2 ≤ (a0.size : Int)) = true := decide_eq_true c11
                clear c11
                have HC12 := Aside0.mk H
                clear H
                go_upto_region 13 with (fail)
                go_cut [50] (fun v50 wc => ∃ (kq : Nat) (x50_11 : Bool), v50 = .bool x50_11 ∧ Aside0 (bellowsref03_Clean.j2 kq a0 x5_2 x6_2 x7_2 x50_11 = some (r1, r2)) ∧ Aside0 (kq ≤ k2) ∧ Aside0 (Kd.R Kd.string 9 wc w.heap.size (fun _ => True) u5 x5_2) ∧ Aside0 (Below w.heap.size w wc))
                case first =>
                  have H := HC12.out
                  clear HC12
                  by_cases c13 : x7_2 < (a0.size : Int)
                  · rw [if_pos c13] at H
                    have c13b0 : decide (x7_2 < (a0.size : Int)) = true := decide_eq_true c13
                    clear c13
                    (first | rw [c13b0] | (simp only [i64_w, i32_w]; rw [c13b0]) | skip)
                    by_cases c14 : 0 ≤ x7_2
                    · rw [if_pos c14] at H
                      have c14b0 : decide (0 ≤ x7_2) = true := decide_eq_true c14
                      clear c14
                      have H' := Aside0.mk H
                      clear H
                      have p15 : 0 ≤ (x7_2 : Int) := of_decide_eq_true (by first | (with_reducible assumption) | assumption)
                      have q15 : x7_2 < (a0.size : Int) := of_decide_eq_true (by first | (with_reducible assumption) | assumption)
                      have hx15 := bt_at a0 x7_2
                      replace p15 := eq_true p15
                      replace q15 := eq_true q15
                      go_wp2
                      go_meet
                      case rel => exact ⟨_, (((bt a0 x7_2) != 47)), (by first | rfl | (simp; done) | (simp [*]; done)), H', ⟨by have := HK1.out; have := HK2.out; first | omega | exact Nat.le_refl _⟩, ⟨by (with_reducible repeat (first | apply Kd.R_alloc | apply Kd.R_drewN | apply Kd.R_drew)); exact HO_5.out⟩, ⟨by repeat (first | (with_reducible first | exact HB.out | apply below_alloc | apply pw_below_drewN | apply below_drew1) | exact HB.out)⟩⟩
                    · rw [if_neg c14] at H
                      exact absurd H (by simp)
                  · rw [if_neg c13] at H
                    have c13b0 : decide (x7_2 < (a0.size : Int)) = false := decide_eq_false c13
                    clear c13
                    (first | rw [c13b0] | (simp only [i64_w, i32_w]; rw [c13b0]) | skip)
                    have H' := Aside0.mk H
                    clear H
                    go_wp2
                    go_meet
                    case rel => exact ⟨_, (false), (by first | rfl | (simp; done) | (simp [*]; done)), H', ⟨by have := HK1.out; have := HK2.out; first | omega | exact Nat.le_refl _⟩, ⟨by (with_reducible repeat (first | apply Kd.R_alloc | apply Kd.R_drewN | apply Kd.R_drew)); exact HO_5.out⟩, ⟨by repeat (first | (with_reducible first | exact HB.out | apply below_alloc | apply pw_below_drewN | apply below_drew1) | exact HB.out)⟩⟩
                case rest =>
                  clear HC12
                  try clear c1
                  try clear p1
                  try clear q1
                  try clear hx1
                  try clear c2
                  try clear c2b0
                  try clear c2b1
                  try clear p2
                  try clear c3
                  try clear c3b0
                  try clear c4
                  try clear c4b0
                  try clear p5
                  try clear q5
                  try clear hx5
                  try clear p6
                  try clear c7
                  try clear c8
                  try clear c8b0
                  try clear c8b1
                  try clear p9
                  try clear q9
                  try clear hx9
                  try clear c10
                  try clear c10b0
                  try clear c10b1
                  try clear c11
                  try clear c11b0
                  try clear c13
                  try clear c13b0
                  try clear c14
                  try clear c14b0
                  try clear p15
                  try clear q15
                  try clear hx15
                  try clear p15
                  try clear p2
                  try clear p5
                  try clear p6
                  try clear p9
                  try clear q15
                  try clear q5
                  try clear q9
                  obtain ⟨kq, x50_11, rfl, HA, HJ11, HO_5, HB⟩ := hcut
                  cases kq with
                  | zero => exact absurd HA.out (by simp [bellowsref03_Clean.j2])
                  | succ kj11 =>
                    have H := HA.out
                    clear HA
                    simp only [bellowsref03_Clean.j2] at H
                    by_cases c16 : x50_11 = true
                    · subst c16
                      have H1 : (bellowsref03_Clean.l1 kj11 a0 x5_2 x6_2 (wrap64 (x7_2 + 1))) = some (r1, r2) := by rw [if_pos rfl] at H; exact H
                      clear H
                      have H := H1
                      clear H1
                      have H' := Aside0.mk H
                      clear H
                      go_wp2
                      go_roundg kj11
                      case measure => have := HK1.out; have := HK2.out; have := HJ11.out; omega
                      case rel => exact ⟨(x5_2), (x6_2), (wrap64 (x7_2 + 1)), (by first | rfl | (simp; done) | (simp [*]; done)), (by first | rfl | (simp; done) | (simp [*]; done)), H', ⟨by have := HK1.out; have := HK2.out; have := HJ11.out; omega⟩, ⟨by (with_reducible repeat (first | apply Kd.R_alloc | apply Kd.R_drewN | apply Kd.R_drew)); exact HO_5.out⟩, ⟨by repeat (first | (with_reducible first | exact HB.out | apply below_alloc | apply pw_below_drewN | apply below_drew1) | exact HB.out)⟩⟩
                    · replace c16 := Bool.eq_false_iff.mpr c16
                      subst c16
                      have H1 : (if 0 ≤ x6_2 then (if x6_2 ≤ x7_2 then (if x7_2 ≤ (a0.size : Int) then (if (a0.extract (x6_2 : Int).toNat (x7_2 : Int).toNat).toList = ([] : List UInt8) then (bellowsref03_Clean.j3 kj11 a0 x5_2 (wrap64 (x7_2 + 1)) x7_2 (a0.extract (x6_2 : Int).toNat (x7_2 : Int).toNat) true) else (bellowsref03_Clean.j3 kj11 a0 x5_2 (wrap64 (x7_2 + 1)) x7_2 (a0.extract (x6_2 : Int).toNat (x7_2 : Int).toNat) ((a0.extract (x6_2 : Int).toNat (x7_2 : Int).toNat).toList == ([46] : List UInt8)))) else (none)) else (none)) else (none)) = some (r1, r2) := by rw [if_neg (show ¬ (false = true) by decide)] at H; exact H
                      clear H
                      have H := H1
                      clear H1
                      by_cases c17 : 0 ≤ x6_2
                      · rw [if_pos c17] at H
                        have c17b0 := eq_true c17
                        have c17b1 : decide (0 ≤ x6_2) = true := decide_eq_true c17
                        clear c17
                        by_cases c18 : x6_2 ≤ x7_2
                        · rw [if_pos c18] at H
                          have c18b0 := eq_true c18
                          have c18b1 : decide (x6_2 ≤ x7_2) = true := decide_eq_true c18
                          clear c18
                          by_cases c19 : x7_2 ≤ (a0.size : Int)
                          · rw [if_pos c19] at H
                            have c19b0 := eq_true c19
                            have c19b1 : decide (x7_2 ≤ (a0.size : Int)) = true := decide_eq_true c19
                            clear c19
                            have HC20 := Aside0.mk H
                            clear H
                            go_upto_region 16 with (fail)
                            go_cut [62] (fun v62 wc => ∃ (kq : Nat) (x62_19 : Bool), v62 = .bool x62_19 ∧ Aside0 (bellowsref03_Clean.j3 kq a0 x5_2 (wrap64 (x7_2 + 1)) x7_2 (a0.extract (x6_2 : Int).toNat (x7_2 : Int).toNat) x62_19 = some (r1, r2)) ∧ Aside0 (kq ≤ kj11) ∧ Aside0 (Kd.R Kd.string 9 wc w.heap.size (fun _ => True) u5 x5_2) ∧ Aside0 (Below w.heap.size w wc))
                            case first =>
                              have H := HC20.out
                              clear HC20
                              by_cases c21 : (a0.extract (x6_2 : Int).toNat (x7_2 : Int).toNat).toList = ([] : List UInt8)
                              · rw [if_pos c21] at H
                                have c21b0 : ((a0.extract (x6_2 : Int).toNat (x7_2 : Int).toNat).toList == ([] : List UInt8)) = true := beq_iff_eq.mpr c21
                                have c21b1 : ((a0.extract (x6_2 : Int).toNat (x7_2 : Int).toNat).toList != ([] : List UInt8)) = false := bne_eq_false_iff_eq.mpr c21
                                clear c21
                                (first | rw [c21b0] | (simp only [i64_w, i32_w]; rw [c21b0]) | skip)
                                have H' := Aside0.mk H
                                clear H
                                go_wp2
                                go_meet
                                case rel => exact ⟨_, (true), (by first | rfl | (simp; done) | (simp [*]; done)), H', ⟨by have := HK1.out; have := HK2.out; have := HJ11.out; first | omega | exact Nat.le_refl _⟩, ⟨by (with_reducible repeat (first | apply Kd.R_alloc | apply Kd.R_drewN | apply Kd.R_drew)); exact HO_5.out⟩, ⟨by repeat (first | (with_reducible first | exact HB.out | apply below_alloc | apply pw_below_drewN | apply below_drew1) | exact HB.out)⟩⟩
                              · rw [if_neg c21] at H
                                have c21b0 : ((a0.extract (x6_2 : Int).toNat (x7_2 : Int).toNat).toList == ([] : List UInt8)) = false := beq_eq_false_iff_ne.mpr c21
                                have c21b1 : ((a0.extract (x6_2 : Int).toNat (x7_2 : Int).toNat).toList != ([] : List UInt8)) = true := bne_iff_ne.mpr c21
                                (first | rw [c21b0] | (simp only [i64_w, i32_w]; rw [c21b0]) | skip)
                                have H' := Aside0.mk H
                                clear H
                                go_wp2
                                go_meet
                                case rel => exact ⟨_, (((a0.extract (x6_2 : Int).toNat (x7_2 : Int).toNat).toList == ([46] : List UInt8))), (by first | rfl | (simp; done) | (simp [*]; done)), H', ⟨by have := HK1.out; have := HK2.out; have := HJ11.out; first | omega | exact Nat.le_refl _⟩, ⟨by (with_reducible repeat (first | apply Kd.R_alloc | apply Kd.R_drewN | apply Kd.R_drew)); exact HO_5.out⟩, ⟨by repeat (first | (with_reducible first | exact HB.out | apply below_alloc | apply pw_below_drewN | apply below_drew1) | exact HB.out)⟩⟩
                            case rest =>
                              clear HC20
                              try clear c1
                              try clear p1
                              try clear q1
                              try clear hx1
                              try clear c2
                              try clear c2b0
                              try clear c2b1
                              try clear p2
                              try clear c3
                              try clear c3b0
                              try clear c4
                              try clear c4b0
                              try clear p5
                              try clear q5
                              try clear hx5
                              try clear p6
                              try clear c7
                              try clear c8
                              try clear c8b0
                              try clear c8b1
                              try clear p9
                              try clear q9
                              try clear hx9
                              try clear c10
                              try clear c10b0
                              try clear c10b1
                              try clear c11
                              try clear c11b0
                              try clear c13
                              try clear c13b0
                              try clear c14
                              try clear c14b0
                              try clear p15
                              try clear q15
                              try clear hx15
                              try clear c16
                              try clear c17
                              try clear c17b0
                              try clear c17b1
                              try clear c18
                              try clear c18b0
                              try clear c18b1
                              try clear c19
                              try clear c19b0
                              try clear c19b1
                              try clear c21
                              try clear c21b0
                              try clear c21b1
                              try clear p1
                              try clear p15
                              try clear p2
                              try clear p5
                              try clear p6
                              try clear p9
                              try clear q1
                              try clear q15
                              try clear q5
                              try clear q9
                              obtain ⟨kq, x62_19, rfl, HA, HJ19, HO_5, HB⟩ := hcut
                              cases kq with
                              | zero => exact absurd HA.out (by simp [bellowsref03_Clean.j3])
                              | succ kj19 =>
                                have H := HA.out
                                clear HA
                                simp only [bellowsref03_Clean.j3] at H
                                by_cases c22 : x62_19 = true
                                · subst c22
                                  have H1 : (bellowsref03_Clean.l1 kj19 a0 x5_2 (wrap64 (x7_2 + 1)) (wrap64 (x7_2 + 1))) = some (r1, r2) := by rw [if_pos rfl] at H; exact H
                                  clear H
                                  have H := H1
                                  clear H1
                                  have H' := Aside0.mk H
                                  clear H
                                  go_wp2
                                  go_roundg kj19
                                  case measure => have := HK1.out; have := HK2.out; have := HJ11.out; have := HJ19.out; omega
                                  case rel => exact ⟨(x5_2), ((wrap64 (x7_2 + 1))), (wrap64 (x7_2 + 1)), (by first | rfl | (simp; done) | (simp [*]; done)), (by first | rfl | (simp; done) | (simp [*]; done)), H', ⟨by have := HK1.out; have := HK2.out; have := HJ11.out; have := HJ19.out; omega⟩, ⟨by (with_reducible repeat (first | apply Kd.R_alloc | apply Kd.R_drewN | apply Kd.R_drew)); exact HO_5.out⟩, ⟨by repeat (first | (with_reducible first | exact HB.out | apply below_alloc | apply pw_below_drewN | apply below_drew1) | exact HB.out)⟩⟩
                                · replace c22 := Bool.eq_false_iff.mpr c22
                                  subst c22
                                  have H1 : (if (a0.extract (x6_2 : Int).toNat (x7_2 : Int).toNat).toList = ([46, 46] : List UInt8) then (bellowsref03_Clean.j4 kj19 a0 x5_2 (wrap64 (x7_2 + 1)) x7_2 (a0.extract (x6_2 : Int).toNat (x7_2 : Int).toNat) ((x5_2.length : Int) == 0)) else (bellowsref03_Clean.j4 kj19 a0 x5_2 (wrap64 (x7_2 + 1)) x7_2 (a0.extract (x6_2 : Int).toNat (x7_2 : Int).toNat) false)) = some (r1, r2) := by rw [if_neg (show ¬ (false = true) by decide)] at H; exact H
                                  clear H
                                  have H := H1
                                  clear H1
                                  have HC23 := Aside0.mk H
                                  clear H
                                  go_upto_region 17 with (fail)
                                  go_cut [69] (fun v69 wc => ∃ (kq : Nat) (x69_22 : Bool), v69 = .bool x69_22 ∧ Aside0 (bellowsref03_Clean.j4 kq a0 x5_2 (wrap64 (x7_2 + 1)) x7_2 (a0.extract (x6_2 : Int).toNat (x7_2 : Int).toNat) x69_22 = some (r1, r2)) ∧ Aside0 (kq ≤ kj19) ∧ Aside0 (Kd.R Kd.string 9 wc w.heap.size (fun _ => True) u5 x5_2) ∧ Aside0 (Below w.heap.size w wc))
                                  case first =>
                                    have H := HC23.out
                                    clear HC23
                                    by_cases c24 : (a0.extract (x6_2 : Int).toNat (x7_2 : Int).toNat).toList = ([46, 46] : List UInt8)
                                    · rw [if_pos c24] at H
                                      have c24b0 : ((a0.extract (x6_2 : Int).toNat (x7_2 : Int).toNat).toList == ([46, 46] : List UInt8)) = true := beq_iff_eq.mpr c24
                                      have c24b1 : ((a0.extract (x6_2 : Int).toNat (x7_2 : Int).toNat).toList != ([46, 46] : List UInt8)) = false := bne_eq_false_iff_eq.mpr c24
                                      clear c24
                                      (first | rw [c24b0] | (simp only [i64_w, i32_w]; rw [c24b0]) | skip)
                                      have H' := Aside0.mk H
                                      clear H
                                      obtain ⟨Ao25, co25, eo25⟩ := Kd.R_slice HO_5.out
                                      subst eo25
                                      go_wp2
                                      go_meet
                                      case rel => exact ⟨_, (((x5_2.length : Int) == 0)), (by first | rfl | (simp; done) | (simp [*]; done)), H', ⟨by have := HK1.out; have := HK2.out; have := HJ11.out; have := HJ19.out; first | omega | exact Nat.le_refl _⟩, ⟨by (with_reducible repeat (first | apply Kd.R_alloc | apply Kd.R_drewN | apply Kd.R_drew)); exact HO_5.out⟩, ⟨by repeat (first | (with_reducible first | exact HB.out | apply below_alloc | apply pw_below_drewN | apply below_drew1) | exact HB.out)⟩⟩
                                    · rw [if_neg c24] at H
                                      have c24b0 : ((a0.extract (x6_2 : Int).toNat (x7_2 : Int).toNat).toList == ([46, 46] : List UInt8)) = false := beq_eq_false_iff_ne.mpr c24
                                      have c24b1 : ((a0.extract (x6_2 : Int).toNat (x7_2 : Int).toNat).toList != ([46, 46] : List UInt8)) = true := bne_iff_ne.mpr c24
                                      (first | rw [c24b0] | (simp only [i64_w, i32_w]; rw [c24b0]) | skip)
                                      have H' := Aside0.mk H
                                      clear H
                                      go_wp2
                                      go_meet
                                      case rel => exact ⟨_, (false), (by first | rfl | (simp; done) | (simp [*]; done)), H', ⟨by have := HK1.out; have := HK2.out; have := HJ11.out; have := HJ19.out; first | omega | exact Nat.le_refl _⟩, ⟨by (with_reducible repeat (first | apply Kd.R_alloc | apply Kd.R_drewN | apply Kd.R_drew)); exact HO_5.out⟩, ⟨by repeat (first | (with_reducible first | exact HB.out | apply below_alloc | apply pw_below_drewN | apply below_drew1) | exact HB.out)⟩⟩
                                  case rest =>
                                    clear HC23
                                    try clear c1
                                    try clear p1
                                    try clear q1
                                    try clear hx1
                                    try clear c2
                                    try clear c2b0
                                    try clear c2b1
                                    try clear p2
                                    try clear c3
                                    try clear c3b0
                                    try clear c4
                                    try clear c4b0
                                    try clear p5
                                    try clear q5
                                    try clear hx5
                                    try clear p6
                                    try clear c7
                                    try clear c8
                                    try clear c8b0
                                    try clear c8b1
                                    try clear p9
                                    try clear q9
                                    try clear hx9
                                    try clear c10
                                    try clear c10b0
                                    try clear c10b1
                                    try clear c11
                                    try clear c11b0
                                    try clear c13
                                    try clear c13b0
                                    try clear c14
                                    try clear c14b0
                                    try clear p15
                                    try clear q15
                                    try clear hx15
                                    try clear c16
                                    try clear c17
                                    try clear c17b0
                                    try clear c17b1
                                    try clear c18
                                    try clear c18b0
                                    try clear c18b1
                                    try clear c19
                                    try clear c19b0
                                    try clear c19b1
                                    try clear c21
                                    try clear c21b0
                                    try clear c21b1
                                    try clear c22
                                    try clear c24
                                    try clear c24b0
                                    try clear c24b1
                                    try clear p1
                                    try clear p15
                                    try clear p2
                                    try clear p5
                                    try clear p6
                                    try clear p9
                                    try clear q1
                                    try clear q15
                                    try clear q5
                                    try clear q9
                                    obtain ⟨kq, x69_22, rfl, HA, HJ22, HO_5, HB⟩ := hcut
                                    cases kq with
                                    | zero => exact absurd HA.out (by simp [bellowsref03_Clean.j4])
                                    | succ kj22 =>
                                      have H := HA.out
                                      clear HA
                                      simp only [bellowsref03_Clean.j4] at H
                                      by_cases c26 : x69_22 = true
                                      · subst c26
                                        have H1 : (some ((⟨#[]⟩ : ByteArray), 5)) = some (r1, r2) := by rw [if_pos rfl] at H; exact H
                                        clear H
                                        have H := H1
                                        clear H1
                                        simp only [Option.some.injEq, Prod.mk.injEq] at H
                                        obtain ⟨rfl, rfl⟩ := H
                                        go_wp2
                                        go_ret2
                                        exact ⟨by first | rfl | (simp [errW_none, errW_some] <;> rfl) | (simp [*, errW_none, errW_some] <;> rfl), by repeat (first | (with_reducible first | exact HB.out | apply below_alloc | apply pw_below_drewN | apply below_drew1) | exact HB.out)⟩
                                      · replace c26 := Bool.eq_false_iff.mpr c26
                                        subst c26
                                        have H1 : (if (a0.extract (x6_2 : Int).toNat (x7_2 : Int).toNat).toList = ([46, 46] : List UInt8) then (if 0 ≤ (wrap64 ((x5_2.length : Int) - 1)) then (if (wrap64 ((x5_2.length : Int) - 1)) ≤ (x5_2.length : Int) then (bellowsref03_Clean.l1 kj22 a0 (x5_2.take ((wrap64 ((x5_2.length : Int) - 1)) : Int).toNat) (wrap64 (x7_2 + 1)) (wrap64 (x7_2 + 1))) else (none)) else (none)) else (if x5_2.length < 8796093022208 then (bellowsref03_Clean.l1 kj22 a0 (x5_2 ++ [(a0.extract (x6_2 : Int).toNat (x7_2 : Int).toNat)]) (wrap64 (x7_2 + 1)) (wrap64 (x7_2 + 1))) else (none))) = some (r1, r2) := by rw [if_neg (show ¬ (false = true) by decide)] at H; exact H
                                        clear H
                                        have H := H1
                                        clear H1
                                        by_cases c27 : (a0.extract (x6_2 : Int).toNat (x7_2 : Int).toNat).toList = ([46, 46] : List UInt8)
                                        · rw [if_pos c27] at H
                                          have c27b0 : ((a0.extract (x6_2 : Int).toNat (x7_2 : Int).toNat).toList == ([46, 46] : List UInt8)) = true := beq_iff_eq.mpr c27
                                          have c27b1 : ((a0.extract (x6_2 : Int).toNat (x7_2 : Int).toNat).toList != ([46, 46] : List UInt8)) = false := bne_eq_false_iff_eq.mpr c27
                                          clear c27
                                          obtain ⟨ji28, hji28⟩ : ∃ j_ : Int, (wrap64 ((x5_2.length : Int) - 1)) = j_ := ⟨_, rfl⟩
                                          replace H : (if 0 ≤ (ji28) then (if (ji28) ≤ (x5_2.length : Int) then (bellowsref03_Clean.l1 kj22 a0 (x5_2.take ((ji28) : Int).toNat) (wrap64 (x7_2 + 1)) (wrap64 (x7_2 + 1))) else (none)) else (none)) = some (r1, r2) := by first | (rw [hji28] at H; exact H) | (simp only [hji28] at H ⊢; exact H)
                                          have hji28w : (IntKind.i64.wrap ((x5_2.length : Int) - 1)) = ji28 := (i64_w _).trans hji28
                                          by_cases c29 : 0 ≤ (ji28)
                                          · rw [if_pos c29] at H
                                            have c29b0 := eq_true c29
                                            have c29b1 : decide (0 ≤ (ji28)) = true := decide_eq_true c29
                                            clear c29
                                            by_cases c30 : (ji28) ≤ (x5_2.length : Int)
                                            · rw [if_pos c30] at H
                                              have c30b0 := eq_true c30
                                              have c30b1 : decide ((ji28) ≤ (x5_2.length : Int)) = true := decide_eq_true c30
                                              clear c30
                                              obtain ⟨y192, hy192⟩ : ∃ y_ : List ByteArray, y_ = (x5_2.take ((ji28) : Int).toNat) := ⟨_, rfl⟩
                                              replace H : (bellowsref03_Clean.l1 kj22 a0 y192 (wrap64 (x7_2 + 1)) (wrap64 (x7_2 + 1))) = some (r1, r2) := by first | (rw [hy192]; with_reducible exact H) | (have H2_ := (Option.bind_some _ _).symm.trans H; rw [hy192]; with_reducible exact H2_) | (have H2_ := (Option.bind_some _ _).symm.trans H; with_reducible exact H2_) | with_reducible exact H | (rw [hy192]; exact H) | exact H
                                              have Ny192 := Aside0.mk hy192
                                              clear hy192
                                              have H' := Aside0.mk H
                                              clear H
                                              obtain ⟨Ao31, co31, eo31⟩ := Kd.R_slice HO_5.out
                                              subst eo31
                                              have q32 : ((ji28) : Int) ≤ ((x5_2.length : Int) : Int) := of_decide_eq_true (by first | (with_reducible assumption) | assumption)
                                              obtain ⟨i032, hi032, _, hsz32, _⟩ := info_parts info9
                                              have hcut32 := cut_to (P := Tryz.prog) 23 9 .i64 Tryz.underlying23 hi032 Ao31 x5_2.length co31 (ji28) (of_decide_eq_true (by first | (with_reducible assumption) | assumption)) q32 (Kd.R_reads' HO_5.out).2.1
                                              have hr32 := Kd.R_take (m := ((ji28) : Int).toNat) HO_5.out (by omega)
                                              have hy32 : y192.length = ((ji28) : Int).toNat := (by rw [Ny192.out, List.length_take]; omega)
                                              rw [← Ny192.out] at hr32
                                              rw [← hy32] at hr32 hcut32
                                              clear hy32 hi032 hsz32 HO_5
                                              have HO194 := Aside0.mk hr32
                                              clear hr32
                                              replace q32 := eq_true q32
                                              go_wp2
                                              go_roundg kj22
                                              case measure => have := HK1.out; have := HK2.out; have := HJ11.out; have := HJ19.out; have := HJ22.out; omega
                                              case rel => exact ⟨(y192), ((wrap64 (x7_2 + 1))), (wrap64 (x7_2 + 1)), (by first | rfl | (simp; done) | (simp [*]; done)), (by first | rfl | (simp; done) | (simp [*]; done)), H', ⟨by have := HK1.out; have := HK2.out; have := HJ11.out; have := HJ19.out; have := HJ22.out; omega⟩, ⟨by (with_reducible repeat (first | apply Kd.R_alloc | apply Kd.R_drewN | apply Kd.R_drew)); exact HO194.out⟩, ⟨by repeat (first | (with_reducible first | exact HB.out | apply below_alloc | apply pw_below_drewN | apply below_drew1) | exact HB.out)⟩⟩
                                            · rw [if_neg c30] at H
                                              exact absurd H (by simp)
                                          · rw [if_neg c29] at H
                                            exact absurd H (by simp)
                                        · rw [if_neg c27] at H
                                          have c27b0 : ((a0.extract (x6_2 : Int).toNat (x7_2 : Int).toNat).toList == ([46, 46] : List UInt8)) = false := beq_eq_false_iff_ne.mpr c27
                                          have c27b1 : ((a0.extract (x6_2 : Int).toNat (x7_2 : Int).toNat).toList != ([46, 46] : List UInt8)) = true := bne_iff_ne.mpr c27
                                          by_cases c33 : x5_2.length < 8796093022208
                                          · rw [if_pos c33] at H
                                            have LMc33 := Aside0.mk c33
                                            clear c33
                                            obtain ⟨y195, hy195⟩ : ∃ y_ : List ByteArray, y_ = (x5_2 ++ [(a0.extract (x6_2 : Int).toNat (x7_2 : Int).toNat)]) := ⟨_, rfl⟩
                                            replace H : (bellowsref03_Clean.l1 kj22 a0 y195 (wrap64 (x7_2 + 1)) (wrap64 (x7_2 + 1))) = some (r1, r2) := by first | (rw [hy195]; with_reducible exact H) | (have H2_ := (Option.bind_some _ _).symm.trans H; rw [hy195]; with_reducible exact H2_) | (have H2_ := (Option.bind_some _ _).symm.trans H; with_reducible exact H2_) | with_reducible exact H | (rw [hy195]; exact H) | exact H
                                            have Ny195 := Aside0.mk hy195
                                            clear hy195
                                            have H' := Aside0.mk H
                                            clear H
                                            go_wp2_with (first | ((with_reducible refine gate_builtin (b := .append) (xs := #[.tmp 77, .tmp 79]) rfl ?_); (try (refine gate_guard (by rfl) ?_; dsimp only)); at_builtin; refine Kd.R_append Kd.string (w0 := w) w.heap.size rfl (.tmp 77) (.tmp 79) 23 9 (.string ⟨#[]⟩) 16 rfl Tryz.underlying23 info9 rfl (by decide) (by omega) u5 x5_2 (a0.extract (x6_2 : Int).toNat (x7_2 : Int).toNat) [.string (a0.extract (x6_2 : Int).toNat (x7_2 : Int).toNat)] (fun _ => True) (fun _ => False) rfl rfl ?aP (fun _ hk => hk.elim) ?aF ?aO ?aB ?aS ?aL ?_; (case aP => exact rfl); (case aB => exact (by repeat (first | (with_reducible first | exact HB.out | apply below_alloc | apply pw_below_drewN | apply below_drew1) | exact HB.out))); (case aF => exact (fun _ _ => trivial)); (case aO => exact (by (with_reducible repeat (first | apply Kd.R_alloc | apply Kd.R_drewN | apply Kd.R_drew)); exact HO_5.out)); (case aS => exact (below_size (by repeat (first | (with_reducible first | exact HB.out | apply below_alloc | apply pw_below_drewN | apply below_drew1) | exact HB.out)))); (case aL => have := LMc33.out; omega); intro v196 w34 ho hb hg hat; rw [← Ny195.out] at ho; have n0_ := Aside0.mk (hb); have n1_ := Aside0.mk (ho); clear HB; clear HO_5; have HB := n0_; have HO197 := n1_; clear n0_ n1_; clear ho hb hg hat))
                                            go_roundg kj22
                                            case measure => have := HK1.out; have := HK2.out; have := HJ11.out; have := HJ19.out; have := HJ22.out; omega
                                            case rel => exact ⟨(y195), ((wrap64 (x7_2 + 1))), (wrap64 (x7_2 + 1)), (by first | rfl | (simp; done) | (simp [*]; done)), (by first | rfl | (simp; done) | (simp [*]; done)), H', ⟨by have := HK1.out; have := HK2.out; have := HJ11.out; have := HJ19.out; have := HJ22.out; omega⟩, ⟨by (with_reducible repeat (first | apply Kd.R_alloc | apply Kd.R_drewN | apply Kd.R_drew)); exact HO197.out⟩, ⟨by repeat (first | (with_reducible first | exact HB.out | apply below_alloc | apply pw_below_drewN | apply below_drew1) | exact HB.out)⟩⟩
                                          · rw [if_neg c33] at H
                                            exact absurd H (by simp)
                          · rw [if_neg c19] at H
                            exact absurd H (by simp)
                        · rw [if_neg c18] at H
                          exact absurd H (by simp)
                      · rw [if_neg c17] at H
                        exact absurd H (by simp)
              · rw [if_neg c11] at H
                have c11b0 : decide (x7_2 ≤ (a0.size : Int)) = false := decide_eq_false c11
                clear c11
                have H' := Aside0.mk H
                clear H
                go_wp2
                go_loopg [9, 10] k2 (fun kq v9 v10 w' => ∃ (x9_3 : ByteArray) (x10_3 : Int), v9 = .string x9_3 ∧ v10 = .int .i64 x10_3 ∧ Aside0 (bellowsref03_Clean.l2 kq x5_2 x9_3 x10_3 = some (r1, r2)) ∧ Aside0 (kq ≤ k2) ∧ Aside0 (Kd.R Kd.string 9 w' w.heap.size (fun _ => True) u5 x5_2) ∧ Aside0 (Below w.heap.size w w'))
                case atStart => exact ⟨((⟨#[]⟩ : ByteArray)), (0), (by first | rfl | (simp; done) | (simp [*]; done)), (by first | rfl | (simp; done) | (simp [*]; done)), H', ⟨Nat.le_refl _⟩, ⟨by (with_reducible repeat (first | apply Kd.R_alloc | apply Kd.R_drewN | apply Kd.R_drew)); exact HO_5.out⟩, ⟨by repeat (first | (with_reducible first | exact HB.out | apply below_alloc | apply pw_below_drewN | apply below_drew1) | exact HB.out)⟩⟩
                case round =>
                  clear H'
                  try clear c1
                  try clear p1
                  try clear q1
                  try clear hx1
                  try clear c2
                  try clear c2b0
                  try clear c2b1
                  try clear p2
                  try clear c3
                  try clear c3b0
                  try clear q3
                  try clear c4
                  try clear c4b0
                  try clear p5
                  try clear q5
                  try clear hx5
                  try clear p6
                  try clear c7
                  try clear c8
                  try clear c8b0
                  try clear c8b1
                  try clear p9
                  try clear q9
                  try clear hx9
                  try clear c10
                  try clear c10b0
                  try clear c10b1
                  try clear c11
                  try clear c11b0
                  try clear c13
                  try clear c13b0
                  try clear c14
                  try clear c14b0
                  try clear p15
                  try clear q15
                  try clear hx15
                  try clear c16
                  try clear c17
                  try clear c17b0
                  try clear c17b1
                  try clear c18
                  try clear c18b0
                  try clear c18b1
                  try clear c19
                  try clear c19b0
                  try clear c19b1
                  try clear c21
                  try clear c21b0
                  try clear c21b1
                  try clear c22
                  try clear c24
                  try clear c24b0
                  try clear c24b1
                  try clear c26
                  try clear c27
                  try clear c27b0
                  try clear c27b1
                  try clear c29
                  try clear c29b0
                  try clear c29b1
                  try clear c30
                  try clear c30b0
                  try clear c30b1
                  try clear q32
                  try clear c33
                  try clear p1
                  try clear p15
                  try clear p2
                  try clear p5
                  try clear p6
                  try clear p9
                  try clear q1
                  try clear q15
                  try clear q32
                  try clear q5
                  try clear q9
                  obtain ⟨x9_3, x10_3, rfl, rfl, HA, HK3, HO_5, HB⟩ := hrel
                  cases gk with
                  | zero => exact absurd HA.out (by simp [bellowsref03_Clean.l2])
                  | succ k3 =>
                    have H := HA.out
                    clear HA
                    simp only [bellowsref03_Clean.l2] at H
                    by_cases c35 : x10_3 < (x5_2.length : Int)
                    · rw [if_pos c35] at H
                      have c35b0 : decide (x10_3 < (x5_2.length : Int)) = true := decide_eq_true c35
                      clear c35
                      by_cases c36 : x10_3 > 0
                      · rw [if_pos c36] at H
                        have c36b0 : decide (0 < x10_3) = true := decide_eq_true c36
                        clear c36
                        by_cases c37 : x9_3.size + 1 ≤ 9223372036854775807
                        · rw [if_pos c37] at H
                          have c37b0 := eq_true c37
                          have c37b1 : decide (x9_3.size + 1 ≤ 9223372036854775807) = true := decide_eq_true c37
                          try have c37b2 : (9223372036854775807 < x9_3.size + 1) = False := eq_false (Nat.not_lt.2 c37)
                          by_cases c38 : 0 ≤ x10_3
                          · rw [if_pos c38] at H
                            have c38b0 : decide (0 ≤ x10_3) = true := decide_eq_true c38
                            clear c38
                            by_cases c39 : (x9_3 ++ (⟨#[47]⟩ : ByteArray)).size + (rdOf ByteArray.empty x5_2 x10_3).size ≤ 9223372036854775807
                            · rw [if_pos c39] at H
                              have c39b0 := eq_true c39
                              have c39b1 : decide ((x9_3 ++ (⟨#[47]⟩ : ByteArray)).size + (rdOf ByteArray.empty x5_2 x10_3).size ≤ 9223372036854775807) = true := decide_eq_true c39
                              try have c39b2 : (9223372036854775807 < (x9_3 ++ (⟨#[47]⟩ : ByteArray)).size + (rdOf ByteArray.empty x5_2 x10_3).size) = False := eq_false (Nat.not_lt.2 c39)
                              have H' := Aside0.mk H
                              clear H
                              obtain ⟨Ao40, co40, eo40⟩ := Kd.R_slice HO_5.out
                              subst eo40
                              have p198 : 0 ≤ (x10_3 : Int) := of_decide_eq_true (by first | (with_reducible assumption) | assumption)
                              have q198 : x10_3 < (x5_2.length : Int) := of_decide_eq_true (by first | (with_reducible assumption) | assumption)
                              obtain ⟨ad198, e198, hx198_0⟩ := Kd.at_string (Kd.R_reads' HO_5.out).2.2 x10_3 p198 q198
                              cases e198
                              replace p198 := eq_true p198
                              replace q198 := eq_true q198
                              go_wp2
                              go_roundg k3
                              case measure => have := HK1.out; have := HK2.out; have := HK3.out; omega
                              case rel => exact ⟨((x9_3 ++ (⟨#[47]⟩ : ByteArray)) ++ (rdOf ByteArray.empty x5_2 x10_3)), (wrap64 (x10_3 + 1)), (by first | rfl | (simp; done) | (simp [*]; done)), (by first | rfl | (simp; done) | (simp [*]; done)), H', ⟨by have := HK1.out; have := HK2.out; have := HK3.out; omega⟩, ⟨by (with_reducible repeat (first | apply Kd.R_alloc | apply Kd.R_drewN | apply Kd.R_drew)); exact HO_5.out⟩, ⟨by repeat (first | (with_reducible first | exact HB.out | apply below_alloc | apply pw_below_drewN | apply below_drew1) | exact HB.out)⟩⟩
                            · rw [if_neg c39] at H
                              exact absurd H (by simp)
                          · rw [if_neg c38] at H
                            exact absurd H (by simp)
                        · rw [if_neg c37] at H
                          exact absurd H (by simp)
                      · rw [if_neg c36] at H
                        have c36b0 : decide (0 < x10_3) = false := decide_eq_false c36
                        clear c36
                        by_cases c41 : 0 ≤ x10_3
                        · rw [if_pos c41] at H
                          have c41b0 : decide (0 ≤ x10_3) = true := decide_eq_true c41
                          clear c41
                          by_cases c42 : x9_3.size + (rdOf ByteArray.empty x5_2 x10_3).size ≤ 9223372036854775807
                          · rw [if_pos c42] at H
                            have c42b0 := eq_true c42
                            have c42b1 : decide (x9_3.size + (rdOf ByteArray.empty x5_2 x10_3).size ≤ 9223372036854775807) = true := decide_eq_true c42
                            try have c42b2 : (9223372036854775807 < x9_3.size + (rdOf ByteArray.empty x5_2 x10_3).size) = False := eq_false (Nat.not_lt.2 c42)
                            have H' := Aside0.mk H
                            clear H
                            obtain ⟨Ao43, co43, eo43⟩ := Kd.R_slice HO_5.out
                            subst eo43
                            have p199 : 0 ≤ (x10_3 : Int) := of_decide_eq_true (by first | (with_reducible assumption) | assumption)
                            have q199 : x10_3 < (x5_2.length : Int) := of_decide_eq_true (by first | (with_reducible assumption) | assumption)
                            obtain ⟨ad199, e199, hx199_0⟩ := Kd.at_string (Kd.R_reads' HO_5.out).2.2 x10_3 p199 q199
                            cases e199
                            replace p199 := eq_true p199
                            replace q199 := eq_true q199
                            go_wp2
                            go_roundg k3
                            case measure => have := HK1.out; have := HK2.out; have := HK3.out; omega
                            case rel => exact ⟨(x9_3 ++ (rdOf ByteArray.empty x5_2 x10_3)), (wrap64 (x10_3 + 1)), (by first | rfl | (simp; done) | (simp [*]; done)), (by first | rfl | (simp; done) | (simp [*]; done)), H', ⟨by have := HK1.out; have := HK2.out; have := HK3.out; omega⟩, ⟨by (with_reducible repeat (first | apply Kd.R_alloc | apply Kd.R_drewN | apply Kd.R_drew)); exact HO_5.out⟩, ⟨by repeat (first | (with_reducible first | exact HB.out | apply below_alloc | apply pw_below_drewN | apply below_drew1) | exact HB.out)⟩⟩
                          · rw [if_neg c42] at H
                            exact absurd H (by simp)
                        · rw [if_neg c41] at H
                          exact absurd H (by simp)
                    · rw [if_neg c35] at H
                      have c35b0 : decide (x10_3 < (x5_2.length : Int)) = false := decide_eq_false c35
                      clear c35
                      by_cases c44 : x9_3.toList = ([] : List UInt8)
                      · rw [if_pos c44] at H
                        have c44b0 : (x9_3.toList == ([] : List UInt8)) = true := beq_iff_eq.mpr c44
                        have c44b1 : (x9_3.toList != ([] : List UInt8)) = false := bne_eq_false_iff_eq.mpr c44
                        clear c44
                        simp only [Option.some.injEq, Prod.mk.injEq] at H
                        obtain ⟨rfl, rfl⟩ := H
                        obtain ⟨Ao45, co45, eo45⟩ := Kd.R_slice HO_5.out
                        subst eo45
                        go_wp2
                        go_ret2
                        exact ⟨by first | rfl | (simp [errW_none, errW_some] <;> rfl) | (simp [*, errW_none, errW_some] <;> rfl), by repeat (first | (with_reducible first | exact HB.out | apply below_alloc | apply pw_below_drewN | apply below_drew1) | exact HB.out)⟩
                      · rw [if_neg c44] at H
                        have c44b0 : (x9_3.toList == ([] : List UInt8)) = false := beq_eq_false_iff_ne.mpr c44
                        have c44b1 : (x9_3.toList != ([] : List UInt8)) = true := bne_iff_ne.mpr c44
                        by_cases c46 : (x9_3.size : Int) > 100
                        · rw [if_pos c46] at H
                          have c46b0 : decide (100 < (x9_3.size : Int)) = true := decide_eq_true c46
                          have c46b1 : decide (100 < x9_3.size) = true := decide_eq_true (by omega)
                          clear c46
                          simp only [Option.some.injEq, Prod.mk.injEq] at H
                          obtain ⟨rfl, rfl⟩ := H
                          obtain ⟨Ao47, co47, eo47⟩ := Kd.R_slice HO_5.out
                          subst eo47
                          go_wp2
                          go_ret2
                          exact ⟨by first | rfl | (simp [errW_none, errW_some] <;> rfl) | (simp [*, errW_none, errW_some] <;> rfl), by repeat (first | (with_reducible first | exact HB.out | apply below_alloc | apply pw_below_drewN | apply below_drew1) | exact HB.out)⟩
                        · rw [if_neg c46] at H
                          have c46b0 : decide (100 < (x9_3.size : Int)) = false := decide_eq_false c46
                          have c46b1 : decide (100 < x9_3.size) = false := decide_eq_false (by omega)
                          clear c46
                          simp only [Option.some.injEq, Prod.mk.injEq] at H
                          obtain ⟨rfl, rfl⟩ := H
                          obtain ⟨Ao48, co48, eo48⟩ := Kd.R_slice HO_5.out
                          subst eo48
                          go_wp2
                          go_ret2
                          exact ⟨by first | rfl | (simp [errW_none, errW_some] <;> rfl) | (simp [*, errW_none, errW_some] <;> rfl), by repeat (first | (with_reducible first | exact HB.out | apply below_alloc | apply pw_below_drewN | apply below_drew1) | exact HB.out)⟩
end Go.Proofs.YtapdchapjpnceaaGreatDoor.P
end
section
namespace Go.Proofs.YtapdchapjpnceaaGreatDoor.P
open Go.RowKit Go.Proofs.YtapdchapjpnceaaGreatDoorW.PrintWords Go.Proofs.YtapdchapjpnceaaGreatDoorW.PrintLast Go.Proofs.YtapdchapjpnceaaGreatDoorW.PrintMore
attribute [local go_sem] max2_int min2_int max_two min_two max_three min_three max_four min_four
set_option linter.unusedVariables false
set_option linter.unusedSimpArgs false
def bellowsref03_Right.f (k : Nat) (a0 : ByteArray) : Option (Bool) := (bellowsref03_Clean.f k a0).bind fun bt200 => (if bt200.2 = 0 then (some (bt200.1.toList == a0.toList)) else (some false))
theorem bellowsref03_Right.mono : ∀ a0 k, LeO (bellowsref03_Right.f k a0) (bellowsref03_Right.f (k + 1) a0) := by
  intro a0 k
  unfold bellowsref03_Right.f
  repeat' first
      | (with_reducible exact bellowsref03_Clean.mono _ _)
      | (with_reducible exact LeO.refl _)
      | (with_reducible exact LeO.none _)
      | (with_reducible refine LeO.ite ?_ ?_)
      | (with_reducible refine LeO.bind ?_ (fun _ => ?_))
      | exact bellowsref03_Clean.mono _ _
      | exact LeO.none _
      | refine LeO.ite ?_ ?_
      | refine LeO.bind ?_ (fun _ => ?_)
set_option maxHeartbeats 8000000 in
set_option maxRecDepth 100000 in
theorem bellowsref03_Right.calls (k : Nat) (a0 : ByteArray) (r : Bool) (w : World) (h : bellowsref03_Right.f k a0 = some r) :
    Calls Tryz.prog 17 #[.string a0] w fun e w' => e = .returned (.bool r) ∧ Below w.heap.size w w' := by
  have HB := Aside0.mk (Below.refl w.heap.size w)
  have H : ((bellowsref03_Clean.f k a0).bind fun bt200 => (if bt200.2 = 0 then (some (bt200.1.toList == a0.toList)) else (some false))) = some r := h
  clear h
  replace H := Option.bind_eq_some_iff.mp H
  obtain ⟨⟨t200, t201⟩, A20, H⟩ := H
  replace H : (if t201 = 0 then (some (t200.toList == a0.toList)) else (some false)) = some r := H
  have A2 := Aside0.mk A20
  clear A20
  by_cases c3 : t201 = 0
  · rw [if_pos c3] at H
    have c3b0 : (t201 == 0) = true := beq_iff_eq.mpr c3
    have c3b1 : (t201 != 0) = false := bne_eq_false_iff_eq.mpr c3
    clear c3
    obtain rfl := Option.some.inj H
    go_enter Tryz.func17, Tryz.ntmps17
    go_wp2_with (first | ((with_reducible refine gate_callee (f := 29) rfl ?_); refine goesL_ (some 7) rfl rfl Tryz.func29 (by kernel_rfl) rfl #[.string a0] rfl (by (try simp only [List.map_toArray, List.map_cons, List.map_nil]); first | done | rfl | (simp only [List.length_drop, List.length_take]; rfl)) ?_; (with_reducible refine (bellowsref03_Clean.calls k a0 t200 t201 _ A2.out).mono ?_); rintro e w4 ⟨rfl, hb⟩; refine ⟨_, rfl, ?_⟩; have n0_ := Aside0.mk (below_step (by repeat (first | (with_reducible first | exact HB.out | apply below_alloc | apply pw_below_drewN | apply below_drew1) | exact HB.out)) hb); clear HB; have HB := n0_; clear n0_; (try clear hb); (try clear hb2); (try clear hk); (try clear hi)))
    go_ret
    exact ⟨by first | rfl | (simp [errW_none, errW_some] <;> rfl) | (simp [*, errW_none, errW_some] <;> rfl), by repeat (first | (with_reducible first | exact HB.out | apply below_alloc | apply pw_below_drewN | apply below_drew1) | exact HB.out)⟩
  · rw [if_neg c3] at H
    have c3b0 : (t201 == 0) = false := beq_eq_false_iff_ne.mpr c3
    have c3b1 : (t201 != 0) = true := bne_iff_ne.mpr c3
    obtain rfl := Option.some.inj H
    go_enter Tryz.func17, Tryz.ntmps17
    go_wp2_with (first | ((with_reducible refine gate_callee (f := 29) rfl ?_); refine goesL_ (some 7) rfl rfl Tryz.func29 (by kernel_rfl) rfl #[.string a0] rfl (by (try simp only [List.map_toArray, List.map_cons, List.map_nil]); first | done | rfl | (simp only [List.length_drop, List.length_take]; rfl)) ?_; (with_reducible refine (bellowsref03_Clean.calls k a0 t200 t201 _ A2.out).mono ?_); rintro e w5 ⟨rfl, hb⟩; refine ⟨_, rfl, ?_⟩; have n0_ := Aside0.mk (below_step (by repeat (first | (with_reducible first | exact HB.out | apply below_alloc | apply pw_below_drewN | apply below_drew1) | exact HB.out)) hb); clear HB; have HB := n0_; clear n0_; (try clear hb); (try clear hb2); (try clear hk); (try clear hi)))
    go_ret
    exact ⟨by first | rfl | (simp [errW_none, errW_some] <;> rfl) | (simp [*, errW_none, errW_some] <;> rfl), by repeat (first | (with_reducible first | exact HB.out | apply below_alloc | apply pw_below_drewN | apply below_drew1) | exact HB.out)⟩
end Go.Proofs.YtapdchapjpnceaaGreatDoor.P
end
section
set_option linter.unusedSimpArgs false
set_option linter.unusedVariables false
namespace Go.Proofs.YtapdchapjpnceaaGreatDoor.PTh
open Go.RowKit Go.Proofs.YtapdchapjpnceaaGreatDoorW.PrintWords Go.Proofs.YtapdchapjpnceaaGreatDoor.U Go.Proofs.YtapdchapjpnceaaGreatDoor.P Go.Proofs.YtapdchapjpnceaaGreatDoor.Rng
theorem plain_all : ((List.range 256).all fun n => bellowsref03_plain.f (n : Int) == some (plainR n)) = true := by decide +kernel
theorem plain_f (b : UInt8) : bellowsref03_plain.f (b.toNat : Int) = some (plainB b) := by
  have h := List.all_eq_true.1 plain_all b.toNat (List.mem_range.2 b.toNat_lt)
  exact beq_iff_eq.1 h
def fin (qs : List (List UInt8)) : ByteArray × Int := if joinP qs = [] then (B [], 5) else if 100 < (joinP qs).length then (B [], 3) else (B (joinP qs), 0)
theorem joinP_take (qs : List (List UInt8)) (i : Nat) : (joinP (qs.take i)).length ≤ (joinP qs).length := by
  by_cases h1 : qs.take i = []
  · rw [h1]; exact Nat.zero_le _
  · by_cases h2 : qs.drop i = []
    · have := List.take_append_drop i qs
      rw [h2, List.append_nil] at this
      rw [this]; exact Nat.le_refl _
    · have := joinP_append _ _ h1 h2
      rw [List.take_append_drop] at this
      rw [this, List.length_append]; omega
theorem ref_l2 (qs : List (List UInt8)) (hn : qs.length < 1000000) (hl : (joinP qs).length < 1000000) (d : Nat) : ∀ i : Nat, i + d = qs.length →
    Ev (fun k => bellowsref03_Clean.l2 k (qs.map B) (B (joinP (qs.take i))) (i : Int)) (fin qs) := by
  induction d with
  | zero =>
    intro i hi
    refine Ev.unroll ?_
    have h1 : ¬ (i : Int) < ((qs.map B).length : Int) := by rw [List.length_map]; omega
    have h2 : qs.take i = qs := List.take_of_length_le (by omega)
    simp only [bellowsref03_Clean.l2, if_neg h1, h2, toList_B, size_B]
    unfold fin
    by_cases h3 : joinP qs = []
    · simp only [if_pos h3]; exact Ev.now _
    · by_cases h4 : 100 < (joinP qs).length
      · have h5 : ((joinP qs).length : Int) > 100 := by omega
        simp only [if_neg h3, if_pos h4, if_pos h5]; exact Ev.now _
      · have h5 : ¬ ((joinP qs).length : Int) > 100 := by omega
        simp only [if_neg h3, if_neg h4, if_neg h5]; exact Ev.now _
  | succ d ih =>
    intro i hi
    refine Ev.unroll ?_
    have hlt : i < qs.length := by omega
    have h1 : (i : Int) < ((qs.map B).length : Int) := by rw [List.length_map]; omega
    have h0 : (0 : Int) ≤ (i : Int) := by omega
    have hr := ih (i + 1) (by omega)
    have hw := Aside0.mk (wrap_succ i (by omega))
    have hrd : rdOf ByteArray.empty (qs.map B) (i : Int) = B qs[i] := by rw [rdOf_B _ _ (by simpa using hlt)]; simp
    have htk : qs.take (i + 1) = qs.take i ++ [qs[i]] := by rw [List.take_add_one, List.getElem?_eq_getElem hlt]; rfl
    have hb1 := joinP_take qs i
    have hb2 := joinP_take qs (i + 1)
    by_cases hi0 : i = 0
    · subst hi0
      have h2 : ¬ ((0 : Nat) : Int) > 0 := by omega
      have e1 : joinP (qs.take (0 + 1)) = qs[0] := by rw [htk]; simp [joinP_one]
      rw [e1] at hb2 hr
      have s1 : (B (joinP (qs.take 0))).size + (B qs[0]).size ≤ 9223372036854775807 := by rw [size_B, size_B]; omega
      have e2 : B (joinP (qs.take 0)) ++ B qs[0] = B qs[0] := by rw [B_append]; simp [joinP_nil]
      simp only [bellowsref03_Clean.l2, if_pos h1, if_neg h2, if_pos h0, hrd, if_pos s1, e2, hw.out]
      exact hr
    · have h2 : (i : Int) > 0 := by omega
      have hne : qs.take i ≠ [] := by
        intro e
        have := congrArg List.length e
        rw [List.length_take, List.length_nil] at this
        omega
      have e1 : joinP (qs.take (i + 1)) = joinP (qs.take i) ++ 47 :: qs[i] := by rw [htk, joinP_snoc _ hne]
      rw [e1] at hb2 hr
      rw [List.length_append, List.length_cons] at hb2
      have e2 : (B (joinP (qs.take i)) ++ (⟨#[47]⟩ : ByteArray)) ++ B qs[i] = B (joinP (qs.take i) ++ 47 :: qs[i]) := by
        show (B _ ++ B [47]) ++ B _ = _
        rw [B_append, B_append]; simp
      have s1 : (B (joinP (qs.take i))).size + 1 ≤ 9223372036854775807 := by rw [size_B]; omega
      have s2 : (B (joinP (qs.take i)) ++ (⟨#[47]⟩ : ByteArray)).size + (B qs[i]).size ≤ 9223372036854775807 := by
        show (B (joinP (qs.take i)) ++ B [47]).size + (B qs[i]).size ≤ _
        rw [B_append, size_B, size_B, List.length_append, List.length_singleton]; omega
      simp only [bellowsref03_Clean.l2, if_pos h1, if_pos h2, if_pos h0, hrd, if_pos s1, if_pos s2, e2, hw.out]
      exact hr
def step1 (w : List UInt8) (ps : List (List UInt8)) : Option (List (List UInt8)) :=
  if w = [] ∨ w = [46] then some ps else if w = [46, 46] then (if ps = [] then none else some ps.dropLast) else some (ps ++ [w])
theorem foldP_step (w : List UInt8) (r ps : List (List UInt8)) : foldP (w :: r) ps = (step1 w ps).bind (foldP r) := by
  rw [foldP, step1]
  by_cases h1 : w = [] ∨ w = [46]
  · rw [if_pos h1, if_pos h1]; rfl
  · rw [if_neg h1, if_neg h1]
    by_cases h2 : w = [46, 46]
    · rw [if_pos h2, if_pos h2]
      by_cases h3 : ps = []
      · rw [if_pos h3, if_pos h3]; rfl
      · rw [if_neg h3, if_neg h3]; rfl
    · rw [if_neg h2, if_neg h2]; rfl
theorem step1_len {w : List UInt8} {ps qs : List (List UInt8)} (h : step1 w ps = some qs) : qs.length ≤ ps.length + 1 ∧ (joinP qs).length ≤ (joinP ps).length + 1 + w.length := by
  rw [step1] at h
  by_cases h1 : w = [] ∨ w = [46]
  · rw [if_pos h1] at h; cases h; omega
  · rw [if_neg h1] at h
    by_cases h2 : w = [46, 46]
    · rw [if_pos h2] at h
      by_cases h3 : ps = []
      · rw [if_pos h3] at h; cases h
      · rw [if_neg h3] at h; cases h
        have := joinP_take ps (ps.length - 1)
        rw [← List.dropLast_eq_take] at this
        rw [List.length_dropLast]; omega
    · rw [if_neg h2] at h; cases h
      by_cases h3 : ps = []
      · subst h3; simp [joinP_one, joinP_nil]
      · rw [joinP_snoc _ h3]; simp; omega
theorem ref_part (T p w r : List UInt8) (ps : List (List UInt8)) (R : ByteArray × Int) (hT : T = p ++ (w ++ r)) (hl : T.length < 100000) (hps : ps.length < 1000000)
    (h0 : step1 w ps = none → R = (B [], 5))
    (h1 : ∀ qs, step1 w ps = some qs → Ev (fun k => bellowsref03_Clean.l1 k (B T) (qs.map B) ((p.length + w.length + 1 : Nat) : Int) ((p.length + w.length + 1 : Nat) : Int)) R) :
    Ev (fun k => bellowsref03_Clean.j2 k (B T) (ps.map B) (p.length : Int) ((p.length + w.length : Nat) : Int) false) R := by
  refine Ev.unroll ?_
  have hTl : T.length = p.length + (w.length + r.length) := by rw [hT]; simp
  have a1 : (0 : Int) ≤ (p.length : Int) := by omega
  have a2 : (p.length : Int) ≤ ((p.length + w.length : Nat) : Int) := by omega
  have a3 : ((p.length + w.length : Nat) : Int) ≤ ((B T).size : Int) := by rw [size_B]; omega
  have hex : (B T).extract (p.length : Int).toNat ((p.length + w.length : Nat) : Int).toNat = B w := by
    rw [extract_B, Int.toNat_natCast, Int.toNat_natCast, hT, ← List.append_assoc, List.take_left' (by simp)]; simp
  have hw := Aside0.mk (show wrap64 (((p.length + w.length : Nat) : Int) + 1) = ((p.length + w.length + 1 : Nat) : Int) from wrap_succ _ (by omega))
  simp only [bellowsref03_Clean.j2, Bool.false_eq_true, if_false, if_pos a1, if_pos a2, if_pos a3, hex, hw.out, toList_B]
  by_cases c1 : w = []
  · simp only [if_pos c1]
    refine Ev.unroll ?_
    simp only [bellowsref03_Clean.j3, if_true, hw.out]
    exact h1 ps (by rw [step1, if_pos (.inl c1)])
  · simp only [if_neg c1]
    refine Ev.unroll ?_
    by_cases c2 : w = [46]
    · have : (w == ([46] : List UInt8)) = true := beq_iff_eq.2 c2
      simp only [bellowsref03_Clean.j3, this, if_true, hw.out]
      exact h1 ps (by rw [step1, if_pos (.inr c2)])
    · have : (w == ([46] : List UInt8)) = false := beq_eq_false_iff_ne.2 c2
      have c12 : ¬ (w = [] ∨ w = [46]) := by simp [c1, c2]
      simp only [bellowsref03_Clean.j3, this, Bool.false_eq_true, if_false, toList_B]
      by_cases c3 : w = [46, 46]
      · simp only [if_pos c3]
        refine Ev.unroll ?_
        by_cases c4 : ps = []
        · subst c4
          simp only [bellowsref03_Clean.j4, List.map_nil, List.length_nil]
          simp only [show (((0 : Nat) : Int) == 0) = true from rfl, if_true]
          have := h0 (by rw [step1, if_neg c12, if_pos c3, if_pos rfl])
          subst this
          exact Ev.now _
        · have hpl : 0 < ps.length := List.length_pos_iff.2 c4
          have e0 : (((ps.map B).length : Int) == 0) = false := by rw [beq_eq_false_iff_ne, List.length_map]; omega
          have e1 : wrap64 (((ps.map B).length : Int) - 1) = ((ps.length - 1 : Nat) : Int) := by rw [List.length_map, wrap_id _ (by omega) (by omega)]; omega
          have e2 : (0 : Int) ≤ ((ps.length - 1 : Nat) : Int) := by omega
          have e3 : ((ps.length - 1 : Nat) : Int) ≤ ((ps.map B).length : Int) := by rw [List.length_map]; omega
          have e4 : (ps.map B).take ((ps.length - 1 : Nat) : Int).toNat = ps.dropLast.map B := by rw [Int.toNat_natCast, List.dropLast_eq_take, List.map_take]
          simp only [bellowsref03_Clean.j4, e0, Bool.false_eq_true, if_false, toList_B, if_pos c3, e1, if_pos e2, if_pos e3, e4, hw.out]
          exact h1 _ (by rw [step1, if_neg c12, if_pos c3, if_neg c4])
      · simp only [if_neg c3]
        refine Ev.unroll ?_
        have e1 : (ps.map B).length < 8796093022208 := by rw [List.length_map]; omega
        simp only [bellowsref03_Clean.j4, Bool.false_eq_true, if_false, toList_B, if_neg c3, if_pos e1, hw.out]
        have := h1 (ps ++ [w]) (by rw [step1, if_neg c12, if_neg c3])
        rw [List.map_append] at this
        exact this
def Rof (o : Option (List (List UInt8))) : ByteArray × Int := match o with | none => (B [], 5) | some qs => fin qs
theorem ref_l1 (n : Nat) : ∀ (T p w s : List UInt8) (ps : List (List UInt8)), s.length = n → T = p ++ (w ++ s) → (47 : UInt8) ∉ w → T.length < 100000 → ps.length + s.length < 500000 →
    (joinP ps).length + w.length + s.length < 500000 →
    Ev (fun k => bellowsref03_Clean.l1 k (B T) (ps.map B) (p.length : Int) ((p.length + w.length : Nat) : Int)) (Rof (foldP (sp (w ++ s)) ps)) := by
  induction n with
  | zero =>
    intro T p w s ps hs hT hw hl hps hj
    obtain rfl := List.length_eq_zero_iff.1 hs
    simp only [List.length_nil, Nat.add_zero] at hps hj
    refine Ev.unroll ?_
    have hTl : T.length = p.length + w.length := by rw [hT]; simp
    have h1 : ((p.length + w.length : Nat) : Int) ≤ ((B T).size : Int) := by rw [size_B]; omega
    have h2 : ¬ ((p.length + w.length : Nat) : Int) < ((B T).size : Int) := by rw [size_B]; omega
    simp only [bellowsref03_Clean.l1, if_pos h1, if_neg h2]
    rw [List.append_nil, sp_none w hw, foldP_step]
    refine ref_part T p w [] ps _ hT hl (by omega) (fun h => by rw [h]; rfl) (fun qs h => ?_)
    have hq := step1_len h
    rw [h]
    refine Ev.unroll ?_
    have h3 : ¬ ((p.length + w.length + 1 : Nat) : Int) ≤ ((B T).size : Int) := by rw [size_B]; omega
    simp only [bellowsref03_Clean.l1, if_neg h3]
    have := ref_l2 qs (by omega) (by omega) qs.length 0 (by omega)
    exact this
  | succ n ih =>
    intro T p w s ps hs hT hw hl hps hj
    cases s with
    | nil => cases hs
    | cons b s =>
      simp only [List.length_cons] at hs hps hj
      refine Ev.unroll ?_
      have hTl : T.length = p.length + (w.length + (s.length + 1)) := by rw [hT]; simp
      have h1 : ((p.length + w.length : Nat) : Int) ≤ ((B T).size : Int) := by rw [size_B]; omega
      have h2 : ((p.length + w.length : Nat) : Int) < ((B T).size : Int) := by rw [size_B]; omega
      have h3 : (0 : Int) ≤ ((p.length + w.length : Nat) : Int) := by omega
      have hbt : bt (B T) ((p.length + w.length : Nat) : Int) = (b.toNat : Int) := by
        have := bt_mid (p ++ w) b s
        rw [List.length_append, List.append_assoc, ← hT] at this
        exact this
      simp only [bellowsref03_Clean.l1, if_pos h1, if_pos h2, if_pos h3, hbt]
      by_cases hb : b = 47
      · subst hb
        have e1 : (((47 : UInt8).toNat : Int) != 47) = false := rfl
        rw [e1, sp_at w s hw, foldP_step]
        refine ref_part T p w (47 :: s) ps _ hT hl (by omega) (fun h => by rw [h]; rfl) (fun qs h => ?_)
        have hq := step1_len h
        rw [h]
        have := ih T (p ++ (w ++ [47])) [] s qs (by omega) (by rw [hT]; simp) (by simp) hl (by omega) (by simp; omega)
        simp only [List.length_append, List.length_singleton, List.length_nil, Nat.add_zero, List.nil_append] at this
        exact this
      · have e1 : ((b.toNat : Int) != 47) = true := bne_iff_ne.2 (byte_ne (d := 47) hb)
        rw [e1]
        refine Ev.unroll ?_
        have hw2 := Aside0.mk (show wrap64 (((p.length + w.length : Nat) : Int) + 1) = ((p.length + w.length + 1 : Nat) : Int) from wrap_succ _ (by omega))
        simp only [bellowsref03_Clean.j2, if_true, hw2.out]
        have := ih T p (w ++ [b]) s ps (by omega) (by rw [hT]; simp) (by simp [hw, Ne.symm hb]) hl (by omega) (by rw [List.length_append, List.length_singleton]; omega)
        rw [List.length_append, List.length_singleton, List.append_assoc] at this
        exact this
theorem ref_l0 (n : Nat) (T : List UInt8) (hl : T.length < 100000) : ∀ (p s : List UInt8), s.length = n → T = p ++ s → (p ≠ [] → T.head? ≠ some 47) → p.all plainB = true →
    Ev (fun k => bellowsref03_Clean.l0 k (B T) (p.length : Int)) (if T.head? = some 47 ∨ T.all plainB = false then (B [], 5) else Rof (foldP (sp T) [])) := by
  induction n with
  | zero =>
    intro p s hs hT hh hp
    obtain rfl := List.length_eq_zero_iff.1 hs
    rw [List.append_nil] at hT
    subst hT
    refine Ev.unroll ?_
    have h1 : ¬ (T.length : Int) < ((B T).size : Int) := by rw [size_B]; omega
    have hh' : ¬ (T.head? = some 47 ∨ T.all plainB = false) := by
      rintro (h | h)
      · cases T with
        | nil => cases h
        | cons b t => exact hh (by simp) h
      · rw [hp] at h; cases h
    simp only [bellowsref03_Clean.l0, if_neg h1, if_neg hh']
    have := ref_l1 T.length T [] [] T [] rfl rfl (by simp) hl (by simp; omega) (by simp [joinP_nil]; omega)
    exact this
  | succ n ih =>
    intro p s hs hT hh hp
    cases s with
    | nil => cases hs
    | cons b s =>
      refine Ev.unroll ?_
      have hTl : T.length = p.length + (s.length + 1) := by rw [hT]; simp
      have h1 : (p.length : Int) < ((B T).size : Int) := by rw [size_B]; omega
      have h2 : (0 : Int) ≤ (p.length : Int) := by omega
      have hbt : bt (B T) (p.length : Int) = (b.toNat : Int) := by rw [hT]; exact bt_mid p b s
      have hw := Aside0.mk (show wrap64 ((p.length : Int) + 1) = ((p.length + 1 : Nat) : Int) from wrap_succ _ (by omega))
      simp only [bellowsref03_Clean.l0, if_pos h1, if_pos h2, hbt, plain_f, Option.bind_some, hw.out]
      by_cases hb : plainB b = true
      · simp only [if_pos hb]
        have go : (T.head? ≠ some 47) → Ev (fun k => bellowsref03_Clean.l0 k (B T) ((p.length + 1 : Nat) : Int)) (if T.head? = some 47 ∨ T.all plainB = false then (B [], 5) else Rof (foldP (sp T) [])) := fun hd => by
          have := ih (p ++ [b]) s (by simpa using hs) (by rw [hT]; simp) (fun _ => hd) (by rw [List.all_append, hp]; simp [hb])
          rw [List.length_append, List.length_singleton] at this
          exact this
        by_cases hp0 : p = []
        · subst hp0
          have hd : T.head? = some b := by rw [hT]; rfl
          simp only [List.length_nil]
          simp only [show ((0 : Nat) : Int) = 0 from rfl, if_true]
          by_cases hb47 : b = 47
          · subst hb47
            simp only [show ((47 : UInt8).toNat : Int) = 47 from rfl, if_true, if_pos (Or.inl hd)]
            exact Ev.now _
          · simp only [if_neg (show ¬ (b.toNat : Int) = 47 from byte_ne (d := 47) hb47)]
            have := go (by rw [hd]; simpa using hb47)
            simpa using this
        · have h3 : ¬ (p.length : Int) = 0 := by
            have := List.length_pos_iff.2 hp0
            omega
          simp only [if_neg h3]
          exact go (hh hp0)
      · simp only [if_neg hb]
        have : T.all plainB = false := by
          rw [hT, List.all_append, List.all_cons]
          simp [hb]
        rw [if_pos (.inr this)]
        exact Ev.now _
theorem ref_Clean (l : List UInt8) : Ev (fun k => bellowsref03_Clean.f k (B l)) (B (cleanL l).1, (cleanL l).2) := by
  by_cases h : ((B l).size : Int) > 1000
  · have h' : 1000 < l.length := by rw [size_B] at h; omega
    simp only [bellowsref03_Clean.f, if_pos h, cleanL, if_pos h']
    exact Ev.now _
  · have h' : ¬ 1000 < l.length := by rw [size_B] at h; omega
    simp only [bellowsref03_Clean.f, if_neg h]
    have := ref_l0 l.length l (by omega) [] l rfl rfl (by simp) rfl
    refine Ev.eqn this ?_
    rw [cleanL, if_neg h']
    by_cases h2 : l.head? = some 47 ∨ l.all plainB = false
    · rw [if_pos h2, if_pos h2]
    · rw [if_neg h2, if_neg h2]
      show Rof (foldP (splitK 47 0 l) []) = _
      cases foldP (splitK 47 0 l) [] with
      | none => rfl
      | some ps =>
        simp only [Rof, fin]
        split
        · rfl
        · split <;> rfl
theorem ref_Right (l : List UInt8) : Ev (fun k => bellowsref03_Right.f k (B l)) (decide (cleanL l = (l, 0))) := by
  simp only [bellowsref03_Right.f]
  refine Ev.bind (ref_Clean l) ?_
  simp only [toList_B]
  by_cases h : (cleanL l).2 = 0
  · rw [if_pos h]
    refine Ev.eqn (Ev.now _) ?_
    rw [Bool.eq_iff_iff, beq_iff_eq, decide_eq_true_iff]
    exact ⟨fun e => Prod.ext e h, fun e => by rw [e]⟩
  · rw [if_neg h]
    refine Ev.eqn (Ev.now _) ?_
    symm
    rw [decide_eq_false_iff_not]
    intro e; rw [e] at h; exact h rfl
end Go.Proofs.YtapdchapjpnceaaGreatDoor.PTh
end
section
namespace Go.Proofs.YtapdchapjpnceaaGreatDoor.P
open Go.RowKit Go.Proofs.YtapdchapjpnceaaGreatDoorW.PrintWords Go.Proofs.YtapdchapjpnceaaGreatDoorW.PrintLast Go.Proofs.YtapdchapjpnceaaGreatDoorW.PrintMore
attribute [local go_sem] max2_int min2_int max_two min_two max_three min_three max_four min_four
set_option linter.unusedVariables false
set_option linter.unusedSimpArgs false
def bellowsref10_Escape.l0 : Nat → ByteArray → ByteArray → Int → Option (ByteArray)
  | 0, _, _, _ => none
  | k + 1, x0, x3, x4 => if x4 < (x0.size : Int) then (if 0 ≤ x4 then (if (bt x0 x4) = 36 then (if x3.size + 1 ≤ 9223372036854775807 then (if x4 ≤ (wrap64 (x4 + 1)) then (if (wrap64 (x4 + 1)) ≤ (x0.size : Int) then (if (x3 ++ (⟨#[36]⟩ : ByteArray)).size + (x0.extract (x4 : Int).toNat ((wrap64 (x4 + 1)) : Int).toNat).size ≤ 9223372036854775807 then (bellowsref10_Escape.l0 k x0 ((x3 ++ (⟨#[36]⟩ : ByteArray)) ++ (x0.extract (x4 : Int).toNat ((wrap64 (x4 + 1)) : Int).toNat)) (wrap64 (x4 + 1))) else (none)) else (none)) else (none)) else (none)) else (if (bt x0 x4) = 32 then (if x3.size + 1 ≤ 9223372036854775807 then (if x4 ≤ (wrap64 (x4 + 1)) then (if (wrap64 (x4 + 1)) ≤ (x0.size : Int) then (if (x3 ++ (⟨#[36]⟩ : ByteArray)).size + (x0.extract (x4 : Int).toNat ((wrap64 (x4 + 1)) : Int).toNat).size ≤ 9223372036854775807 then (bellowsref10_Escape.l0 k x0 ((x3 ++ (⟨#[36]⟩ : ByteArray)) ++ (x0.extract (x4 : Int).toNat ((wrap64 (x4 + 1)) : Int).toNat)) (wrap64 (x4 + 1))) else (none)) else (none)) else (none)) else (none)) else (if (bt x0 x4) = 58 then (if x3.size + 1 ≤ 9223372036854775807 then (if x4 ≤ (wrap64 (x4 + 1)) then (if (wrap64 (x4 + 1)) ≤ (x0.size : Int) then (if (x3 ++ (⟨#[36]⟩ : ByteArray)).size + (x0.extract (x4 : Int).toNat ((wrap64 (x4 + 1)) : Int).toNat).size ≤ 9223372036854775807 then (bellowsref10_Escape.l0 k x0 ((x3 ++ (⟨#[36]⟩ : ByteArray)) ++ (x0.extract (x4 : Int).toNat ((wrap64 (x4 + 1)) : Int).toNat)) (wrap64 (x4 + 1))) else (none)) else (none)) else (none)) else (none)) else (if (bt x0 x4) = 124 then (if x3.size + 1 ≤ 9223372036854775807 then (if x4 ≤ (wrap64 (x4 + 1)) then (if (wrap64 (x4 + 1)) ≤ (x0.size : Int) then (if (x3 ++ (⟨#[36]⟩ : ByteArray)).size + (x0.extract (x4 : Int).toNat ((wrap64 (x4 + 1)) : Int).toNat).size ≤ 9223372036854775807 then (bellowsref10_Escape.l0 k x0 ((x3 ++ (⟨#[36]⟩ : ByteArray)) ++ (x0.extract (x4 : Int).toNat ((wrap64 (x4 + 1)) : Int).toNat)) (wrap64 (x4 + 1))) else (none)) else (none)) else (none)) else (none)) else (if x4 ≤ (wrap64 (x4 + 1)) then (if (wrap64 (x4 + 1)) ≤ (x0.size : Int) then (if x3.size + (x0.extract (x4 : Int).toNat ((wrap64 (x4 + 1)) : Int).toNat).size ≤ 9223372036854775807 then (bellowsref10_Escape.l0 k x0 (x3 ++ (x0.extract (x4 : Int).toNat ((wrap64 (x4 + 1)) : Int).toNat)) (wrap64 (x4 + 1))) else (none)) else (none)) else (none)))))) else (none)) else (some x3)
def bellowsref10_Escape.f (k : Nat) (a0 : ByteArray) : Option (ByteArray) := bellowsref10_Escape.l0 k a0 (⟨#[]⟩ : ByteArray) 0
theorem bellowsref10_Escape.mono_l : ∀ k, (∀ y0 y1 y2, LeO (bellowsref10_Escape.l0 k y0 y1 y2) (bellowsref10_Escape.l0 (k + 1) y0 y1 y2))
  | 0 => fun _ _ _ r h => by simp [bellowsref10_Escape.l0] at h
  | k + 1 => by
    have ih0 := bellowsref10_Escape.mono_l k
    · intro y0 y1 y2
      unfold bellowsref10_Escape.l0
      repeat' first
      | (with_reducible exact ih0 _ _ _)
      | (with_reducible exact LeO.refl _)
      | (with_reducible exact LeO.none _)
      | (with_reducible refine LeO.ite ?_ ?_)
      | (with_reducible refine LeO.bind ?_ (fun _ => ?_))
      | exact ih0 _ _ _
      | exact LeO.none _
      | refine LeO.ite ?_ ?_
      | refine LeO.bind ?_ (fun _ => ?_)
theorem bellowsref10_Escape.mono : ∀ a0 k, LeO (bellowsref10_Escape.f k a0) (bellowsref10_Escape.f (k + 1) a0) := by
  intro a0 k
  have ih0 := bellowsref10_Escape.mono_l k
  unfold bellowsref10_Escape.f
  repeat' first
      | (with_reducible exact ih0 _ _ _)
      | (with_reducible exact LeO.refl _)
      | (with_reducible exact LeO.none _)
      | (with_reducible refine LeO.ite ?_ ?_)
      | (with_reducible refine LeO.bind ?_ (fun _ => ?_))
      | exact ih0 _ _ _
      | exact LeO.none _
      | refine LeO.ite ?_ ?_
      | refine LeO.bind ?_ (fun _ => ?_)
set_option maxHeartbeats 8000000 in
set_option maxRecDepth 100000 in
theorem bellowsref10_Escape.calls (k : Nat) (a0 : ByteArray) (r : ByteArray) (w : World) (h : bellowsref10_Escape.f k a0 = some r) :
    Calls Tryz.prog 23 #[.string a0] w fun e w' => e = .returned (.string r) ∧ Drawn0 w w' := by
  have H : (bellowsref10_Escape.l0 k a0 (⟨#[]⟩ : ByteArray) 0) = some r := h
  clear h
  have H' := Aside0.mk H
  clear H
  go_enter Tryz.func23, Tryz.ntmps23
  go_wp2
  go_loopg [3, 4] k (fun kq v3 v4 w' => ∃ (x3_1 : ByteArray) (x4_1 : Int), v3 = .string x3_1 ∧ v4 = .int .i64 x4_1 ∧ Aside0 (bellowsref10_Escape.l0 kq a0 x3_1 x4_1 = some r) ∧ Aside0 (kq ≤ k) ∧ Drawn0 w w')
  case atStart => exact ⟨((⟨#[]⟩ : ByteArray)), (0), (by first | rfl | (simp; done) | (simp [*]; done)), (by first | rfl | (simp; done) | (simp [*]; done)), H', ⟨Nat.le_refl _⟩, by repeat (first | exact Drawn0.refl _ | apply Drawn0.step)⟩
  case round =>
    clear H'
    obtain ⟨x3_1, x4_1, rfl, rfl, HA, HK1, ⟨m1, rfl⟩⟩ := hrel
    cases gk with
    | zero => exact absurd HA.out (by simp [bellowsref10_Escape.l0])
    | succ k1 =>
      have H := HA.out
      clear HA
      simp only [bellowsref10_Escape.l0] at H
      by_cases c2 : x4_1 < (a0.size : Int)
      · rw [if_pos c2] at H
        have c2b0 : decide (x4_1 < (a0.size : Int)) = true := decide_eq_true c2
        clear c2
        by_cases c3 : 0 ≤ x4_1
        · rw [if_pos c3] at H
          have c3b0 : decide (0 ≤ x4_1) = true := decide_eq_true c3
          clear c3
          by_cases c5 : (bt a0 x4_1) = 36
          · rw [if_pos c5] at H
            have c5b0 : ((bt a0 x4_1) == 36) = true := beq_iff_eq.mpr c5
            have c5b1 : ((bt a0 x4_1) != 36) = false := bne_eq_false_iff_eq.mpr c5
            clear c5
            by_cases c6 : x3_1.size + 1 ≤ 9223372036854775807
            · rw [if_pos c6] at H
              have c6b0 := eq_true c6
              have c6b1 : decide (x3_1.size + 1 ≤ 9223372036854775807) = true := decide_eq_true c6
              try have c6b2 : (9223372036854775807 < x3_1.size + 1) = False := eq_false (Nat.not_lt.2 c6)
              try have c6b7 : (9223372036854775806 < x3_1.size) = False := eq_false (by omega)
              have c7b0 := eq_true (of_decide_eq_true (by first | (with_reducible assumption) | assumption) : 0 ≤ x4_1)
              by_cases c8 : x4_1 ≤ (wrap64 (x4_1 + 1))
              · rw [if_pos c8] at H
                have c8b0 := eq_true c8
                have c8b1 : decide (x4_1 ≤ (wrap64 (x4_1 + 1))) = true := decide_eq_true c8
                by_cases c9 : (wrap64 (x4_1 + 1)) ≤ (a0.size : Int)
                · rw [if_pos c9] at H
                  have c9b0 := eq_true c9
                  have c9b1 : decide ((wrap64 (x4_1 + 1)) ≤ (a0.size : Int)) = true := decide_eq_true c9
                  by_cases c10 : (x3_1 ++ (⟨#[36]⟩ : ByteArray)).size + (a0.extract (x4_1 : Int).toNat ((wrap64 (x4_1 + 1)) : Int).toNat).size ≤ 9223372036854775807
                  · rw [if_pos c10] at H
                    have c10b0 := eq_true c10
                    have c10b1 : decide ((x3_1 ++ (⟨#[36]⟩ : ByteArray)).size + (a0.extract (x4_1 : Int).toNat ((wrap64 (x4_1 + 1)) : Int).toNat).size ≤ 9223372036854775807) = true := decide_eq_true c10
                    try have c10b2 : (9223372036854775807 < (x3_1 ++ (⟨#[36]⟩ : ByteArray)).size + (a0.extract (x4_1 : Int).toNat ((wrap64 (x4_1 + 1)) : Int).toNat).size) = False := eq_false (Nat.not_lt.2 c10)
                    try have c10b7 : (9223372036854775807 < x3_1.size + 1 + (a0.extract (x4_1 : Int).toNat ((wrap64 (x4_1 + 1)) : Int).toNat).size) = False := eq_false (by have hh_ := c10; rw [ByteArray.size_append] at hh_; exact Nat.not_lt.2 hh_)
                    have H' := Aside0.mk H
                    clear H
                    have p4 : 0 ≤ (x4_1 : Int) := of_decide_eq_true (by first | (with_reducible assumption) | assumption)
                    have q4 : x4_1 < (a0.size : Int) := of_decide_eq_true (by first | (with_reducible assumption) | assumption)
                    have hx4 := bt_at a0 x4_1
                    replace p4 := eq_true p4
                    replace q4 := eq_true q4
                    go_wp2
                    go_roundg k1
                    case measure => have := HK1.out; omega
                    case rel => exact ⟨((x3_1 ++ (⟨#[36]⟩ : ByteArray)) ++ (a0.extract (x4_1 : Int).toNat ((wrap64 (x4_1 + 1)) : Int).toNat)), (wrap64 (x4_1 + 1)), (by first | rfl | (simp; done) | (simp [*]; done)), (by first | rfl | (simp; done) | (simp [*]; done)), H', ⟨by have := HK1.out; omega⟩, by repeat (first | exact Drawn0.refl _ | apply Drawn0.step)⟩
                  · rw [if_neg c10] at H
                    exact absurd H (by simp)
                · rw [if_neg c9] at H
                  exact absurd H (by simp)
              · rw [if_neg c8] at H
                exact absurd H (by simp)
            · rw [if_neg c6] at H
              exact absurd H (by simp)
          · rw [if_neg c5] at H
            have c5b0 : ((bt a0 x4_1) == 36) = false := beq_eq_false_iff_ne.mpr c5
            have c5b1 : ((bt a0 x4_1) != 36) = true := bne_iff_ne.mpr c5
            by_cases c12 : (bt a0 x4_1) = 32
            · rw [if_pos c12] at H
              have c12b0 : ((bt a0 x4_1) == 32) = true := beq_iff_eq.mpr c12
              have c12b1 : ((bt a0 x4_1) != 32) = false := bne_eq_false_iff_eq.mpr c12
              clear c12
              by_cases c13 : x3_1.size + 1 ≤ 9223372036854775807
              · rw [if_pos c13] at H
                have c13b0 := eq_true c13
                have c13b1 : decide (x3_1.size + 1 ≤ 9223372036854775807) = true := decide_eq_true c13
                try have c13b2 : (9223372036854775807 < x3_1.size + 1) = False := eq_false (Nat.not_lt.2 c13)
                try have c13b7 : (9223372036854775806 < x3_1.size) = False := eq_false (by omega)
                have c14b0 := eq_true (of_decide_eq_true (by first | (with_reducible assumption) | assumption) : 0 ≤ x4_1)
                by_cases c15 : x4_1 ≤ (wrap64 (x4_1 + 1))
                · rw [if_pos c15] at H
                  have c15b0 := eq_true c15
                  have c15b1 : decide (x4_1 ≤ (wrap64 (x4_1 + 1))) = true := decide_eq_true c15
                  by_cases c16 : (wrap64 (x4_1 + 1)) ≤ (a0.size : Int)
                  · rw [if_pos c16] at H
                    have c16b0 := eq_true c16
                    have c16b1 : decide ((wrap64 (x4_1 + 1)) ≤ (a0.size : Int)) = true := decide_eq_true c16
                    by_cases c17 : (x3_1 ++ (⟨#[36]⟩ : ByteArray)).size + (a0.extract (x4_1 : Int).toNat ((wrap64 (x4_1 + 1)) : Int).toNat).size ≤ 9223372036854775807
                    · rw [if_pos c17] at H
                      have c17b0 := eq_true c17
                      have c17b1 : decide ((x3_1 ++ (⟨#[36]⟩ : ByteArray)).size + (a0.extract (x4_1 : Int).toNat ((wrap64 (x4_1 + 1)) : Int).toNat).size ≤ 9223372036854775807) = true := decide_eq_true c17
                      try have c17b2 : (9223372036854775807 < (x3_1 ++ (⟨#[36]⟩ : ByteArray)).size + (a0.extract (x4_1 : Int).toNat ((wrap64 (x4_1 + 1)) : Int).toNat).size) = False := eq_false (Nat.not_lt.2 c17)
                      try have c17b7 : (9223372036854775807 < x3_1.size + 1 + (a0.extract (x4_1 : Int).toNat ((wrap64 (x4_1 + 1)) : Int).toNat).size) = False := eq_false (by have hh_ := c17; rw [ByteArray.size_append] at hh_; exact Nat.not_lt.2 hh_)
                      have H' := Aside0.mk H
                      clear H
                      have p4 : 0 ≤ (x4_1 : Int) := of_decide_eq_true (by first | (with_reducible assumption) | assumption)
                      have q4 : x4_1 < (a0.size : Int) := of_decide_eq_true (by first | (with_reducible assumption) | assumption)
                      have hx4 := bt_at a0 x4_1
                      replace p4 := eq_true p4
                      replace q4 := eq_true q4
                      have p11 : 0 ≤ (x4_1 : Int) := of_decide_eq_true (by first | (with_reducible assumption) | assumption)
                      have q11 : x4_1 < (a0.size : Int) := of_decide_eq_true (by first | (with_reducible assumption) | assumption)
                      have hx11 := bt_at a0 x4_1
                      replace p11 := eq_true p11
                      replace q11 := eq_true q11
                      go_wp2
                      go_roundg k1
                      case measure => have := HK1.out; omega
                      case rel => exact ⟨((x3_1 ++ (⟨#[36]⟩ : ByteArray)) ++ (a0.extract (x4_1 : Int).toNat ((wrap64 (x4_1 + 1)) : Int).toNat)), (wrap64 (x4_1 + 1)), (by first | rfl | (simp; done) | (simp [*]; done)), (by first | rfl | (simp; done) | (simp [*]; done)), H', ⟨by have := HK1.out; omega⟩, by repeat (first | exact Drawn0.refl _ | apply Drawn0.step)⟩
                    · rw [if_neg c17] at H
                      exact absurd H (by simp)
                  · rw [if_neg c16] at H
                    exact absurd H (by simp)
                · rw [if_neg c15] at H
                  exact absurd H (by simp)
              · rw [if_neg c13] at H
                exact absurd H (by simp)
            · rw [if_neg c12] at H
              have c12b0 : ((bt a0 x4_1) == 32) = false := beq_eq_false_iff_ne.mpr c12
              have c12b1 : ((bt a0 x4_1) != 32) = true := bne_iff_ne.mpr c12
              by_cases c19 : (bt a0 x4_1) = 58
              · rw [if_pos c19] at H
                have c19b0 : ((bt a0 x4_1) == 58) = true := beq_iff_eq.mpr c19
                have c19b1 : ((bt a0 x4_1) != 58) = false := bne_eq_false_iff_eq.mpr c19
                clear c19
                by_cases c20 : x3_1.size + 1 ≤ 9223372036854775807
                · rw [if_pos c20] at H
                  have c20b0 := eq_true c20
                  have c20b1 : decide (x3_1.size + 1 ≤ 9223372036854775807) = true := decide_eq_true c20
                  try have c20b2 : (9223372036854775807 < x3_1.size + 1) = False := eq_false (Nat.not_lt.2 c20)
                  try have c20b7 : (9223372036854775806 < x3_1.size) = False := eq_false (by omega)
                  have c21b0 := eq_true (of_decide_eq_true (by first | (with_reducible assumption) | assumption) : 0 ≤ x4_1)
                  by_cases c22 : x4_1 ≤ (wrap64 (x4_1 + 1))
                  · rw [if_pos c22] at H
                    have c22b0 := eq_true c22
                    have c22b1 : decide (x4_1 ≤ (wrap64 (x4_1 + 1))) = true := decide_eq_true c22
                    by_cases c23 : (wrap64 (x4_1 + 1)) ≤ (a0.size : Int)
                    · rw [if_pos c23] at H
                      have c23b0 := eq_true c23
                      have c23b1 : decide ((wrap64 (x4_1 + 1)) ≤ (a0.size : Int)) = true := decide_eq_true c23
                      by_cases c24 : (x3_1 ++ (⟨#[36]⟩ : ByteArray)).size + (a0.extract (x4_1 : Int).toNat ((wrap64 (x4_1 + 1)) : Int).toNat).size ≤ 9223372036854775807
                      · rw [if_pos c24] at H
                        have c24b0 := eq_true c24
                        have c24b1 : decide ((x3_1 ++ (⟨#[36]⟩ : ByteArray)).size + (a0.extract (x4_1 : Int).toNat ((wrap64 (x4_1 + 1)) : Int).toNat).size ≤ 9223372036854775807) = true := decide_eq_true c24
                        try have c24b2 : (9223372036854775807 < (x3_1 ++ (⟨#[36]⟩ : ByteArray)).size + (a0.extract (x4_1 : Int).toNat ((wrap64 (x4_1 + 1)) : Int).toNat).size) = False := eq_false (Nat.not_lt.2 c24)
                        try have c24b7 : (9223372036854775807 < x3_1.size + 1 + (a0.extract (x4_1 : Int).toNat ((wrap64 (x4_1 + 1)) : Int).toNat).size) = False := eq_false (by have hh_ := c24; rw [ByteArray.size_append] at hh_; exact Nat.not_lt.2 hh_)
                        have H' := Aside0.mk H
                        clear H
                        have p4 : 0 ≤ (x4_1 : Int) := of_decide_eq_true (by first | (with_reducible assumption) | assumption)
                        have q4 : x4_1 < (a0.size : Int) := of_decide_eq_true (by first | (with_reducible assumption) | assumption)
                        have hx4 := bt_at a0 x4_1
                        replace p4 := eq_true p4
                        replace q4 := eq_true q4
                        have p11 : 0 ≤ (x4_1 : Int) := of_decide_eq_true (by first | (with_reducible assumption) | assumption)
                        have q11 : x4_1 < (a0.size : Int) := of_decide_eq_true (by first | (with_reducible assumption) | assumption)
                        have hx11 := bt_at a0 x4_1
                        replace p11 := eq_true p11
                        replace q11 := eq_true q11
                        have p18 : 0 ≤ (x4_1 : Int) := of_decide_eq_true (by first | (with_reducible assumption) | assumption)
                        have q18 : x4_1 < (a0.size : Int) := of_decide_eq_true (by first | (with_reducible assumption) | assumption)
                        have hx18 := bt_at a0 x4_1
                        replace p18 := eq_true p18
                        replace q18 := eq_true q18
                        go_wp2
                        go_roundg k1
                        case measure => have := HK1.out; omega
                        case rel => exact ⟨((x3_1 ++ (⟨#[36]⟩ : ByteArray)) ++ (a0.extract (x4_1 : Int).toNat ((wrap64 (x4_1 + 1)) : Int).toNat)), (wrap64 (x4_1 + 1)), (by first | rfl | (simp; done) | (simp [*]; done)), (by first | rfl | (simp; done) | (simp [*]; done)), H', ⟨by have := HK1.out; omega⟩, by repeat (first | exact Drawn0.refl _ | apply Drawn0.step)⟩
                      · rw [if_neg c24] at H
                        exact absurd H (by simp)
                    · rw [if_neg c23] at H
                      exact absurd H (by simp)
                  · rw [if_neg c22] at H
                    exact absurd H (by simp)
                · rw [if_neg c20] at H
                  exact absurd H (by simp)
              · rw [if_neg c19] at H
                have c19b0 : ((bt a0 x4_1) == 58) = false := beq_eq_false_iff_ne.mpr c19
                have c19b1 : ((bt a0 x4_1) != 58) = true := bne_iff_ne.mpr c19
                by_cases c26 : (bt a0 x4_1) = 124
                · rw [if_pos c26] at H
                  have c26b0 : ((bt a0 x4_1) == 124) = true := beq_iff_eq.mpr c26
                  have c26b1 : ((bt a0 x4_1) != 124) = false := bne_eq_false_iff_eq.mpr c26
                  clear c26
                  by_cases c27 : x3_1.size + 1 ≤ 9223372036854775807
                  · rw [if_pos c27] at H
                    have c27b0 := eq_true c27
                    have c27b1 : decide (x3_1.size + 1 ≤ 9223372036854775807) = true := decide_eq_true c27
                    try have c27b2 : (9223372036854775807 < x3_1.size + 1) = False := eq_false (Nat.not_lt.2 c27)
                    try have c27b7 : (9223372036854775806 < x3_1.size) = False := eq_false (by omega)
                    have c28b0 := eq_true (of_decide_eq_true (by first | (with_reducible assumption) | assumption) : 0 ≤ x4_1)
                    by_cases c29 : x4_1 ≤ (wrap64 (x4_1 + 1))
                    · rw [if_pos c29] at H
                      have c29b0 := eq_true c29
                      have c29b1 : decide (x4_1 ≤ (wrap64 (x4_1 + 1))) = true := decide_eq_true c29
                      by_cases c30 : (wrap64 (x4_1 + 1)) ≤ (a0.size : Int)
                      · rw [if_pos c30] at H
                        have c30b0 := eq_true c30
                        have c30b1 : decide ((wrap64 (x4_1 + 1)) ≤ (a0.size : Int)) = true := decide_eq_true c30
                        by_cases c31 : (x3_1 ++ (⟨#[36]⟩ : ByteArray)).size + (a0.extract (x4_1 : Int).toNat ((wrap64 (x4_1 + 1)) : Int).toNat).size ≤ 9223372036854775807
                        · rw [if_pos c31] at H
                          have c31b0 := eq_true c31
                          have c31b1 : decide ((x3_1 ++ (⟨#[36]⟩ : ByteArray)).size + (a0.extract (x4_1 : Int).toNat ((wrap64 (x4_1 + 1)) : Int).toNat).size ≤ 9223372036854775807) = true := decide_eq_true c31
                          try have c31b2 : (9223372036854775807 < (x3_1 ++ (⟨#[36]⟩ : ByteArray)).size + (a0.extract (x4_1 : Int).toNat ((wrap64 (x4_1 + 1)) : Int).toNat).size) = False := eq_false (Nat.not_lt.2 c31)
                          try have c31b7 : (9223372036854775807 < x3_1.size + 1 + (a0.extract (x4_1 : Int).toNat ((wrap64 (x4_1 + 1)) : Int).toNat).size) = False := eq_false (by have hh_ := c31; rw [ByteArray.size_append] at hh_; exact Nat.not_lt.2 hh_)
                          have H' := Aside0.mk H
                          clear H
                          have p4 : 0 ≤ (x4_1 : Int) := of_decide_eq_true (by first | (with_reducible assumption) | assumption)
                          have q4 : x4_1 < (a0.size : Int) := of_decide_eq_true (by first | (with_reducible assumption) | assumption)
                          have hx4 := bt_at a0 x4_1
                          replace p4 := eq_true p4
                          replace q4 := eq_true q4
                          have p11 : 0 ≤ (x4_1 : Int) := of_decide_eq_true (by first | (with_reducible assumption) | assumption)
                          have q11 : x4_1 < (a0.size : Int) := of_decide_eq_true (by first | (with_reducible assumption) | assumption)
                          have hx11 := bt_at a0 x4_1
                          replace p11 := eq_true p11
                          replace q11 := eq_true q11
                          have p18 : 0 ≤ (x4_1 : Int) := of_decide_eq_true (by first | (with_reducible assumption) | assumption)
                          have q18 : x4_1 < (a0.size : Int) := of_decide_eq_true (by first | (with_reducible assumption) | assumption)
                          have hx18 := bt_at a0 x4_1
                          replace p18 := eq_true p18
                          replace q18 := eq_true q18
                          have p25 : 0 ≤ (x4_1 : Int) := of_decide_eq_true (by first | (with_reducible assumption) | assumption)
                          have q25 : x4_1 < (a0.size : Int) := of_decide_eq_true (by first | (with_reducible assumption) | assumption)
                          have hx25 := bt_at a0 x4_1
                          replace p25 := eq_true p25
                          replace q25 := eq_true q25
                          go_wp2
                          go_roundg k1
                          case measure => have := HK1.out; omega
                          case rel => exact ⟨((x3_1 ++ (⟨#[36]⟩ : ByteArray)) ++ (a0.extract (x4_1 : Int).toNat ((wrap64 (x4_1 + 1)) : Int).toNat)), (wrap64 (x4_1 + 1)), (by first | rfl | (simp; done) | (simp [*]; done)), (by first | rfl | (simp; done) | (simp [*]; done)), H', ⟨by have := HK1.out; omega⟩, by repeat (first | exact Drawn0.refl _ | apply Drawn0.step)⟩
                        · rw [if_neg c31] at H
                          exact absurd H (by simp)
                      · rw [if_neg c30] at H
                        exact absurd H (by simp)
                    · rw [if_neg c29] at H
                      exact absurd H (by simp)
                  · rw [if_neg c27] at H
                    exact absurd H (by simp)
                · rw [if_neg c26] at H
                  have c26b0 : ((bt a0 x4_1) == 124) = false := beq_eq_false_iff_ne.mpr c26
                  have c26b1 : ((bt a0 x4_1) != 124) = true := bne_iff_ne.mpr c26
                  have c32b0 := eq_true (of_decide_eq_true (by first | (with_reducible assumption) | assumption) : 0 ≤ x4_1)
                  by_cases c33 : x4_1 ≤ (wrap64 (x4_1 + 1))
                  · rw [if_pos c33] at H
                    have c33b0 := eq_true c33
                    have c33b1 : decide (x4_1 ≤ (wrap64 (x4_1 + 1))) = true := decide_eq_true c33
                    by_cases c34 : (wrap64 (x4_1 + 1)) ≤ (a0.size : Int)
                    · rw [if_pos c34] at H
                      have c34b0 := eq_true c34
                      have c34b1 : decide ((wrap64 (x4_1 + 1)) ≤ (a0.size : Int)) = true := decide_eq_true c34
                      by_cases c35 : x3_1.size + (a0.extract (x4_1 : Int).toNat ((wrap64 (x4_1 + 1)) : Int).toNat).size ≤ 9223372036854775807
                      · rw [if_pos c35] at H
                        have c35b0 := eq_true c35
                        have c35b1 : decide (x3_1.size + (a0.extract (x4_1 : Int).toNat ((wrap64 (x4_1 + 1)) : Int).toNat).size ≤ 9223372036854775807) = true := decide_eq_true c35
                        try have c35b2 : (9223372036854775807 < x3_1.size + (a0.extract (x4_1 : Int).toNat ((wrap64 (x4_1 + 1)) : Int).toNat).size) = False := eq_false (Nat.not_lt.2 c35)
                        have H' := Aside0.mk H
                        clear H
                        have p4 : 0 ≤ (x4_1 : Int) := of_decide_eq_true (by first | (with_reducible assumption) | assumption)
                        have q4 : x4_1 < (a0.size : Int) := of_decide_eq_true (by first | (with_reducible assumption) | assumption)
                        have hx4 := bt_at a0 x4_1
                        replace p4 := eq_true p4
                        replace q4 := eq_true q4
                        have p11 : 0 ≤ (x4_1 : Int) := of_decide_eq_true (by first | (with_reducible assumption) | assumption)
                        have q11 : x4_1 < (a0.size : Int) := of_decide_eq_true (by first | (with_reducible assumption) | assumption)
                        have hx11 := bt_at a0 x4_1
                        replace p11 := eq_true p11
                        replace q11 := eq_true q11
                        have p18 : 0 ≤ (x4_1 : Int) := of_decide_eq_true (by first | (with_reducible assumption) | assumption)
                        have q18 : x4_1 < (a0.size : Int) := of_decide_eq_true (by first | (with_reducible assumption) | assumption)
                        have hx18 := bt_at a0 x4_1
                        replace p18 := eq_true p18
                        replace q18 := eq_true q18
                        have p25 : 0 ≤ (x4_1 : Int) := of_decide_eq_true (by first | (with_reducible assumption) | assumption)
                        have q25 : x4_1 < (a0.size : Int) := of_decide_eq_true (by first | (with_reducible assumption) | assumption)
                        have hx25 := bt_at a0 x4_1
                        replace p25 := eq_true p25
                        replace q25 := eq_true q25
                        go_wp2
                        go_roundg k1
                        case measure => have := HK1.out; omega
                        case rel => exact ⟨(x3_1 ++ (a0.extract (x4_1 : Int).toNat ((wrap64 (x4_1 + 1)) : Int).toNat)), (wrap64 (x4_1 + 1)), (by first | rfl | (simp; done) | (simp [*]; done)), (by first | rfl | (simp; done) | (simp [*]; done)), H', ⟨by have := HK1.out; omega⟩, by repeat (first | exact Drawn0.refl _ | apply Drawn0.step)⟩
                      · rw [if_neg c35] at H
                        exact absurd H (by simp)
                    · rw [if_neg c34] at H
                      exact absurd H (by simp)
                  · rw [if_neg c33] at H
                    exact absurd H (by simp)
        · rw [if_neg c3] at H
          exact absurd H (by simp)
      · rw [if_neg c2] at H
        have c2b0 : decide (x4_1 < (a0.size : Int)) = false := decide_eq_false c2
        clear c2
        obtain rfl := Option.some.inj H
        go_wp2
        go_ret
        exact ⟨by first | rfl | (simp; done) | (simp [*]; done), by repeat (first | exact Drawn0.refl _ | apply Drawn0.step)⟩
end Go.Proofs.YtapdchapjpnceaaGreatDoor.P
end
section
namespace Go.Proofs.YtapdchapjpnceaaGreatDoor.P
open Go.RowKit Go.Proofs.YtapdchapjpnceaaGreatDoorW.PrintWords Go.Proofs.YtapdchapjpnceaaGreatDoorW.PrintLast Go.Proofs.YtapdchapjpnceaaGreatDoorW.PrintMore
attribute [local go_sem] max2_int min2_int max_two min_two max_three min_three max_four min_four
set_option linter.unusedVariables false
set_option linter.unusedSimpArgs false
def bellowsref12_paths.l0 : Nat → List ByteArray → Int → Option (Bool)
  | 0, _, _ => none
  | k + 1, x0, x3 => if x3 < (x0.length : Int) then (if 0 ≤ x3 then ((bellowsref03_Right.f k (rdOf ByteArray.empty x0 x3)).bind fun t203 => (if t203 = true then (bellowsref12_paths.l0 k x0 (wrap64 (x3 + 1))) else (some false))) else (none)) else (some true)
def bellowsref12_paths.f (k : Nat) (l0 : List ByteArray) : Option (Bool) := bellowsref12_paths.l0 k l0 0
theorem bellowsref12_paths.mono_l : ∀ k, (∀ y0 y1, LeO (bellowsref12_paths.l0 k y0 y1) (bellowsref12_paths.l0 (k + 1) y0 y1))
  | 0 => fun _ _ r h => by simp [bellowsref12_paths.l0] at h
  | k + 1 => by
    have ih0 := bellowsref12_paths.mono_l k
    · intro y0 y1
      unfold bellowsref12_paths.l0
      repeat' first
      | (with_reducible exact ih0 _ _)
      | (with_reducible exact bellowsref03_Right.mono _ _)
      | (with_reducible exact LeO.refl _)
      | (with_reducible exact LeO.none _)
      | (with_reducible refine LeO.ite ?_ ?_)
      | (with_reducible refine LeO.bind ?_ (fun _ => ?_))
      | exact ih0 _ _
      | exact bellowsref03_Right.mono _ _
      | exact LeO.none _
      | refine LeO.ite ?_ ?_
      | refine LeO.bind ?_ (fun _ => ?_)
theorem bellowsref12_paths.mono : ∀ a0 k, LeO (bellowsref12_paths.f k a0) (bellowsref12_paths.f (k + 1) a0) := by
  intro a0 k
  have ih0 := bellowsref12_paths.mono_l k
  unfold bellowsref12_paths.f
  repeat' first
      | (with_reducible exact ih0 _ _)
      | (with_reducible exact bellowsref03_Right.mono _ _)
      | (with_reducible exact LeO.refl _)
      | (with_reducible exact LeO.none _)
      | (with_reducible refine LeO.ite ?_ ?_)
      | (with_reducible refine LeO.bind ?_ (fun _ => ?_))
      | exact ih0 _ _
      | exact bellowsref03_Right.mono _ _
      | exact LeO.none _
      | refine LeO.ite ?_ ?_
      | refine LeO.bind ?_ (fun _ => ?_)
set_option maxHeartbeats 8000000 in
set_option maxRecDepth 100000 in
theorem bellowsref12_paths.calls (k : Nat) (A0 : Option Addr) (c0 : Nat) (l0 : List ByteArray) (r : Bool) (w : World) (hr0 : Kd.C Kd.string w A0 l0.length l0) (hc0 : l0.length ≤ c0) (h : bellowsref12_paths.f k l0 = some r) :
    Calls Tryz.prog 16 #[.slice A0 l0.length c0] w fun e w' => e = .returned (.bool r) ∧ Below w.heap.size w w' := by
  have HR0 := Aside0.mk hr0
  have HC0 := Aside0.mk hc0
  clear hr0 hc0
  have HB := Aside0.mk (Below.refl w.heap.size w)
  have H : (bellowsref12_paths.l0 k l0 0) = some r := h
  clear h
  have H' := Aside0.mk H
  clear H
  go_enter Tryz.func16, Tryz.ntmps16
  go_wp2
  go_loopg [3] k (fun kq v3 w' => ∃ (x3_1 : Int), v3 = .int .i64 x3_1 ∧ Aside0 (bellowsref12_paths.l0 kq l0 x3_1 = some r) ∧ Aside0 (kq ≤ k) ∧ Aside0 (Below w.heap.size w w'))
  case atStart => exact ⟨(0), (by first | rfl | (simp; done) | (simp [*]; done)), H', ⟨Nat.le_refl _⟩, ⟨by repeat (first | (with_reducible first | exact HB.out | apply below_alloc | apply pw_below_drewN | apply below_drew1) | exact HB.out)⟩⟩
  case round =>
    clear H'
    try clear c1
    obtain ⟨x3_1, rfl, HA, HK1, HB⟩ := hrel
    cases gk with
    | zero => exact absurd HA.out (by simp [bellowsref12_paths.l0])
    | succ k1 =>
      have H := HA.out
      clear HA
      simp only [bellowsref12_paths.l0] at H
      by_cases c2 : x3_1 < (l0.length : Int)
      · rw [if_pos c2] at H
        have c2b0 : decide (x3_1 < (l0.length : Int)) = true := decide_eq_true c2
        clear c2
        by_cases c3 : 0 ≤ x3_1
        · rw [if_pos c3] at H
          have c3b0 : decide (0 ≤ x3_1) = true := decide_eq_true c3
          clear c3
          replace H := Option.bind_eq_some_iff.mp H
          obtain ⟨t203, A40, H⟩ := H
          replace H : (if t203 = true then (bellowsref12_paths.l0 k1 l0 (wrap64 (x3_1 + 1))) else (some false)) = some r := H
          have A4 := Aside0.mk A40
          clear A40
          by_cases c5 : t203 = true
          · subst c5
            have H1 : (bellowsref12_paths.l0 k1 l0 (wrap64 (x3_1 + 1))) = some r := by rw [if_pos rfl] at H; exact H
            clear H
            have H := H1
            clear H1
            have H' := Aside0.mk H
            clear H
            have p202 : 0 ≤ (x3_1 : Int) := of_decide_eq_true (by first | (with_reducible assumption) | assumption)
            have q202 : x3_1 < (l0.length : Int) := of_decide_eq_true (by first | (with_reducible assumption) | assumption)
            obtain ⟨ad202, e202, hx202_0⟩ := Kd.at_string HR0.out x3_1 p202 q202
            cases e202
            replace hx202_0 := (HB.out.cell (World.block_lt_of_cell? w _ hx202_0)).trans hx202_0
            replace p202 := eq_true p202
            replace q202 := eq_true q202
            go_wp2_with (first | ((with_reducible refine gate_callee (f := 17) rfl ?_); refine goesL_ (some 14) rfl rfl Tryz.func17 (by kernel_rfl) rfl #[.string (rdOf ByteArray.empty l0 x3_1)] rfl (by (try simp only [List.map_toArray, List.map_cons, List.map_nil]); first | done | rfl | (simp only [List.length_drop, List.length_take]; rfl)) ?_; (with_reducible refine (bellowsref03_Right.calls k1 (rdOf ByteArray.empty l0 x3_1) true _ A4.out).mono ?_); rintro e w6 ⟨rfl, hb⟩; refine ⟨_, rfl, ?_⟩; have n0_ := Aside0.mk (below_step (by repeat (first | (with_reducible first | exact HB.out | apply below_alloc | apply pw_below_drewN | apply below_drew1) | exact HB.out)) hb); clear HB; have HB := n0_; clear n0_; (try clear hb); (try clear hb2); (try clear hk); (try clear hi)))
            go_roundg k1
            case measure => have := HK1.out; omega
            case rel => exact ⟨(wrap64 (x3_1 + 1)), (by first | rfl | (simp; done) | (simp [*]; done)), H', ⟨by have := HK1.out; omega⟩, ⟨by repeat (first | (with_reducible first | exact HB.out | apply below_alloc | apply pw_below_drewN | apply below_drew1) | exact HB.out)⟩⟩
          · replace c5 := Bool.eq_false_iff.mpr c5
            subst c5
            have H1 : (some false) = some r := by rw [if_neg (show ¬ (false = true) by decide)] at H; exact H
            clear H
            have H := H1
            clear H1
            obtain rfl := Option.some.inj H
            have p202 : 0 ≤ (x3_1 : Int) := of_decide_eq_true (by first | (with_reducible assumption) | assumption)
            have q202 : x3_1 < (l0.length : Int) := of_decide_eq_true (by first | (with_reducible assumption) | assumption)
            obtain ⟨ad202, e202, hx202_0⟩ := Kd.at_string HR0.out x3_1 p202 q202
            cases e202
            replace hx202_0 := (HB.out.cell (World.block_lt_of_cell? w _ hx202_0)).trans hx202_0
            replace p202 := eq_true p202
            replace q202 := eq_true q202
            go_wp2_with (first | ((with_reducible refine gate_callee (f := 17) rfl ?_); refine goesL_ (some 14) rfl rfl Tryz.func17 (by kernel_rfl) rfl #[.string (rdOf ByteArray.empty l0 x3_1)] rfl (by (try simp only [List.map_toArray, List.map_cons, List.map_nil]); first | done | rfl | (simp only [List.length_drop, List.length_take]; rfl)) ?_; (with_reducible refine (bellowsref03_Right.calls k1 (rdOf ByteArray.empty l0 x3_1) false _ A4.out).mono ?_); rintro e w7 ⟨rfl, hb⟩; refine ⟨_, rfl, ?_⟩; have n0_ := Aside0.mk (below_step (by repeat (first | (with_reducible first | exact HB.out | apply below_alloc | apply pw_below_drewN | apply below_drew1) | exact HB.out)) hb); clear HB; have HB := n0_; clear n0_; (try clear hb); (try clear hb2); (try clear hk); (try clear hi)))
            go_ret
            exact ⟨by first | rfl | (simp [errW_none, errW_some] <;> rfl) | (simp [*, errW_none, errW_some] <;> rfl), by repeat (first | (with_reducible first | exact HB.out | apply below_alloc | apply pw_below_drewN | apply below_drew1) | exact HB.out)⟩
        · rw [if_neg c3] at H
          exact absurd H (by simp)
      · rw [if_neg c2] at H
        have c2b0 : decide (x3_1 < (l0.length : Int)) = false := decide_eq_false c2
        clear c2
        obtain rfl := Option.some.inj H
        go_wp2
        go_ret
        exact ⟨by first | rfl | (simp [errW_none, errW_some] <;> rfl) | (simp [*, errW_none, errW_some] <;> rfl), by repeat (first | (with_reducible first | exact HB.out | apply below_alloc | apply pw_below_drewN | apply below_drew1) | exact HB.out)⟩
end Go.Proofs.YtapdchapjpnceaaGreatDoor.P
end
section
namespace Go.Proofs.YtapdchapjpnceaaGreatDoor.P
open Go.RowKit Go.Proofs.YtapdchapjpnceaaGreatDoorW.PrintWords Go.Proofs.YtapdchapjpnceaaGreatDoorW.PrintLast Go.Proofs.YtapdchapjpnceaaGreatDoorW.PrintMore
attribute [local go_sem] max2_int min2_int max_two min_two max_three min_three max_four min_four
set_option linter.unusedVariables false
set_option linter.unusedSimpArgs false
def bellowsref12_row.l0 : Nat → List ByteArray → ByteArray → Int → Option (ByteArray)
  | 0, _, _, _ => none
  | k + 1, x0, x3, x4 => if x4 < (x0.length : Int) then (if 0 ≤ x4 then ((bellowsref10_Escape.f k (rdOf ByteArray.empty x0 x4)).bind fun t226 => (if 1 + t226.size ≤ 9223372036854775807 then (if x3.size + ((⟨#[32]⟩ : ByteArray) ++ t226).size ≤ 9223372036854775807 then (bellowsref12_row.l0 k x0 (x3 ++ ((⟨#[32]⟩ : ByteArray) ++ t226)) (wrap64 (x4 + 1))) else (none)) else (none))) else (none)) else (some x3)
def bellowsref12_row.f (k : Nat) (l0 : List ByteArray) : Option (ByteArray) := bellowsref12_row.l0 k l0 (⟨#[]⟩ : ByteArray) 0
theorem bellowsref12_row.mono_l : ∀ k, (∀ y0 y1 y2, LeO (bellowsref12_row.l0 k y0 y1 y2) (bellowsref12_row.l0 (k + 1) y0 y1 y2))
  | 0 => fun _ _ _ r h => by simp [bellowsref12_row.l0] at h
  | k + 1 => by
    have ih0 := bellowsref12_row.mono_l k
    · intro y0 y1 y2
      unfold bellowsref12_row.l0
      repeat' first
      | (with_reducible exact ih0 _ _ _)
      | (with_reducible exact bellowsref10_Escape.mono _ _)
      | (with_reducible exact LeO.refl _)
      | (with_reducible exact LeO.none _)
      | (with_reducible refine LeO.ite ?_ ?_)
      | (with_reducible refine LeO.bind ?_ (fun _ => ?_))
      | exact ih0 _ _ _
      | exact bellowsref10_Escape.mono _ _
      | exact LeO.none _
      | refine LeO.ite ?_ ?_
      | refine LeO.bind ?_ (fun _ => ?_)
theorem bellowsref12_row.mono : ∀ a0 k, LeO (bellowsref12_row.f k a0) (bellowsref12_row.f (k + 1) a0) := by
  intro a0 k
  have ih0 := bellowsref12_row.mono_l k
  unfold bellowsref12_row.f
  repeat' first
      | (with_reducible exact ih0 _ _ _)
      | (with_reducible exact bellowsref10_Escape.mono _ _)
      | (with_reducible exact LeO.refl _)
      | (with_reducible exact LeO.none _)
      | (with_reducible refine LeO.ite ?_ ?_)
      | (with_reducible refine LeO.bind ?_ (fun _ => ?_))
      | exact ih0 _ _ _
      | exact bellowsref10_Escape.mono _ _
      | exact LeO.none _
      | refine LeO.ite ?_ ?_
      | refine LeO.bind ?_ (fun _ => ?_)
set_option maxHeartbeats 8000000 in
set_option maxRecDepth 100000 in
theorem bellowsref12_row.calls (k : Nat) (A0 : Option Addr) (c0 : Nat) (l0 : List ByteArray) (r : ByteArray) (w : World) (hr0 : Kd.C Kd.string w A0 l0.length l0) (hc0 : l0.length ≤ c0) (h : bellowsref12_row.f k l0 = some r) :
    Calls Tryz.prog 24 #[.slice A0 l0.length c0] w fun e w' => e = .returned (.string r) ∧ Drawn0 w w' := by
  have HR0 := Aside0.mk hr0
  have HC0 := Aside0.mk hc0
  clear hr0 hc0
  have H : (bellowsref12_row.l0 k l0 (⟨#[]⟩ : ByteArray) 0) = some r := h
  clear h
  have H' := Aside0.mk H
  clear H
  go_enter Tryz.func24, Tryz.ntmps24
  go_wp2
  go_loopg [3, 4] k (fun kq v3 v4 w' => ∃ (x3_1 : ByteArray) (x4_1 : Int), v3 = .string x3_1 ∧ v4 = .int .i64 x4_1 ∧ Aside0 (bellowsref12_row.l0 kq l0 x3_1 x4_1 = some r) ∧ Aside0 (kq ≤ k) ∧ Drawn0 w w')
  case atStart => exact ⟨((⟨#[]⟩ : ByteArray)), (0), (by first | rfl | (simp; done) | (simp [*]; done)), (by first | rfl | (simp; done) | (simp [*]; done)), H', ⟨Nat.le_refl _⟩, by repeat (first | exact Drawn0.refl _ | apply Drawn0.step)⟩
  case round =>
    clear H'
    obtain ⟨x3_1, x4_1, rfl, rfl, HA, HK1, ⟨m1, rfl⟩⟩ := hrel
    cases gk with
    | zero => exact absurd HA.out (by simp [bellowsref12_row.l0])
    | succ k1 =>
      have H := HA.out
      clear HA
      simp only [bellowsref12_row.l0] at H
      by_cases c2 : x4_1 < (l0.length : Int)
      · rw [if_pos c2] at H
        have c2b0 : decide (x4_1 < (l0.length : Int)) = true := decide_eq_true c2
        clear c2
        by_cases c3 : 0 ≤ x4_1
        · rw [if_pos c3] at H
          have c3b0 : decide (0 ≤ x4_1) = true := decide_eq_true c3
          clear c3
          replace H := Option.bind_eq_some_iff.mp H
          obtain ⟨t226, A40, H⟩ := H
          replace H : (if 1 + t226.size ≤ 9223372036854775807 then (if x3_1.size + ((⟨#[32]⟩ : ByteArray) ++ t226).size ≤ 9223372036854775807 then (bellowsref12_row.l0 k1 l0 (x3_1 ++ ((⟨#[32]⟩ : ByteArray) ++ t226)) (wrap64 (x4_1 + 1))) else (none)) else (none)) = some r := H
          have A4 := Aside0.mk A40
          clear A40
          by_cases c5 : 1 + t226.size ≤ 9223372036854775807
          · rw [if_pos c5] at H
            have c5b0 := eq_true c5
            have c5b1 : decide (1 + t226.size ≤ 9223372036854775807) = true := decide_eq_true c5
            try have c5b2 : (9223372036854775807 < 1 + t226.size) = False := eq_false (Nat.not_lt.2 c5)
            by_cases c6 : x3_1.size + ((⟨#[32]⟩ : ByteArray) ++ t226).size ≤ 9223372036854775807
            · rw [if_pos c6] at H
              have c6b0 := eq_true c6
              have c6b1 : decide (x3_1.size + ((⟨#[32]⟩ : ByteArray) ++ t226).size ≤ 9223372036854775807) = true := decide_eq_true c6
              try have c6b2 : (9223372036854775807 < x3_1.size + ((⟨#[32]⟩ : ByteArray) ++ t226).size) = False := eq_false (Nat.not_lt.2 c6)
              have H' := Aside0.mk H
              clear H
              have p225 : 0 ≤ (x4_1 : Int) := of_decide_eq_true (by first | (with_reducible assumption) | assumption)
              have q225 : x4_1 < (l0.length : Int) := of_decide_eq_true (by first | (with_reducible assumption) | assumption)
              obtain ⟨ad225, e225, hx225_0⟩ := Kd.at_string HR0.out x4_1 p225 q225
              cases e225
              replace p225 := eq_true p225
              replace q225 := eq_true q225
              go_wp2_with (first | ((with_reducible refine gate_callee (f := 23) rfl ?_); refine goesL_ (some 16) rfl rfl Tryz.func23 (by kernel_rfl) rfl #[.string (rdOf ByteArray.empty l0 x4_1)] rfl (by (try simp only [List.map_toArray, List.map_cons, List.map_nil]); first | done | rfl | (simp only [List.length_drop, List.length_take]; rfl)) ?_; (with_reducible refine (bellowsref10_Escape.calls k1 (rdOf ByteArray.empty l0 x4_1) t226 _ A4.out).mono ?_); rintro e w' ⟨rfl, ⟨nd, rfl⟩⟩; refine ⟨_, rfl, ?_⟩))
              go_roundg k1
              case measure => have := HK1.out; omega
              case rel => exact ⟨(x3_1 ++ ((⟨#[32]⟩ : ByteArray) ++ t226)), (wrap64 (x4_1 + 1)), (by first | rfl | (simp; done) | (simp [*]; done)), (by first | rfl | (simp; done) | (simp [*]; done)), H', ⟨by have := HK1.out; omega⟩, by repeat (first | exact Drawn0.refl _ | apply Drawn0.step)⟩
            · rw [if_neg c6] at H
              exact absurd H (by simp)
          · rw [if_neg c5] at H
            exact absurd H (by simp)
        · rw [if_neg c3] at H
          exact absurd H (by simp)
      · rw [if_neg c2] at H
        have c2b0 : decide (x4_1 < (l0.length : Int)) = false := decide_eq_false c2
        clear c2
        obtain rfl := Option.some.inj H
        go_wp2
        go_ret
        exact ⟨by first | rfl | (simp; done) | (simp [*]; done), by repeat (first | exact Drawn0.refl _ | apply Drawn0.step)⟩
end Go.Proofs.YtapdchapjpnceaaGreatDoor.P
end
