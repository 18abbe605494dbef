/- depfile.Print, and what it calls: slices.ContainsFunc at 'is no path'. -/
import Derived.Test.YtaocdnebglnkeaaDoorPathFsD
import Derived.OwnWalk
import Derived.Laws.AppendOwn
import Derived.Laws.OwnMore
set_option linter.unusedSimpArgs false
set_option linter.unusedVariables false
namespace Go.Proofs.YtaocdnebglnkeaaDoor.P
open Go.RowKit Go.Lib Go.Shelf Go.Proofs.YtaocdnebglnkeaaDoorW.PrintWords Go.Proofs.YtaocdnebglnkeaaDoorW.PrintLast Go.Proofs.YtaocdnebglnkeaaDoorW.PrintMore Go.Proofs.YtaocdnebglnkeaaDoor.U Go.Proofs.YtaocdnebglnkeaaDoor.PTh

/-- Is it a path? -/
def rightL (l : List UInt8) : Bool := decide (cleanL l = (l, 0))
set_option maxRecDepth 100000 in
set_option maxHeartbeats 2000000 in
theorem pred_any (l : List UInt8) (w : World) :
    Calls Tryd.prog 19 #[.string (B l)] w fun e w' => e = .returned (.bool (!rightL l)) ∧ Below w.heap.size w w' := by
  have hR := Lib.hid (fun W => path_Right.calls (B l) (rightL l) W (Right_f l))
  go_enter Tryd.func19, Tryd.ntmps19
  go_wp2_with fail
  refine (hR.out _).mono ?_
  rintro e w1 ⟨rfl, hb⟩
  go_wp2_with fail
  go_ret
  exact ⟨rfl, hb⟩
set_option maxRecDepth 100000 in
set_option maxHeartbeats 4000000 in
theorem idx_any (g cap : Nat) (xs : List (List UInt8)) (w : World) (hc : ∀ j (h : j < xs.length), w.cell? ⟨g, j, none⟩ = some (.string (B xs[j]))) (hg : g < w.heap.size) (hn : xs.length < 1000000) :
    Calls Tryd.prog 34 #[.slice (some ⟨g, 0, none⟩) xs.length cap, .func (.func 19) #[] #[]] w fun e w' =>
      ∃ k : Int, e = .returned (.int .i64 k) ∧ decide (0 ≤ k) = (!xs.all rightL) ∧ Below w.heap.size w w' := by
  obtain ⟨N, hN⟩ : ∃ N, xs.length = N := ⟨_, rfl⟩
  have hcH := Lib.hid hc
  clear hc
  rw [hN] at hn ⊢
  go_enter Tryd.func34, Tryd.ntmps34
  go_wp2_with fail
  go_loopg [8] N (fun gk s8 wr => ∃ i : Nat, s8 = .int .i64 (i : Int) ∧ i + gk = N ∧ Hid ((xs.take i).all rightL = true) ∧ Hid (Below w.heap.size w wr))
  case atStart => exact ⟨0, rfl, Nat.zero_add _, rfl, Below.refl _ _⟩
  case round =>
    obtain ⟨i, rfl, hik, hA, hB⟩ := hrel
    cases gk with
    | zero =>
      obtain rfl : i = N := by omega
      have hlt : decide ((i : Int) < (i : Int)) = false := by simp
      go_wp2_with fail
      go_ret
      refine ⟨_, rfl, ?_, hB.out⟩
      have := hA.out
      rw [← hN, List.take_length] at this
      rw [this]; rfl
    | succ gk =>
      have hiN : i < xs.length := by omega
      have hlt : decide ((i : Int) < (N : Int)) = true := by rw [decide_eq_true_iff]; omega
      obtain ⟨x, hx⟩ : ∃ x, xs[i] = x := ⟨_, rfl⟩
      have hcell : wr.cell? ⟨g, i, none⟩ = some (.string (B x)) := by
        rw [hB.out.cell (p := ⟨g, i, none⟩) hg, hcH.out i hiN, hx]
      have hP := Lib.hid (fun W => pred_any x W)
      have htake : xs.take (i + 1) = xs.take i ++ [x] := by rw [List.take_succ_eq_append_getElem hiN, hx]
      go_wp2_with fail
      refine (hP.out _).mono ?_
      rintro e w2 ⟨rfl, hb2⟩
      have hB2 := Lib.hid (hB.out.trans (hb2.mono hB.out.size))
      clear hb2
      cases hr : rightL x with
      | false =>
        go_wp2_with fail
        go_ret
        refine ⟨_, rfl, ?_, hB2.out⟩
        have : xs.all rightL = false := by
          rw [← List.take_append_drop (i + 1) xs, List.all_append, htake, List.all_append]; simp [hr]
        rw [this]
        simp
      | true =>
        have hA2 : Hid ((xs.take (i + 1)).all rightL = true) := by
          show _ = _
          rw [htake, List.all_append, hA.out]; simp [hr]
        go_wp2_with fail
        go_roundg gk
        case measure => omega
        case rel => exact ⟨i + 1, by first | rfl | simp, by omega, hA2, hB2⟩
set_option maxRecDepth 100000 in
set_option maxHeartbeats 2000000 in
theorem contains_any (g cap : Nat) (xs : List (List UInt8)) (w : World) (hc : ∀ j (h : j < xs.length), w.cell? ⟨g, j, none⟩ = some (.string (B xs[j]))) (hg : g < w.heap.size) (hn : xs.length < 1000000) :
    Calls Tryd.prog 18 #[.slice (some ⟨g, 0, none⟩) xs.length cap, .func (.func 19) #[] #[]] w fun e w' =>
      e = .returned (.bool (!xs.all rightL)) ∧ Below w.heap.size w w' := by
  have hI := Lib.hid (idx_any g cap xs w hc hg hn)
  generalize xs.all rightL = r at *
  clear hc
  go_enter Tryd.func18, Tryd.ntmps18
  go_wp2_with fail
  refine hI.out.mono ?_
  rintro e w1 ⟨k, rfl, hk, hb⟩
  go_wp2_with fail
  go_ret
  exact ⟨rfl, hb⟩
def joinS (ps : List (List UInt8)) : List UInt8 := [32].intercalate ps
theorem joinS_len (ps : List (List UInt8)) : (joinS ps).length ≤ totalP ps + ps.length := by
  unfold joinS
  induction ps with
  | nil => simp [totalP, List.intercalate]
  | cons p ps ih =>
    cases ps with
    | nil => simp [totalP, List.intercalate, List.intersperse]
    | cons q ps =>
      simp only [List.intercalate, List.intersperse, List.flatten_cons, List.length_append, List.length_cons, List.length_nil, totalP, List.map_cons, List.sum_cons] at ih ⊢
      omega
theorem join_sp (bs : Nat) (v : Value) (ps : List (List UInt8)) (W : World) (ho : W.ownsRow bs 9 1 v ps.length (ps.map fun x => Value.string (B x))) (hl : totalP ps + ps.length ≤ 1000000) :
    Calls Tryd.prog 21 #[v, .string ⟨#[32]⟩] W fun e w' => e = .returned (.string (B (joinS ps))) ∧ Below W.heap.size W w' := by
  by_cases h0 : ps = []
  · subst h0
    obtain ⟨A0, c0, rfl⟩ := own_slice ho
    exact (Tryd.strings_Join_none A0 c0 ⟨#[32]⟩ W).mono fun e w' ⟨he, hw⟩ => ⟨he, hw ▸ Below.refl _ _⟩
  · have hpos := List.length_pos_iff.2 h0
    have ho' := ho
    rcases ho.2 with ⟨_, hz⟩ | ⟨g, cap, cur, rfl, _, hh, hcap1, hcap2, _⟩
    · omega
    have hj : (ps.map B).map (fun x => x.data.toList) = ps := by simp [Function.comp_def]
    have := Tryd.strings_Join g 0 cap (ps.map B) ⟨#[32]⟩ W (fun j x hx => by
      have hj : j < ps.length := by have := (List.getElem?_eq_some_iff.1 hx).1; simpa using this
      have hc := ho'.cellAt j (by omega)
      rw [Nat.zero_add, hc]
      simp [List.getElem?_eq_getElem hj] at hx ⊢
      exact hx) (lt_of_block hh) (by simp; omega) (by simp; omega) (by
        rw [hj]; have := joinS_len ps; show (joinS ps).length ≤ _; omega)
    rw [hj, List.length_map] at this
    exact this
/-- What is printed, and an error's number. -/
def printL (out : List UInt8) (xs : List (List UInt8)) : List UInt8 × Int := if (out :: xs).all rightL = true then (joinS ((out ++ [58]) :: xs) ++ [10], 0) else ([], 5)
theorem right_len {l : List UInt8} (h : rightL l = true) : l.length ≤ 100 := by
  have h' : cleanL l = (l, 0) := of_decide_eq_true h
  obtain ⟨ps, hi⟩ := clean_is h'
  exact hi.len
theorem total_right (xs : List (List UInt8)) (h : xs.all rightL = true) : totalP xs ≤ 100 * xs.length := by
  induction xs with
  | nil => simp [totalP]
  | cons x xs ih =>
    rw [List.all_cons, Bool.and_eq_true] at h
    have := right_len h.1
    have := ih h.2
    simp only [totalP, List.map_cons, List.sum_cons, List.length_cons] at this ⊢
    omega
theorem own_one (w : World) (x : ByteArray) : (w.alloc (.cells #[.string x] 9)).ownsRow w.heap.size 9 1 (.slice (some ⟨w.heap.size, 0, none⟩) 1 1) 1 [.string x] := by
  have := World.ownsRow_lit (base := w.heap.size) (e := 9) (size := 1) w #[.string x] 1 (Nat.le_refl _) (by unfold maxLen; omega) rfl
  simpa using this
set_option maxRecDepth 100000 in
set_option maxHeartbeats 4000000 in
theorem Print_any (out : List UInt8) (A : Option Addr) (c : Nat) (xs : List (List UInt8)) (w : World) (hr : Kd.C Kd.string w A xs.length (xs.map B)) (hn : xs.length ≤ 1000) :
    Calls Tryd.prog 11 #[.string (B out), .slice A xs.length c] w fun e w' =>
      e = .returned (.tuple #[.string (B (printL out xs).1), .int .i64 (printL out xs).2]) ∧ Below w.heap.size w w' := by
  have hO := own_one w (B out)
  have hC := Lib.hid (Kd.C_below hr ((Below.refl w.heap.size w).alloc (Nat.le_refl _) (.cells #[.string (B out)] 9)))
  obtain ⟨n, hnn⟩ : ∃ n, xs.length = n := ⟨_, rfl⟩
  rw [hnn] at hC hn
  clear hr
  rw [hnn]
  have hOH := Lib.hid hO
  clear hO
  go_enter Tryd.func11, Tryd.ntmps11
  go_wp2_with (at_builtin; refine Kd.R_append_row (w0 := w) Value.string ByteArray.empty (h1 := fun _ => rfl) w.heap.size rfl _ _ 22 9 (.string ⟨#[]⟩) 16 rfl Tryd.underlying22 infoStr rfl (by decide) _ [B out] (xs.map B) A n c (fun _ => True) rfl rfl (fun _ _ => trivial) (Kd.R_of_own hOH.out (fun _ _ => trivial)) hC.out ((Below.refl w.heap.size w).alloc (Nat.le_refl _) _) ?r1 ?r2 ?_)
  case r1 => simp
  case r2 => simp; omega
  intro v1 w1 hR hb1 _ _
  have hR' : Kd.R Kd.string 9 w1 w.heap.size (fun _ => True) v1 ((out :: xs).map B) := hR
  clear hR hOH hC
  have hl1 : (out :: xs).length = n + 1 := by simp [hnn]
  have hlen : ((out :: xs).map B).length = n + 1 := by rw [List.length_map, hl1]
  obtain ⟨g, cap, rfl, hg0, hg1, _⟩ := Kd.R_form hR' (by rw [hlen]; omega)
  rw [hlen] at hR' ⊢
  have hcells : ∀ j (h : j < (out :: xs).length), w1.cell? ⟨g, j, none⟩ = some (.string (B (out :: xs)[j])) := by
    intro j hj
    have h := (Kd.R_celln ByteArray.empty hR' (j : Int) (by omega) (by omega)).1
    rw [rdOf_B _ _ (by rw [hlen]; omega)] at h
    simp only [List.getElem_map, Int.toNat_natCast] at h
    exact h
  have hCon := Lib.hid (contains_any g cap (out :: xs) w1 hcells hg1 (by omega))
  rw [hl1] at hCon
  have hRH := Lib.hid hR'
  have hPL : Hid (printL out xs = if (out :: xs).all rightL = true then (joinS ((out ++ [58]) :: xs) ++ [10], 0) else ([], 5)) := rfl
  clear hcells hR'
  cases hall : (out :: xs).all rightL with
  | false =>
    rw [hall] at hCon
    have hres : printL out xs = ([], 5) := by rw [hPL.out, hall]; rfl
    go_wp2_with fail
    refine hCon.out.mono ?_
    rintro e w2 ⟨rfl, hb2⟩
    have hB2 := Lib.hid (hb1.trans (hb2.mono hb1.size))
    clear hb2
    go_wp2_with fail
    rw [hres]
    go_ret2
    exact ⟨rfl, hB2.out⟩
  | true =>
    rw [hall] at hCon
    have hres : printL out xs = (joinS ((out ++ [58]) :: xs) ++ [10], 0) := by rw [hPL.out, hall]; rfl
    have ha := hall
    rw [List.all_cons, Bool.and_eq_true] at ha
    have ho := right_len ha.1
    have ht := total_right xs ha.2
    have so : (B out).size = out.length := size_B out
    go_wp2_with fail
    refine hCon.out.mono ?_
    rintro e w2 ⟨rfl, hb2⟩
    have hB2 := Lib.hid (hb1.trans (hb2.mono hb1.size))
    have hR2 := Lib.hid (Kd.R_below hRH.out hb2)
    have hg2 := hb2.size
    clear hb2
    have hcf := Kd.R_celln ByteArray.empty hR2.out 0 (by omega) (by omega)
    have c0 : w2.cell? ⟨g, 0, none⟩ = some (.string (B out)) := hcf.1
    have f0 : w2.frozen? ⟨g, 0, none⟩ = false := hcf.2
    clear hcf
    have hR3 := Lib.hid (Kd.R_putn hR2.out 0 (B (out ++ [58])))
    have hB3 := Lib.hid (hB2.out.setCell (p := ⟨g, 0, none⟩) hg0 (.string (B (out ++ [58]))))
    have hJ : ∀ w3 : World, w2.setCell ⟨g, 0, none⟩ (.string (B (out ++ [58]))) = w3 → Calls Tryd.prog 21 #[.slice (some ⟨g, 0, none⟩) (n + 1) cap, .string ⟨#[32]⟩] w3 fun e w' => e = .returned (.string (B (joinS ((out ++ [58]) :: xs)))) ∧ Below w3.heap.size w3 w' := by
      rintro w3 rfl
      have := Kd.own_of_R hR3.out
      refine join_sp w.heap.size _ ((out ++ [58]) :: xs) _ ?_ ?_
      · simpa [encs, Function.comp_def, hnn] using this
      · simp only [totalP, List.map_cons, List.sum_cons, List.length_append, List.length_cons, List.length_nil] at ht ⊢
        omega
    have hJH := Lib.hid hJ
    have hjl : (joinS ((out ++ [58]) :: xs)).length ≤ 1000000 := by
      have := joinS_len ((out ++ [58]) :: xs)
      simp only [totalP, List.map_cons, List.sum_cons, List.length_append, List.length_cons, List.length_nil] at ht this
      omega
    have sj : (B (joinS ((out ++ [58]) :: xs))).size = (joinS ((out ++ [58]) :: xs)).length := size_B _
    have e58 : B out ++ (⟨#[58]⟩ : ByteArray) = B (out ++ [58]) := B_append out [58]
    clear hJ
    go_wp2_with fail
    refine (hJH.out _ (by first | rfl | rw [e58])).mono ?_
    rintro e w4 ⟨rfl, hb4⟩
    have hB4 := Lib.hid (hB3.out.trans (hb4.mono hB3.out.size))
    clear hb4
    go_wp2_with fail
    rw [hres]
    go_ret2
    refine ⟨?_, hB4.out⟩
    have ef : B (joinS ((out ++ [58]) :: xs)) ++ (⟨#[10]⟩ : ByteArray) = B (joinS ((out ++ [58]) :: xs) ++ [10]) := B_append _ [10]
    show Ending.returned (.tuple #[.string (B (joinS ((out ++ [58]) :: xs)) ++ (⟨#[10]⟩ : ByteArray)), .int .i64 0]) = _
    rw [ef]
/-- depfile.Print, in the print's shape. -/
def depfile_Print.f (a0 : ByteArray) (l1 : List ByteArray) : Option (ByteArray × Int) :=
  if l1.length ≤ 1000 then some (B (printL a0.data.toList (l1.map fun x => x.data.toList)).1, (printL a0.data.toList (l1.map fun x => x.data.toList)).2) else none
theorem depfile_Print.calls (a0 : ByteArray) (A1 : Option Addr) (c1 : Nat) (l1 : List ByteArray) (r1 : ByteArray) (r2 : Int) (w : World) (hr1 : Kd.C Kd.string w A1 l1.length l1) (hc1 : l1.length ≤ c1) (h : depfile_Print.f a0 l1 = some (r1, r2)) :
    Calls Tryd.prog 11 #[.string a0, .slice A1 l1.length c1] w fun e w' => e = .returned (.tuple #[.string r1, .int .i64 r2]) ∧ Below w.heap.size w w' := by
  unfold depfile_Print.f at h
  split at h
  case isFalse => cases h
  rename_i hn
  have h' := Option.some.inj h
  have e1 : B (printL a0.data.toList (l1.map fun x => x.data.toList)).1 = r1 := congrArg Prod.fst h'
  have e2 : (printL a0.data.toList (l1.map fun x => x.data.toList)).2 = r2 := congrArg Prod.snd h'
  have em : (l1.map fun x => x.data.toList).map B = l1 := by
    rw [List.map_map]
    conv => rhs; rw [← List.map_id l1]
    exact List.map_congr_left fun x _ => (B_of x).symm
  have := Print_any a0.data.toList A1 c1 (l1.map fun x => x.data.toList) w (by rw [em, List.length_map]; exact hr1) (by rw [List.length_map]; exact hn)
  rw [List.length_map, ← B_of] at this
  rw [← e1, ← e2]
  exact this
end Go.Proofs.YtaocdnebglnkeaaDoor.P
