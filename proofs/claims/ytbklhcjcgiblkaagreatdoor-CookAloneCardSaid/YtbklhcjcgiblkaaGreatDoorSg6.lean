/- Laid together by wip/tools/shake.py from texts of this claim: CkRefShape. -/
import Derived.Test.YtbklhcjcgiblkaaGreatDoorSg5
section
set_option linter.unusedSimpArgs false
set_option linter.unusedVariables false
namespace Go.Proofs.YtbklhcjcgiblkaaGreatDoor.Ck
open Go.RowKit Go.Lib Go.Shelf Go.Maps Go.Proofs.YtbklhcjcgiblkaaGreatDoorW.PrintWords Go.Proofs.YtbklhcjcgiblkaaGreatDoorW.PrintLast Go.Proofs.YtbklhcjcgiblkaaGreatDoorW.PrintMore Go.Proofs.YtbklhcjcgiblkaaGreatDoor.U Go.Proofs.YtbklhcjcgiblkaaGreatDoor.P Go.Proofs.YtbklhcjcgiblkaaGreatDoor.PTh Go.Proofs.YtbklhcjcgiblkaaGreatDoor.MapV
open Go.Proofs.YtbklhcjcgiblkaaGreatDoor.Fld (fieldsT fieldsGo flushF)
def RefShape (s : ShapeL) (w : World) (e : Ending) (w' : World) : Prop := Below w.heap.size w w' ∧ ∃ A1 c1 vo, e = .returned (.tuple #[.slice A1 (s.args.length + 1) c1, .agg #[vo, .bool s.once, .string (B s.dep), .string (B [])], .bool true]) ∧ s.args.length + 1 ≤ c1 ∧
  Kd.C Kd.string w' A1 (s.args.length + 1) ((s.verb :: s.args).map B) ∧ w'.ownsRow w.heap.size 41 2 vo s.outs.length (ocells (fun _ => .slice none 0 0) 0 s.outs)
structure ShapeOf (c : Txt) (s : ShapeL) (vs us : List Txt) (k : Nat) : Prop where
  words : (s.once = true ∧ fieldsT c = kOnce :: vs) ∨ (s.once = false ∧ fieldsT c = vs ∧ ∀ h : 0 < vs.length, vs[0] ≠ kOnce)
  lt : k + 1 < vs.length
  at_ : ∀ h : k + 1 < vs.length, vs[k + 1] = [62]
  no : ∀ (j : Nat) (h : j < vs.length), j < k + 1 → vs[j] ≠ [62]
  usE : us = vs.drop (k + 2)
  verb : ∀ h : 0 < vs.length, vs[0] = s.verb
  vB : verbB s.verb = true
  args : s.verb :: s.args = vs.take (k + 1)
  alen : s.args.length = k
  out : (s.dep = [] ∧ us = s.outs ∧ ∀ x ∈ us, x ≠ [58]) ∨ (s.dep ≠ [] ∧ ∃ j, j + 2 = us.length ∧ s.outs = us.take j ∧ (∀ h : j + 1 < us.length, us[j + 1] = s.dep) ∧ (∀ h : j < us.length, us[j] = [58]) ∧ (∀ (i : Nat) (h : i < us.length), i < j → us[i] ≠ [58]) ∧ rightL s.dep = true)
  ok : namesOk [] s.outs = true
  ne : s.outs ≠ []
  inc : (s.dep ≠ []) ↔ s.verb = [105, 110, 99]
theorem outputs_of {us : List Txt} {outs : List Txt} {dep : Txt} (h : outputsE us = some (outs, dep)) :
    ((dep = [] ∧ us = outs ∧ ∀ x ∈ us, x ≠ [58]) ∨ (dep ≠ [] ∧ ∃ j, j + 2 = us.length ∧ outs = us.take j ∧ (∀ h : j + 1 < us.length, us[j + 1] = dep) ∧ (∀ h : j < us.length, us[j] = [58]) ∧ (∀ (i : Nat) (h : i < us.length), i < j → us[i] ≠ [58]) ∧ rightL dep = true)) ∧ namesOk [] outs = true ∧ outs ≠ [] := by
  unfold outputsE at h
  split at h
  · rename_i k hk
    split at h
    · rename_i h1
      split at h
      · rename_i h2
        injection h with h
        injection h with e1 e2
        rw [List.findIdx?_eq_some_iff_getElem] at hk
        obtain ⟨hk1, hk2, hk3⟩ := hk
        have hd : us.getD (k + 1) [] = us[k + 1]'(by omega) := by rw [List.getD_eq_getElem?_getD, List.getElem?_eq_getElem (by omega)]; rfl
        subst e1 e2
        refine ⟨.inr ⟨right_ne h1.2, k, h1.1, rfl, fun h => hd.symm, fun h => eq_of_beq hk2, fun i h hi e => hk3 i hi (beq_iff_eq.2 e), h1.2⟩, h2.1, ?_⟩
        intro e
        have := congrArg List.length e
        rw [List.length_take, List.length_nil] at this
        omega
      · cases h
    · cases h
  · rename_i hk
    split at h
    · rename_i h2
      injection h with h
      injection h with e1 e2
      subst e1 e2
      rw [List.findIdx?_eq_none_iff] at hk
      exact ⟨.inl ⟨rfl, rfl, fun x hx e => by have := hk x hx; rw [e] at this; cases this⟩, h2.1, h2.2⟩
    · cases h
theorem shapeW_of {c : Txt} {once : Bool} {vs : List Txt} {s : ShapeL} (h : shapeW once vs = some s) (hw : (once = true ∧ fieldsT c = kOnce :: vs) ∨ (once = false ∧ fieldsT c = vs ∧ ∀ h : 0 < vs.length, vs[0] ≠ kOnce)) : ∃ us k, ShapeOf c s vs us k := by
  unfold shapeW at h
  split at h
  · cases h
  · cases h
  · rename_i k hk
    split at h
    · rename_i hv
      split at h
      · cases h
      · rename_i od ho
        split at h
        · rename_i hi
          injection h with h
          subst h
          rw [List.findIdx?_eq_some_iff_getElem] at hk
          obtain ⟨hk1, hk2, hk3⟩ := hk
          obtain ⟨o1, o2, o3⟩ := outputs_of (outs := od.1) (dep := od.2) ho
          have hd : vs.getD 0 [] = vs[0]'(by omega) := by rw [List.getD_eq_getElem?_getD, List.getElem?_eq_getElem (by omega)]; rfl
          have hk4 := eq_of_beq hk2
          rw [beq_iff_eq, decide_eq_decide] at hi
          refine ⟨vs.drop (k + 2), k, hw, hk1, fun _ => hk4, fun j h hj e => hk3 j hj (beq_iff_eq.2 e), rfl, fun _ => hd.symm, hv, ?_, ?_, o1, o2, o3, hi⟩
          · show vs.getD 0 [] :: (vs.take (k + 1)).drop 1 = _
            rw [hd]
            cases vs with
            | nil => simp at hk1
            | cons a r => rfl
          · show ((vs.take (k + 1)).drop 1).length = k
            rw [List.length_drop, List.length_take]; omega
        · cases h
    · cases h
theorem shape_of {c : Txt} {s : ShapeL} (h : shapeE c = some s) : ∃ vs us k, ShapeOf c s vs us k := by
  unfold shapeE at h
  split at h
  · rename_i hf
    exact ⟨[], shapeW_of h (.inr ⟨rfl, hf, fun h => absurd h (by simp)⟩)⟩
  · rename_i w ws hf
    split at h
    · rename_i hw
      exact ⟨ws, shapeW_of h (.inl ⟨rfl, by rw [hf, hw]⟩)⟩
    · rename_i hw
      exact ⟨w :: ws, shapeW_of h (.inr ⟨rfl, hf, fun _ => hw⟩)⟩
theorem fieldsGo_ne : ∀ (l u : Txt), ∀ t ∈ fieldsGo u l, t ≠ []
  | [], u, t, ht => by
    simp only [fieldsGo, flushF] at ht
    split at ht
    · simp at ht
    · rename_i h; rw [List.mem_singleton.1 ht]; exact h
  | b :: r, u, t, ht => by
    rw [fieldsGo.eq_2] at ht
    split at ht
    · rcases List.mem_append.1 ht with ht | ht
      · simp only [flushF] at ht
        split at ht
        · simp at ht
        · rename_i h; rw [List.mem_singleton.1 ht]; exact h
      · exact fieldsGo_ne r [] t ht
    · exact fieldsGo_ne r (u ++ [b]) t ht
theorem cell_ne_block {w : World} {db : Nat} {cs : Array Value} {t : TypeId} {ad : Addr} {v : Value} (hdb : w.heap[db]? = some (.cells cs t (0, 0))) (h : w.cell? ad = some v) (hne : ∀ j : Nat, cs[j]? ≠ some v) : ad.block ≠ db := by
  intro e
  have hp := addr_plain h
  rw [hp] at h
  rw [e, cell_of_heap hdb] at h
  exact hne _ h
theorem shape_keep (r : Nat) {w w' : World} {db : Nat} {ad : Addr} {v0 v1 v2 v3 v4 : Value} (hk : ∀ k, k ≠ r → w'.heap[k]? = w.heap[k]?) (hd : db ≠ r) (ha : ad.block ≠ r)
    (h : w.cell? ⟨db, 0, none⟩ = some v0 ∧ w.cell? ⟨db, 1, none⟩ = some v1 ∧ w.cell? ⟨db, 2, none⟩ = some v2 ∧ w.cell? ⟨db, 3, none⟩ = some v3 ∧ w.cell? ad = some v4) :
    w'.cell? ⟨db, 0, none⟩ = some v0 ∧ w'.cell? ⟨db, 1, none⟩ = some v1 ∧ w'.cell? ⟨db, 2, none⟩ = some v2 ∧ w'.cell? ⟨db, 3, none⟩ = some v3 ∧ w'.cell? ad = some v4 :=
  ⟨(World.cell?_of_block (hk _ hd)).trans h.1, (World.cell?_of_block (hk _ hd)).trans h.2.1, (World.cell?_of_block (hk _ hd)).trans h.2.2.1, (World.cell?_of_block (hk _ hd)).trans h.2.2.2.1, (World.cell?_of_block (hk _ ha)).trans h.2.2.2.2⟩
set_option maxRecDepth 100000 in
set_option maxHeartbeats 16000000 in
theorem refShape_any (cmd : Txt) (hl : cmd.length ≤ 1000) (s : ShapeL) (hs : shapeE cmd = some s) (w : World) : Calls Tryz.prog 21 #[.string (B cmd)] w (RefShape s w) := by
  obtain ⟨inf, hinf, hz0, hz1, hz2⟩ := info_parts infoStr
  obtain ⟨vs, us, k, hSO0⟩ := shape_of hs
  obtain ⟨verb, args, once, outs, dep⟩ := s
  have hSO := Lib.hid hSO0
  have hfl := fieldsT_len cmd
  obtain ⟨N, hN⟩ : ∃ N, (fieldsT cmd).length = N := ⟨_, rfl⟩
  have hNH := Lib.hid hN
  obtain ⟨n, hn⟩ : ∃ n, vs.length = n := ⟨_, rfl⟩
  have hnH := Lib.hid hn
  have hkn : k + 1 < n := by rw [← hn]; exact hSO0.lt
  have hnN : n ≤ N ∧ (once = true → N = n + 1) ∧ (once = false → N = n) := by
    rcases hSO0.words with ⟨h1, h⟩ | ⟨h1, h, _⟩ <;> dsimp only at h1
    · rw [h, List.length_cons, hn] at hN
      exact ⟨by omega, fun _ => hN.symm, fun h2 => by rw [h1] at h2; cases h2⟩
    · rw [h, hn] at hN
      exact ⟨by omega, fun h2 => (by rw [h1] at h2; cases h2), fun _ => hN.symm⟩
  rw [hN] at hfl
  have hN1 : N ≤ 1001 := by omega
  have hnNH := Lib.hid hnN
  have hn1 : n ≤ 1001 := by omega
  have hvsl : Hid (∀ x ∈ vs, x.length ≤ 1000000) := by
    intro x hx
    refine fieldsT_short cmd (by omega) x ?_
    rcases hSO0.words with ⟨_, h⟩ | ⟨_, h, _⟩ <;> rw [h]
    · exact List.mem_cons_of_mem _ hx
    · exact hx
  have hW := Lib.hid (fun W => Words_any cmd hl W)
  have hlH := Lib.hid hl
  clear hs hSO0 hn hN hnN hl hfl
  go_enter Tryz.func21, Tryz.ntmps21
  go_wp2_with fail
  refine (hW.out _).mono ?_
  rintro e w1 ⟨v, rfl, ho, hb⟩
  obtain ⟨A, c, rfl, hlc, hC⟩ := row_reads ho
  rw [hNH.out] at hlc hC ⊢
  have hCH := Lib.hid hC
  have hB01 : Hid (Below w.heap.size w w1) := ((Below.refl w.heap.size w).alloc (Nat.le_refl _) _).trans (hb.mono (by simp))
  have hres : Hid (w1.heap[w.heap.size]? = some (.cells #[.slice none 0 0, .bool false, .string (B []), .string (B [])] 43 (0, 0))) := (hb.block _ (by simp)).trans (heap_alloc_new _ _)
  clear hW ho hb hC
  go_upto_region 3 with (fail)
  have hN0 : 0 < N := by have := hnNH.out.1; omega
  have hd0 : decide ((N : Int) > 0) = true := by rw [decide_eq_true_iff]; omega
  have hN0i : (0 : Int) < (N : Int) := by omega
  have hfl0 : 0 < (fieldsT cmd).length := by rw [hNH.out]; exact hN0
  obtain ⟨w2, hw2⟩ : ∃ x, w1.alloc (.cells #[.slice none 0 0, .bool false, .string { data := #[] }, .string { data := #[] }] 43) = x := ⟨_, rfl⟩
  have hb12 : Below w1.heap.size w1 w2 := by rw [← hw2]; exact (Below.refl _ _).alloc (Nat.le_refl _) _
  have hD2 : Hid (w2.heap[w1.heap.size]? = some (.cells #[.slice none 0 0, .bool false, .string (B []), .string (B [])] 43 (0, 0))) := by show _ = _; rw [← hw2]; exact heap_alloc_new _ _
  have hB2 := Lib.hid hb12
  obtain ⟨a0, hA0, k0⟩ := text_at (ws := fieldsT cmd) (Kd.C_below (by rw [hNH.out]; exact hCH.out) hb12) 0 hfl0
  subst hA0
  have e0 : a0.add 0 = a0 := by simp [Addr.add]
  rw [e0] at k0
  obtain ⟨y0, hy0⟩ : ∃ y, (fieldsT cmd)[0] = y := ⟨_, rfl⟩
  have hy0H := Lib.hid hy0
  rw [hy0] at k0
  have hw2H := Lib.hid hw2
  have hCat : Hid (∃ A5 c5, n ≤ c5 ∧ Kd.C Kd.string w1 A5 n (vs.map B) ∧ (once = true → y0 = kOnce ∧ ∀ W : World, (Instr.slice 22 (.slice (some a0) N c) (some (.int .i64 1)) none none).run Tryz.prog W = .ok (.slice A5 n c5) W) ∧ (once = false → y0 ≠ kOnce ∧ n = N ∧ A5 = some a0 ∧ c5 = c)) := by
    have hwo := hSO.out.words
    have hCf : Kd.C Kd.string w1 (some a0) (fieldsT cmd).length ((fieldsT cmd).map B) := by rw [hNH.out]; exact hCH.out
    rcases hwo with ⟨h1, h⟩ | ⟨h1, h, h3⟩ <;> dsimp only at h1
    · have hNn := hnNH.out.2.1 h1
      refine ⟨if c = 1 then some a0 else (some a0).map (·.add 1), c - 1, by omega, ?_, fun _ => ⟨?_, fun W => ?_⟩, fun h2 => by rw [h1] at h2; cases h2⟩
      · have := words_drop (c := c) hCf (by rw [hNH.out]; exact hlc) 1 hfl0
        rw [hNH.out, hNn, h] at this
        exact this
      · rw [← hy0]; simp only [h]; rfl
      · have := cut_from 22 9 .i64 Tryz.underlying22 hinf 1 hz1 (some a0) N c 1 (by omega) (by omega) W
        rw [show ((1 : Int)).toNat = 1 from rfl, map_add, show N - 1 = n by omega] at this
        exact this
    · have hNn := hnNH.out.2.2 h1
      refine ⟨some a0, c, by omega, ?_, fun h2 => by rw [h1] at h2; (cases h2), fun _ => ⟨?_, hNn.symm, rfl, rfl⟩⟩
      · rw [hNH.out, h, hNn] at hCf; exact hCf
      · rw [← hy0]; simp only [h]; exact h3 (by rw [hnH.out]; omega)
  rw [hw2]
  have hy1 : Hid (∀ (a : Txt) (r : List Txt), fieldsT cmd = a :: r → y0 = a) := fun a r h => by rw [← hy0]; simp only [h]; rfl
  clear hw2 hb12 e0 hy0H hy0 hfl0
  go_upto_if 23 with (fail)
  go_cut [5] (fun s5 wx => ∃ A5 c5, s5 = .slice A5 n c5 ∧ n ≤ c5 ∧ Hid (Kd.C Kd.string w1 A5 n (vs.map B)) ∧ Hid (wx.heap[w1.heap.size]? = some (.cells #[.slice none 0 0, .bool once, .string (B []), .string (B [])] 43 (0, 0))) ∧ Hid (Below w1.heap.size w1 wx))
  case first =>
    obtain ⟨A5, c5, hn5, hC5, q1, q2⟩ := hCat.out
    cases ho : once with
    | true =>
      obtain ⟨r1, hcut⟩ := q1 ho
      have hne : (y0 == [111, 110, 99, 101]) = true := beq_iff_eq.2 r1
      have p1 := (cell_of_heap (j := 1) hD2.out).trans rfl
      have f1 := frozen_of_heap hD2.out 1
      have hD3 := Lib.hid (blk_put hD2.out 1 (.bool true) rfl)
      have hB3 : Hid (Below w1.heap.size w1 (w2.setCell ⟨w1.heap.size, 1, none⟩ (.bool true))) := hB2.out.setCell (Nat.le_refl _) _
      have hC5H := Lib.hid hC5
      have hN1j : (1 : Int) ≤ (N : Int) := by omega
      have hoH := Lib.hid ho
      clear q1 q2 r1 hC5 ho
      simp only [hne]
      go_wp2_with fail
      go_meet
      exact ⟨A5, c5, rfl, hn5, hC5H, by rw [hoH.out]; exact hD3, hB3⟩
    | false =>
      obtain ⟨r1, rfl, rfl, rfl⟩ := q2 ho
      have hne : (y0 == [111, 110, 99, 101]) = false := beq_eq_false_iff_ne.2 r1
      have hC5H := Lib.hid hC5
      have hoH := Lib.hid ho
      clear q1 q2 r1 hC5 ho
      simp only [hne]
      go_wp2_with fail
      go_meet
      exact ⟨_, _, rfl, hn5, hC5H, by rw [hoH.out]; exact hD2, hB2⟩
  case rest =>
    obtain ⟨A5, c5, rfl, hn5, hC5, hD5, hB5⟩ := hcut
    obtain ⟨w3, hw⟩ : ∃ x, x = wc := ⟨_, rfl⟩
    subst hw
    clear hCat k0 hD2 hB2 hd0 hN0i
    obtain ⟨K, hK⟩ : ∃ K, k + 1 = K := ⟨_, rfl⟩
    obtain ⟨K1, hK1⟩ : ∃ x, K + 1 = x := ⟨_, rfl⟩
    obtain ⟨m, hm⟩ : ∃ m, n - K1 = m := ⟨_, rfl⟩
    have hKn : K < n := by omega
    have hK0 : ((K : Int) == 0) = false := by rw [beq_eq_false_iff_ne]; omega
    have hK0b : (K == 0) = false := by rw [beq_eq_false_iff_ne]; omega
    have hKnb : (K == n) = false := by rw [beq_eq_false_iff_ne]; omega
    have hKnE : ((K : Int) == (n : Int)) = false := by rw [beq_eq_false_iff_ne]; omega
    have hw1 : IntKind.i64.wrap ((K : Int) + 1) = (K1 : Int) := by rw [IntKind.wrap_i64]; omega
    have hK1n : K1 ≤ n := by omega
    have hK1i : (K1 : Int) ≤ (n : Int) := by omega
    have hK1z : (0 : Int) ≤ (K1 : Int) := by omega
    have huL : us.length = m := by rw [hSO.out.usE, List.length_drop, hnH.out]; omega
    have huLH := Lib.hid huL
    have hat : Hid (∀ h : K < vs.length, vs[K] = [62]) := by subst hK; exact hSO.out.at_
    have hnoK : Hid (∀ (j : Nat) (h : j < vs.length), j < K → vs[j] ≠ [62]) := by subst hK; exact hSO.out.no
    obtain ⟨A8, hA8⟩ : ∃ x, (if c5 = K1 then A5 else A5.map (·.add K1)) = x := ⟨_, rfl⟩
    have hcut8 : ∀ W : World, (Instr.slice 22 (.slice A5 n c5) (some (.int .i64 (K1 : Int))) none none).run Tryz.prog W = .ok (.slice A8 m (c5 - K1)) W := fun W => by
      have := cut_from 22 9 .i64 Tryz.underlying22 hinf 1 hz1 A5 n c5 (K1 : Int) hK1z hK1i W
      rw [Int.toNat_natCast, map_add, hA8, hm] at this
      exact this
    have hC8 : Hid (Kd.C Kd.string w1 A8 m (us.map B)) := by
      have := words_drop (c := c5) (ws := vs) (by rw [hnH.out]; exact hC5.out) (by rw [hnH.out]; exact hn5) K1 (by rw [hnH.out]; exact hK1n)
      rw [hnH.out, hA8, hm] at this
      rw [hSO.out.usE, show k + 2 = K1 by omega]; exact this
    obtain ⟨no, hno⟩ : ∃ x, outs.length = x := ⟨_, rfl⟩
    have hno0 : 0 < no := by rw [← hno]; exact List.length_pos_iff.2 hSO.out.ne
    have hnom : no ≤ m := by
      rw [← hno, ← huL]
      rcases hSO.out.out with ⟨_, h, _⟩ | ⟨_, j, _, h, _⟩
      · dsimp only at h; rw [h]; exact Nat.le_refl _
      · dsimp only at h; rw [h, List.length_take]; omega
    have hnoH := Lib.hid hno
    have hm8 : m ≤ c5 - K1 := by omega
    obtain ⟨c8, hc8⟩ : ∃ x, c5 - K1 = x := ⟨_, rfl⟩
    rw [hc8] at hcut8 hm8
    have hKH := Lib.hid (And.intro hK (And.intro hK1 hm))
    have hm1 : m ≤ 1001 := by omega
    clear hK hK1 hm hA8 hno hc8 huL hK1n hK1i hK1z
    go_wp2_with fail
    go_loopg [7] K (fun gk s7 wr => ∃ i : Nat, s7 = .int .i64 (i : Int) ∧ i + gk = K ∧ wr = w3)
    case atStart => exact ⟨0, rfl, by omega, rfl⟩
    case round =>
      obtain ⟨i, rfl, hik, rfl⟩ := hrel
      have hin : i < vs.length := by rw [hnH.out]; omega
      have hlt : decide ((i : Int) < (n : Int)) = true := by rw [decide_eq_true_iff]; omega
      have hi0 : (0 : Int) ≤ (i : Int) := by omega
      have hi1 : (i : Int) < (n : Int) := by omega
      have hi2 : i < n := by omega
      obtain ⟨ad, hAa, q0⟩ := text_at (ws := vs) (Kd.C_below (by rw [hnH.out]; exact hC5.out) hB5.out) i hin
      subst hAa
      cases gk with
      | succ gk =>
        have hy62 : (vs[i] != [62]) = true := by rw [bne_iff_ne]; exact hnoK.out i hin (by omega)
        have hy62b : (vs[i] == [62]) = false := by rw [beq_eq_false_iff_ne]; exact hnoK.out i hin (by omega)
        have hwr : IntKind.i64.wrap ((i : Int) + 1) = (i : Int) + 1 := by rw [IntKind.wrap_i64]; omega
        generalize vs[i] = y at *
        go_wp2_with fail
        go_roundg gk
        case measure => omega
        case rel => exact ⟨i + 1, by first | rfl | simp, by omega, rfl⟩
      | zero =>
        obtain rfl : K = i := by omega
        have hy62 : (vs[K] != [62]) = false := by rw [bne_eq_false_iff_eq]; exact hat.out hin
        have hy62b : (vs[K] == [62]) = true := by rw [beq_iff_eq]; exact hat.out hin
        generalize vs[K] = y at *
        obtain ⟨w4, hw4⟩ : ∃ x, x = wr := ⟨_, rfl⟩
        subst hw4
        go_upto_block 2 with (fail)
        clear q0 hy62 hy62b hcut8 hw1 hK0 hKnE hK0b hKnb
        go_cut [8] (fun s8 wx => s8 = .slice A8 no c8 ∧ Hid (wx.heap[w1.heap.size]? = some (.cells #[.slice none 0 0, .bool once, .string (B dep), .string (B [])] 43 (0, 0))) ∧ Hid (Below w1.heap.size w1 wx))
        case first =>
          rcases hSO.out.out with ⟨hd, hu, hn58⟩ | ⟨hd, j, hj2, hou, hjd, hj58, hjno, hjr⟩
          · as_aux_lemma =>
            dsimp only at hd hu
            subst hd
            have hn58H : Hid (∀ x ∈ us, x ≠ [58]) := hn58
            obtain rfl : no = m := by rw [← hnoH.out, ← huLH.out, hu]
            clear hu hn58
            go_wp2_with fail
            go_loopg [8, 9] no (fun gk s8 s9 wx => ∃ i : Nat, s8 = .slice A8 no c8 ∧ s9 = .int .i64 (i : Int) ∧ i + gk = no ∧ wx = w4)
            case atStart => exact ⟨0, rfl, rfl, by omega, rfl⟩
            case round =>
              obtain ⟨i, rfl, rfl, hik, rfl⟩ := hrel
              cases gk with
              | zero =>
                obtain rfl : no = i := by omega
                have hlt : decide ((no : Int) < (no : Int)) = false := by simp
                go_wp2_with fail
                go_meet
                exact ⟨rfl, hD5, hB5⟩
              | succ gk =>
                have hin : i < us.length := by rw [huLH.out]; omega
                have hlt : decide ((i : Int) < (no : Int)) = true := by rw [decide_eq_true_iff]; omega
                have hi0 : (0 : Int) ≤ (i : Int) := by omega
                have hi1 : (i : Int) < (no : Int) := by omega
                have hi2 : i < no := by omega
                obtain ⟨a8, hAa, q0⟩ := text_at (ws := us) (Kd.C_below (by rw [huLH.out]; exact hC8.out) hB5.out) i hin
                subst hAa
                have hy58 : (us[i] != [58]) = true := by rw [bne_iff_ne]; exact hn58H.out _ (List.getElem_mem hin)
                have hy58b : (us[i] == [58]) = false := by rw [beq_eq_false_iff_ne]; exact hn58H.out _ (List.getElem_mem hin)
                have hwr : IntKind.i64.wrap ((i : Int) + 1) = (i : Int) + 1 := by rw [IntKind.wrap_i64]; omega
                generalize us[i] = y at *
                go_wp2_with fail
                go_roundg gk
                case measure => omega
                case rel => exact ⟨i + 1, rfl, by first | rfl | simp, by omega, rfl⟩
          · as_aux_lemma =>
            dsimp only at hd hou hjd hjr
            have hjdH := Lib.hid hjd
            have hj58H := Lib.hid hj58
            have hjnoH := Lib.hid hjno
            have hjrH := Lib.hid hjr
            rw [huLH.out] at hj2
            obtain rfl : no = j := by rw [← hnoH.out, hou, List.length_take, huLH.out]; omega
            obtain ⟨j1, hj1⟩ : ∃ x, no + 1 = x := ⟨_, rfl⟩
            have hj1m : j1 < us.length := by rw [huLH.out]; omega
            have hjm : no < us.length := by rw [huLH.out]; omega
            have hds : Hid (us[j1] = dep) := by subst hj1; exact hjdH.out hj1m
            have hm2w : IntKind.i64.wrap ((m : Int) - 2) = (no : Int) := by rw [IntKind.wrap_i64]; omega
            have hj1w : IntKind.i64.wrap ((no : Int) + 1) = (j1 : Int) := by rw [IntKind.wrap_i64]; omega
            have hR := Lib.hid (fun W => refRight_any dep W)
            have hcutj : ∀ W : World, (Instr.slice 22 (.slice A8 m c8) none (some (.int .i64 (no : Int))) none).run Tryz.prog W = .ok (.slice A8 no c8) W := fun W => by
              have := cut_to 22 9 .i64 Tryz.underlying22 hinf A8 m c8 (no : Int) (by omega) (by omega) hm8 W
              simpa using this
            have hj1H := Lib.hid hj1
            have hj2H := Lib.hid hj2
            have hnm : no + 2 ≤ m ∧ j1 < m ∧ no < j1 := by omega
            clear hd hou hjd hj58 hjno hjr hj1 hj2
            go_wp2_with fail
            go_loopg [8, 9] (no + 1) (fun gk s8 s9 wx => ∃ i : Nat, s9 = .int .i64 (i : Int) ∧ Hid ((s8 = .slice A8 m c8 ∧ i + gk = no + 1 ∧ 0 < gk ∧ wx = w4) ∨ (gk = 0 ∧ i = j1 ∧ s8 = .slice A8 no c8 ∧ wx.heap[w1.heap.size]? = some (.cells #[.slice none 0 0, .bool once, .string (B dep), .string (B [])] 43 (0, 0)) ∧ Below w1.heap.size w1 wx)))
            case atStart => exact ⟨0, rfl, .inl ⟨rfl, by omega, by omega, rfl⟩⟩
            case round =>
              obtain ⟨i, rfl, hor⟩ := hrel
              rcases hor.out with ⟨rfl, hik, hg0, rfl⟩ | ⟨rfl, rfl, rfl, hD6, hB6⟩
              · clear hor
                have hin : i < us.length := by rw [huLH.out]; omega
                have hlt : decide ((i : Int) < (m : Int)) = true := by rw [decide_eq_true_iff]; omega
                have hi0 : (0 : Int) ≤ (i : Int) := by omega
                have hi1 : (i : Int) < (m : Int) := by omega
                have hi2 : i < m := by omega
                have hwr : IntKind.i64.wrap ((i : Int) + 1) = (i : Int) + 1 := by rw [IntKind.wrap_i64]; omega
                obtain ⟨a8, hAa, q0⟩ := text_at (ws := us) (Kd.C_below (by rw [huLH.out]; exact hC8.out) hB5.out) i hin
                subst hAa
                obtain ⟨g2, rfl⟩ : ∃ g, gk = g + 1 := ⟨gk - 1, by omega⟩
                by_cases hij : i < no
                · have hy58 : (us[i] != [58]) = true := by rw [bne_iff_ne]; exact hjnoH.out i hin hij
                  have hy58b : (us[i] == [58]) = false := by rw [beq_eq_false_iff_ne]; exact hjnoH.out i hin hij
                  generalize us[i] = y at *
                  clear hm2w hj1w
                  go_wp2_with fail
                  go_roundg g2
                  case measure => omega
                  case rel => exact ⟨i + 1, by first | rfl | simp, .inl ⟨rfl, by omega, by omega, rfl⟩⟩
                · obtain rfl : no = i := by omega
                  have hy58 : (us[no] != [58]) = false := by rw [bne_eq_false_iff_eq]; exact hj58H.out hin
                  have hy58b : (us[no] == [58]) = true := by rw [beq_iff_eq]; exact hj58H.out hin
                  have hg2 : g2 = 0 := by omega
                  subst hg2
                  obtain ⟨a8', hAa', r0⟩ := text_at (ws := us) (Kd.C_below (by rw [huLH.out]; exact hC8.out) hB5.out) j1 hj1m
                  injection hAa' with hAa'
                  subst hAa'
                  rw [hds.out] at r0
                  have hj1z : (0 : Int) ≤ (j1 : Int) := by omega
                  have hj1i : (j1 : Int) < (m : Int) := by omega
                  have hj1n : j1 < m := by omega
                  have hwr1 : IntKind.i64.wrap ((no : Int) + 1) = (j1 : Int) := hj1w
                  generalize us[no] = y at *
                  clear hwr
                  go_wp2_with fail
                  refine (hR.out _).mono ?_
                  rintro e w5 ⟨rfl, hb5⟩
                  rw [hjrH.out]
                  have r5 := below_cell hb5 r0
                  have hD6 := Lib.hid ((hb5.block _ (Array.getElem?_eq_some_iff.1 hD5.out).1).trans hD5.out)
                  have p2 := (cell_of_heap (j := 2) hD6.out).trans rfl
                  have f2 := frozen_of_heap hD6.out 2
                  have hD7 := Lib.hid (blk_put hD6.out 2 (.string (B dep)) rfl)
                  have hB7 : Hid (Below w1.heap.size w1 (w5.setCell ⟨w1.heap.size, 2, none⟩ (.string (B dep)))) := (hB5.out.trans (hb5.mono hB5.out.size)).setCell (Nat.le_refl _) _
                  clear hb5 r0 q0 hy58 hy58b
                  go_wp2_with fail
                  go_roundg 0
                  case measure => omega
                  case rel => exact ⟨j1, by first | rfl | simp, .inr ⟨rfl, rfl, rfl, hD7.out, hB7.out⟩⟩
              · have hlt : decide ((i : Int) < (no : Int)) = false := by rw [decide_eq_false_iff_not]; omega
                have hD6H := Lib.hid hD6
                have hB6H := Lib.hid hB6
                clear hor hD6 hB6
                go_wp2_with fail
                go_meet
                exact ⟨rfl, hD6H, hB6H⟩
        case rest =>
          obtain ⟨rfl, hD6, hB6⟩ := hcut
          obtain ⟨w6, hw6⟩ : ∃ x, x = wc := ⟨_, rfl⟩
          subst hw6
          have hv0 : 0 < vs.length := by rw [hnH.out]; omega
          obtain ⟨ad', hAa', q1⟩ := text_at (ws := vs) (Kd.C_below (by rw [hnH.out]; exact hC5.out) hB6.out) 0 hv0
          injection hAa' with hAa'
          subst hAa'
          have hvv := hSO.out.verb hv0
          dsimp only at hvv
          rw [show ad.add 0 = ad by simp [Addr.add], hvv] at q1
          have hS0 : Hid (w6.drew.cell? ⟨w1.heap.size, 2, none⟩ = some (.string (B dep)) ∧ w6.drew.cell? ad = some (.string (B verb))) := ⟨(cell_of_heap (j := 2) hD6.out).trans rfl, q1⟩
          have hD7 : Hid (w6.drew.heap[w1.heap.size]? = some (.cells #[.slice none 0 0, .bool once, .string (B dep), .string (B [])] 43 (0, 0))) := hD6.out
          have hB7 : Hid (Below w1.heap.size w1 w6.drew) := hB6.out.drew
          have hnoz : ((no : Int) == 0) = false := by rw [beq_eq_false_iff_ne]; omega
          have hnozb : (no == 0) = false := by rw [beq_eq_false_iff_ne]; omega
          have hinc := Lib.hid hSO.out.inc
          have hn0 : (0 : Int) < (n : Int) := by omega
          have hn0' : 0 < n := by omega
          clear hvv q1 hv0
          go_upto_region 20 with (fail)
          go_cut [100] (fun s100 wx => s100 = .bool false ∧ Hid (wx.heap[w1.heap.size]? = some (.cells #[.slice none 0 0, .bool once, .string (B dep), .string (B [])] 43 (0, 0))) ∧ Hid (Below w1.heap.size w1 wx))
          case first =>
            by_cases hv : verb = [105, 110, 99]
            · cases dep with
              | nil => exact absurd rfl (hinc.out.2 hv)
              | cons d0 dr =>
                subst hv
                refine RegP.regionH (fun w' => w'.cell? ⟨w1.heap.size, 2, none⟩ = some (.string (B (d0 :: dr))) ∧ w'.cell? ad = some (.string (B [105, 110, 99]))) [(0, 0), (0, 1), (0, 2), (0, 3), (0, 4), (1, 5), (0, 6), (0, 7), (0, 8), (1, 9), (0, 10), (0, 11), (0, 12)] (by kernel_rfl) (by kernel_rfl) (by rfl) (by kernel_rfl) (by exact hS0.out) ?_
                repeat ((first | refine RegP.pu ?_ | refine RegP.he ?_ | refine RegP.sk ?_); try simp only [Act.put, pA,pB,pC])
                refine RegP.done1 ?_
                try dsimp only
                go_wp2_with fail
                go_meet
                exact ⟨rfl, hD7, hB7⟩
            · cases dep with
              | cons d0 dr => exact absurd (hinc.out.1 (by simp)) hv
              | nil =>
                have hvb : (verb == [105, 110, 99]) = false := beq_eq_false_iff_ne.2 hv
                refine RegP.regionH (fun w' => w'.cell? ⟨w1.heap.size, 2, none⟩ = some (.string (B [])) ∧ w'.cell? ad = some (.string (B verb))) [(0, 0), (0, 1), (0, 2), (0, 3), (0, 4), (1, 5), (0, 6), (0, 7), (0, 8), (1, 9), (0, 10), (0, 11), (0, 12)] (by kernel_rfl) (by kernel_rfl) (by rfl) (by kernel_rfl) (by exact hS0.out) ?_
                repeat ((first | refine RegP.pu ?_ | refine RegP.he ?_ | refine RegP.sk ?_); try simp only [Act.put, pA,pB,pC])
                refine RegP.done1 ?_
                try dsimp only
                go_wp2_with fail
                go_meet
                exact ⟨rfl, hD7, hB7⟩
          case rest =>
            obtain ⟨rfl, hD8, hB8⟩ := hcut
            obtain ⟨w7, hw7⟩ : ∃ x, x = wc := ⟨_, rfl⟩
            subst hw7
            have hCo : Hid (Kd.C Kd.string w1 A8 no (outs.map B)) := by
              have h8 := hC8.out
              rw [← huLH.out] at h8
              rcases hSO.out.out with ⟨_, h, _⟩ | ⟨_, j, hj2, h, _⟩
              · dsimp only at h
                show Kd.C _ _ _ _ _
                rw [← hnoH.out, ← h]; exact h8
              · dsimp only at h
                have hj : no = j := by rw [← hnoH.out, h, List.length_take]; omega
                show Kd.C _ _ _ _ _
                rw [h, hj]; exact words_take h8 j (by omega)
            obtain ⟨a8, ha8, _⟩ := text_at (ws := outs) (by rw [hnoH.out]; exact hCo.out) 0 (by rw [hnoH.out]; exact hno0)
            subst ha8
            have hok : Hid (namesOk (outs.take 0) (outs.drop 0) = true) := hSO.out.ok
            have hno8 : no ≤ c8 := by omega
            have hno3 : no ≤ 1001 := by omega
            clear hD6 hB6 hS0 hD7 hB7
            go_wp2_with fail
            go_loopg [10] no (fun gk s10 wx => ∃ i : Nat, s10 = .int .i64 (i : Int) ∧ i + gk = no ∧ Hid (namesOk (outs.take i) (outs.drop i) = true) ∧ Hid (wx.heap[w1.heap.size]? = some (.cells #[.slice none 0 0, .bool once, .string (B dep), .string (B [])] 43 (0, 0))) ∧ Hid (Below w1.heap.size w1 wx))
            case atStart => exact ⟨0, rfl, by omega, hok, hD8, hB8⟩
            case round =>
              obtain ⟨i, rfl, hik, hNm, hD, hB⟩ := hrel
              cases gk with
              | succ gk =>
                have hin : i < outs.length := by rw [hnoH.out]; omega
                have hlt : decide ((i : Int) < (no : Int)) = true := by rw [decide_eq_true_iff]; omega
                have hi0 : (0 : Int) ≤ (i : Int) := by omega
                have hi1 : (i : Int) < (no : Int) := by omega
                have hi2 : i < no := by omega
                have hi3 : (i : Int) ≤ (no : Int) := by omega
                have hwr : IntKind.i64.wrap ((i : Int) + 1) = (i : Int) + 1 := by rw [IntKind.wrap_i64]; omega
                obtain ⟨a8', hAa, q0⟩ := text_at (ws := outs) (by rw [hnoH.out]; exact Kd.C_below hCo.out hB.out) i hin
                injection hAa with hAa
                subst hAa
                obtain ⟨y, hy⟩ : ∃ y, outs[i] = y := ⟨_, rfl⟩
                rw [hy] at q0
                have hN := hNm.out
                rw [List.drop_eq_getElem_cons hin, hy, namesOk, Bool.and_eq_true, Bool.and_eq_true] at hN
                obtain ⟨⟨h1, h2⟩, h3⟩ := hN
                have hry := Lib.hid h1
                have hnin : Hid (decide (y ∈ outs.take i) = false) := by
                  show _ = _
                  rw [contains_iff] at h2
                  simpa using h2
                have hN2 : Hid (namesOk (outs.take (i + 1)) (outs.drop (i + 1)) = true) := by
                  show _ = _
                  rw [List.take_succ_eq_append_getElem hin, hy]; exact h3
                have hTL : Hid ((outs.take i).length = i) := by show _ = _; rw [List.length_take]; omega
                have hTK : Hid (Kd.C Kd.string w1 (some a8) i ((outs.take i).map B)) := words_take (by rw [hnoH.out]; exact hCo.out) i (by omega)
                have hcuti : ∀ W : World, (Instr.slice 22 (.slice (some a8) no c8) none (some (.int .i64 (i : Int))) none).run Tryz.prog W = .ok (.slice (some a8) i c8) W := fun W => by
                  have := cut_to 22 9 .i64 Tryz.underlying22 hinf (some a8) no c8 (i : Int) hi0 hi3 hno8 W
                  simpa using this
                have hS0 : Hid (wr.drew.cell? (a8.add i) = some (.string (B y))) := q0
                have hBd : Hid (Below w1.heap.size w1 wr.drew) := hB.out.drew
                have hDd : Hid (wr.drew.heap[w1.heap.size]? = some (.cells #[.slice none 0 0, .bool once, .string (B dep), .string (B [])] 43 (0, 0))) := hD.out
                clear hy h1 h2 h3 q0 hNm hD hB
                go_wp2_with fail
                refine RegP.regionH (fun w' => w'.cell? (a8.add i) = some (.string (B y))) [(0, 0), (0, 1), (0, 2), (1, 3), (2, 4), (0, 5), (0, 6), (0, 7), (0, 8), (0, 9), (0, 10), (0, 11), (0, 12), (1, 13), (2, 14), (0, 15)] (by kernel_rfl) (by kernel_rfl) (by rfl) (by kernel_rfl) (by exact hS0.out) ?_
                generalize wr.drew = wd at *
                repeat ((first | refine RegP.pu ?_ | refine RegP.he ?_ | refine RegP.sk ?_); try simp only [Act.put, pA,pB,pC])
                refine RegP.evq (fun K hK => ?_)
                go_simp
                refine (refRight_any y _).mono ?_
                rintro e w4 ⟨rfl, hb4⟩
                have hB4 := Lib.hid (hBd.out.trans (hb4.mono hBd.out.size))
                have hD4 := Lib.hid ((hb4.block _ (Array.getElem?_eq_some_iff.1 hDd.out).1).trans hDd.out)
                have hKeep : Hid (w4.cell? (a8.add i) = some (.string (B y))) := below_cell hb4 hS0.out
                rw [hry.out]
                clear hb4
                refine hK.out _ _ ?_ (fun hHeld => ?_)
                · (try dsimp only); exact hKeep.out
                clear hK K
                try simp only [Act.put, pA,pB,pC]
                repeat ((first | refine RegP.pu ?_ | refine RegP.he ?_ | refine RegP.sk ?_); try simp only [Act.put, pA,pB,pC])
                refine RegP.evq (fun K hK => ?_)
                go_simp
                have hIn := In_C (some a8) c8 (outs.take i) y w4 (by rw [hTL.out]; omega) (by rw [hTL.out]; exact Kd.C_below (hTK.out) hB4.out) (by rw [hTL.out]; omega)
                rw [hTL.out] at hIn
                refine hIn.mono ?_
                rintro e w5 ⟨rfl, hb5⟩
                have hB5 := Lib.hid (hB4.out.trans (hb5.mono hB4.out.size))
                have hD5 := Lib.hid ((hb5.block _ (Array.getElem?_eq_some_iff.1 hD4.out).1).trans hD4.out)
                have hKeep2 : Hid (w5.cell? (a8.add i) = some (.string (B y))) := below_cell hb5 hKeep.out
                rw [hnin.out]
                clear hb5 hIn
                refine hK.out _ _ ?_ (fun hHeld => ?_)
                · (try dsimp only); exact hKeep2.out
                clear hK K
                try simp only [Act.put, pA,pB,pC]
                repeat ((first | refine RegP.pu ?_ | refine RegP.he ?_ | refine RegP.sk ?_); try simp only [Act.put, pA,pB,pC])
                refine RegP.done1 ?_
                try dsimp only
                clear hHeld
                go_wp2_with fail
                go_roundg gk
                case measure => omega
                case rel => exact ⟨i + 1, by first | rfl | simp, by omega, hN2, hD5, hB5⟩
              | zero =>
                obtain rfl : no = i := by omega
                have hlt : decide ((no : Int) < (no : Int)) = false := by simp
                obtain ⟨w8, hw8⟩ : ∃ x, x = wr := ⟨_, rfl⟩
                subst hw8
                clear hNm hok hik hnozb hnoz
                go_wp2_with fail
                go_loopg [11] no (fun gk s11 wx => ∃ (i : Nat) (Ao : Option Addr) (co : Nat), s11 = .int .i64 (i : Int) ∧ i + gk = no ∧ Hid (wx.heap[w1.heap.size]? = some (.cells #[.slice Ao i co, .bool once, .string (B dep), .string (B [])] 43 (0, 0))) ∧ Hid (wx.ownsRow (w1.heap.size + 1) 41 2 (.slice Ao i co) i (ocells (fun _ => .slice none 0 0) 0 (outs.take i))) ∧ Hid (Below w1.heap.size w1 wx))
                case atStart => exact ⟨0, none, 0, rfl, by omega, hD, World.ownsRow_nil _ _ _ _, hB⟩
                case round =>
                  clear hD hB hlt
                  obtain ⟨i, Ao, co, rfl, hik, hD, hO, hB⟩ := hrel
                  cases gk with
                  | succ gk =>
                    have hin : i < outs.length := by rw [hnoH.out]; omega
                    have hlt : decide ((i : Int) < (no : Int)) = true := by rw [decide_eq_true_iff]; omega
                    have hi0 : (0 : Int) ≤ (i : Int) := by omega
                    have hi1 : (i : Int) < (no : Int) := by omega
                    have hi2 : i < no := by omega
                    have hwr : IntKind.i64.wrap ((i : Int) + 1) = (i : Int) + 1 := by rw [IntKind.wrap_i64]; omega
                    obtain ⟨a8', hAa, q0⟩ := text_at (ws := outs) (by rw [hnoH.out]; exact Kd.C_below hCo.out hB.out) i hin
                    injection hAa with hAa
                    subst hAa
                    obtain ⟨y, hy⟩ : ∃ y, outs[i] = y := ⟨_, rfl⟩
                    rw [hy] at q0
                    have hTk : Hid (outs.take (i + 1) = outs.take i ++ [y]) := by show _ = _; rw [List.take_succ_eq_append_getElem hin, hy]
                    have hTL : Hid ((outs.take i).length = i) := by show _ = _; rw [List.length_take]; omega
                    have hS0 : Hid (wr.drew.cell? ⟨w1.heap.size, 0, none⟩ = some (.slice Ao i co) ∧ wr.drew.cell? (a8.add i) = some (.string (B y))) := ⟨(cell_of_heap (j := 0) hD.out).trans rfl, q0⟩
                    have hBd : Hid (Below w1.heap.size w1 wr.drew) := hB.out.drew
                    have hDd : Hid (wr.drew.heap[w1.heap.size]? = some (.cells #[.slice Ao i co, .bool once, .string (B dep), .string (B [])] 43 (0, 0))) := hD.out
                    have hOd : Hid (wr.drew.ownsRow (w1.heap.size + 1) 41 2 (.slice Ao i co) i (ocells (fun _ => .slice none 0 0) 0 (outs.take i))) := hO.out
                    have hwd : Hid (w1.heap.size + 1 ≤ wr.drew.heap.size) := (Array.getElem?_eq_some_iff.1 hDd.out).1
                    have Kcell : Hid (∀ W, Below w1.heap.size w1 W → W.cell? (a8.add i) = some (.string (B y))) := fun W hW => by
                      obtain ⟨a9, h9, h0⟩ := text_at (ws := outs) (by rw [hnoH.out]; exact Kd.C_below hCo.out hW) i hin
                      injection h9 with h9
                      subst h9
                      rw [hy] at h0; exact h0
                    clear hy q0 hD hO hB
                    go_wp2_with fail
                    refine RegP.region (fun w' => w'.cell? ⟨w1.heap.size, 0, none⟩ = some (.slice Ao i co) ∧ w'.cell? (a8.add i) = some (.string (B y))) 10 [(0, 0), (1, 1), (0, 2), (0, 3), (0, 4), (1, 5), (0, 6), (2, 7), (2, 8), (0, 9), (3, 10)] (by kernel_rfl) (by kernel_rfl) (by rfl) (by kernel_rfl) (by exact hS0.out) ?_
                    generalize wr.drew = wd at *
                    repeat ((first | refine RegP.pu ?_ | refine RegP.he ?_ | refine RegP.sk ?_); try simp only [Act.put, pA,pB,pC])
                    refine RegP.evq (fun K hK => ?_)
                    go_simp
                    refine hK.out _ _ ?_ (fun hHeld => ?_)
                    · (try dsimp only); exact ⟨below_cell ((Below.refl _ _).alloc (Nat.le_refl _) _) hS0.out.1, below_cell ((Below.refl _ _).alloc (Nat.le_refl _) _) hS0.out.2⟩
                    clear hK K
                    try simp only [Act.put, pA,pB,pC]
                    refine RegP.evq (fun K hK => ?_)
                    refine step_append_cells (w0 := wd) (W := wd) (w1.heap.size + 1) rfl _ _ 23 41 (.agg #[.string ⟨#[]⟩, .slice none 0 0]) 2 40 rfl Tryz.underlying23 (by kernel_rfl) rfl (by decide) (by decide) (.slice Ao i co) i (ocells (fun _ => .slice none 0 0) 0 (outs.take i)) [.string (B y), .slice none 0 0] rfl rfl rfl (by intro u hu; rcases List.mem_cons.1 hu with rfl | hu; rfl; rw [List.mem_singleton.1 hu]; rfl) hOd.out (Below.refl _ _) hwd.out (by omega) ?_
                    intro v9 w9 ho9 hb9 hg9 _
                    obtain ⟨A9, c9, rfl⟩ : ∃ A c, v9 = .slice A (i + 1) c := by rcases ho9.2 with ⟨_, h⟩ | ⟨g, cap, cur, e, _⟩; exact absurd h (by omega); exact ⟨_, _, e⟩
                    have hD9 := Lib.hid ((hg9.block _ (Array.getElem?_eq_some_iff.1 hDd.out).1 (fun e => by have := own_base hOd.out _ e.symm; omega)).trans hDd.out)
                    have hO9 : Hid (w9.ownsRow (w1.heap.size + 1) 41 2 (.slice A9 (i + 1) c9) (i + 1) (ocells (fun _ => .slice none 0 0) 0 (outs.take (i + 1)))) := by show World.ownsRow _ _ _ _ _ _ _; rw [hTk.out, ocells_append]; exact ho9
                    have hB9 : Hid (Below w1.heap.size w1 w9) := hBd.out.trans (hb9.mono (Nat.le_succ _))
                    have hq9 : Hid (w9.cell? (a8.add i) = some (.string (B y))) := Kcell.out w9 hB9.out
                    have p0 := (cell_of_heap (j := 0) hD9.out).trans rfl
                    have f0 := frozen_of_heap hD9.out 0
                    clear ho9 hb9 hg9
                    refine hK.out _ _ ?_ (fun hHeld => ?_)
                    · (try dsimp only); exact ⟨p0, hq9.out⟩
                    clear hK K
                    try simp only [Act.put, pA,pB,pC]
                    repeat ((first | refine RegP.pu ?_ | refine RegP.he ?_ | refine RegP.sk ?_); try simp only [Act.put, pA,pB,pC])
                    refine RegP.laq (fun K hK => ?_)
                    have hD10 := Lib.hid (blk_put hD9.out 0 (.slice A9 (i + 1) c9) rfl)
                    have hB10 : Hid (Below w1.heap.size w1 (w9.setCell ⟨w1.heap.size, 0, none⟩ (.slice A9 (i + 1) c9))) := hB9.out.setCell (Nat.le_refl _) _
                    have hO10 : Hid ((w9.setCell ⟨w1.heap.size, 0, none⟩ (.slice A9 (i + 1) c9)).ownsRow (w1.heap.size + 1) 41 2 (.slice A9 (i + 1) c9) (i + 1) (ocells (fun _ => .slice none 0 0) 0 (outs.take (i + 1)))) := own_move hO9.out (fun k e => Below.heap_setCell _ _ _ _ (by have := own_base hO9.out k e; show k ≠ w1.heap.size; omega))
                    go_simp
                    generalize w9.setCell ⟨w1.heap.size, 0, none⟩ (.slice A9 (i + 1) c9) = w10 at *
                    refine hK.out _ _ ?_
                    clear hK K
                    try simp only [Act.put, pA,pB,pC]
                    refine RegP.done1 ?_
                    try dsimp only
                    go_wp2_with fail
                    go_roundg gk
                    case measure => omega
                    case rel => exact ⟨i + 1, A9, c9, by first | rfl | simp, by omega, hD10, hO10, hB10⟩
                  | zero =>
                    obtain rfl : no = i := by omega
                    have hlt : decide ((no : Int) < (no : Int)) = false := by simp
                    have hv0 : 0 < vs.length := by rw [hnH.out]; omega
                    obtain ⟨ad', hAa', q1⟩ := text_at (ws := vs) (Kd.C_below (by rw [hnH.out]; exact hC5.out) hB.out) 0 hv0
                    injection hAa' with hAa'
                    subst hAa'
                    have hvv := hSO.out.verb hv0
                    dsimp only at hvv
                    rw [show ad.add 0 = ad by simp [Addr.add], hvv] at q1
                    have hS0 : Hid (wr.drew.cell? ⟨w1.heap.size, 0, none⟩ = some (.slice Ao no co) ∧ wr.drew.cell? ⟨w1.heap.size, 1, none⟩ = some (.bool once) ∧ wr.drew.cell? ⟨w1.heap.size, 2, none⟩ = some (.string (B dep)) ∧ wr.drew.cell? ⟨w1.heap.size, 3, none⟩ = some (.string (B [])) ∧ wr.drew.cell? ad = some (.string (B verb))) :=
                      ⟨(cell_of_heap (j := 0) hD.out).trans rfl, (cell_of_heap (j := 1) hD.out).trans rfl, (cell_of_heap (j := 2) hD.out).trans rfl, (cell_of_heap (j := 3) hD.out).trans rfl, q1⟩
                    have hr : Hid (wr.drew.heap[w.heap.size]? = some (.cells #[.slice none 0 0, .bool false, .string (B []), .string (B [])] 43 (0, 0))) := (hB.out.block _ (Array.getElem?_eq_some_iff.1 hres.out).1).trans hres.out
                    have hr1 : Hid (w.heap.size < w1.heap.size) := (Array.getElem?_eq_some_iff.1 hres.out).1
                    have hOd : Hid (wr.drew.ownsRow (w1.heap.size + 1) 41 2 (.slice Ao no co) no (ocells (fun _ => .slice none 0 0) 0 outs)) := by
                      have := hO.out
                      rw [List.take_of_length_le (by rw [hnoH.out]; exact Nat.le_refl _)] at this
                      exact this
                    have hBd : Hid (Below w.heap.size w wr.drew) := hB01.out.trans (hB.out.drew.mono hB01.out.size)
                    have hBd1 : Hid (Below w1.heap.size w1 wr.drew) := hB.out.drew
                    have hKi : (K : Int) ≤ (n : Int) := by omega
                    have hKz : (0 : Int) ≤ (K : Int) := by omega
                    have hcutK : ∀ W : World, (Instr.slice 22 (.slice (some ad) n c5) none (some (.int .i64 (K : Int))) none).run Tryz.prog W = .ok (.slice (some ad) K c5) W := fun W => by
                      have := cut_to 22 9 .i64 Tryz.underlying22 hinf (some ad) n c5 (K : Int) hKz hKi hn5 W
                      simpa using this
                    have hKc : K ≤ c5 := by omega
                    have hal : Hid (args.length + 1 = K) := by
                      have h1 := hSO.out.alen
                      dsimp only at h1
                      show _ = _
                      rw [h1]; exact hKH.out.1
                    have hCw : Hid (∀ W, Below w1.heap.size w1 W → Kd.C Kd.string W (some ad) K ((verb :: args).map B)) := fun W hW => by
                      have h1 := hSO.out.args
                      dsimp only at h1
                      have h2 := words_take (ws := vs) (Kd.C_below (by rw [hnH.out]; exact hC5.out) hW) K (by rw [hnH.out]; omega)
                      rw [h1, hKH.out.1]; exact h2
                    have hvB := hSO.out.vB
                    dsimp only at hvB
                    have hv6 : verb = [99, 97, 116] ∨ verb = [114, 101, 118] ∨ verb = [115, 117, 109] ∨ verb = [112, 117, 116] ∨ verb = [105, 110, 99] ∨ verb = [102, 97, 105, 108] := by
                      simp only [verbB, Bool.or_eq_true, beq_iff_eq, kCat, kRev, kSum, kPut, kInc, kFail] at hvB
                      rcases hvB with ((((h | h) | h) | h) | h) | h
                      · exact .inl h
                      · exact .inr (.inl h)
                      · exact .inr (.inr (.inl h))
                      · exact .inr (.inr (.inr (.inl h)))
                      · exact .inr (.inr (.inr (.inr (.inl h))))
                      · exact .inr (.inr (.inr (.inr (.inr h))))
                    have hv6H := Lib.hid hv6
                    have hwne : Hid (∀ t ∈ verb :: args, t ≠ []) := fun t ht => by
                      have h1 := hSO.out.args
                      dsimp only at h1
                      rw [h1] at ht
                      have h2 := List.mem_of_mem_take ht
                      refine fieldsGo_ne cmd [] t ?_
                      rcases hSO.out.words with ⟨_, h⟩ | ⟨_, h, _⟩
                      · show t ∈ fieldsT cmd
                        rw [h]; exact List.mem_cons_of_mem _ h2
                      · show t ∈ fieldsT cmd
                        rw [h]; exact h2
                    have hadb : Hid (verb ≠ [] → ad.block ≠ w.heap.size) := fun hne => cell_ne_block hr.out hS0.out.2.2.2.2 (cells_no_text hne)
                    have hEnd : Hid (∀ W, Below w.heap.size w W → But w.heap.size wr.drew W → RefShape ⟨verb, args, once, outs, dep⟩ w (.returned (.tuple #[.slice (some ad) K c5, .agg #[.slice Ao no co, .bool once, .string (B dep), .string (B [])], .bool true])) W) := fun W hW hk => by
                      refine ⟨hW, some ad, c5, .slice Ao no co, by rw [hal.out], by rw [hal.out]; exact hKc, ?_, ?_⟩
                      · show Kd.C _ _ _ (args.length + 1) _
                        rw [hal.out]
                        have h2 := hCw.out _ hBd1.out
                        refine scalar_but h2 hr.out (fun x hx j h => ?_) hk
                        obtain ⟨t, ht, rfl⟩ := List.mem_map.1 hx
                        exact cells_no_text (hwne.out t ht) j h
                      · have h1 := hOd.out
                        rw [← hnoH.out] at h1
                        have h2 := own_move h1 (w1 := W) (fun k e => hk.same k (own_lt h1 k e) (by have := own_base h1 k e; have := hr1.out; omega))
                        have h3 := own_weaken h2 (show w.heap.size ≤ w1.heap.size + 1 by have := hr1.out; omega)
                        rw [← hnoH.out]
                        exact h3
                    clear hvv q1 hv0 hD hO hB hvB hv6
                    go_wp2_with fail
                    refine RegP.regionQ (fun w' => w'.cell? ⟨w1.heap.size, 0, none⟩ = some (.slice Ao no co) ∧ w'.cell? ⟨w1.heap.size, 1, none⟩ = some (.bool once) ∧ w'.cell? ⟨w1.heap.size, 2, none⟩ = some (.string (B dep)) ∧ w'.cell? ⟨w1.heap.size, 3, none⟩ = some (.string (B [])) ∧ w'.cell? ad = some (.string (B verb))) [(false, 0), (false, 1), (false, 2), (false, 3), (false, 4), (false, 5), (false, 6), (false, 7), (false, 8), (false, 9), (false, 10), (false, 11), (false, 12), (false, 13), (false, 14), (false, 15), (false, 16), (false, 17), (false, 18), (false, 19), (false, 20), (false, 21), (false, 22), (false, 23), (false, 24), (false, 25), (false, 26), (false, 27), (false, 28), (false, 29), (false, 30), (false, 31), (false, 32), (false, 33), (false, 34), (false, 35), (false, 36), (false, 37), (false, 38), (true, 39), (false, 40)] (by kernel_rfl) (by kernel_rfl) (by rfl) (by kernel_rfl) (by exact hS0.out) ?_
                    generalize wr.drew = wd at *
                    have hk9 : Hid (∀ k, k ≠ w.heap.size → ((((wd.setCell ⟨w.heap.size, 0, none⟩ (.slice Ao no co)).setCell ⟨w.heap.size, 1, none⟩ (.bool once)).setCell ⟨w.heap.size, 2, none⟩ (.string (B dep))).setCell ⟨w.heap.size, 3, none⟩ (.string (B []))).heap[k]? = wd.heap[k]?) := fun k hk => by rw [Below.heap_setCell _ _ _ _ hk, Below.heap_setCell _ _ _ _ hk, Below.heap_setCell _ _ _ _ hk, Below.heap_setCell _ _ _ _ hk]
                    have hbut : Hid (But w.heap.size wd ((((wd.setCell ⟨w.heap.size, 0, none⟩ (.slice Ao no co)).setCell ⟨w.heap.size, 1, none⟩ (.bool once)).setCell ⟨w.heap.size, 2, none⟩ (.string (B dep))).setCell ⟨w.heap.size, 3, none⟩ (.string (B [])))) := ((((But.refl _ _).set 0 _).set 1 _).set 2 _).set 3 _
                    have hBd9 : Hid (Below w.heap.size w ((((wd.setCell ⟨w.heap.size, 0, none⟩ (.slice Ao no co)).setCell ⟨w.heap.size, 1, none⟩ (.bool once)).setCell ⟨w.heap.size, 2, none⟩ (.string (B dep))).setCell ⟨w.heap.size, 3, none⟩ (.string (B [])))) := ⟨hBd.out.os, hBd.out.tape, hBd.out.output, by simpa using hBd.out.size, fun k hk => (hk9.out k (by omega)).trans (hBd.out.block k hk)⟩
                    have k4 := blk_put (blk_put (blk_put (blk_put hr.out 0 (.slice Ao no co) rfl) 1 (.bool once) rfl) 2 (.string (B dep)) rfl) 3 (.string (B [])) rfl
                    have hq9 : Hid (((((wd.setCell ⟨w.heap.size, 0, none⟩ (.slice Ao no co)).setCell ⟨w.heap.size, 1, none⟩ (.bool once)).setCell ⟨w.heap.size, 2, none⟩ (.string (B dep))).setCell ⟨w.heap.size, 3, none⟩ (.string (B []))).cell? ⟨w.heap.size, 0, none⟩ = some (.slice Ao no co) ∧ ((((wd.setCell ⟨w.heap.size, 0, none⟩ (.slice Ao no co)).setCell ⟨w.heap.size, 1, none⟩ (.bool once)).setCell ⟨w.heap.size, 2, none⟩ (.string (B dep))).setCell ⟨w.heap.size, 3, none⟩ (.string (B []))).cell? ⟨w.heap.size, 1, none⟩ = some (.bool once) ∧ ((((wd.setCell ⟨w.heap.size, 0, none⟩ (.slice Ao no co)).setCell ⟨w.heap.size, 1, none⟩ (.bool once)).setCell ⟨w.heap.size, 2, none⟩ (.string (B dep))).setCell ⟨w.heap.size, 3, none⟩ (.string (B []))).cell? ⟨w.heap.size, 2, none⟩ = some (.string (B dep)) ∧ ((((wd.setCell ⟨w.heap.size, 0, none⟩ (.slice Ao no co)).setCell ⟨w.heap.size, 1, none⟩ (.bool once)).setCell ⟨w.heap.size, 2, none⟩ (.string (B dep))).setCell ⟨w.heap.size, 3, none⟩ (.string (B []))).cell? ⟨w.heap.size, 3, none⟩ = some (.string (B []))) := ⟨(cell_of_heap (j := 0) k4).trans rfl, (cell_of_heap (j := 1) k4).trans rfl, (cell_of_heap (j := 2) k4).trans rfl, (cell_of_heap (j := 3) k4).trans rfl⟩
                    have hS9 : Hid ((fun w' : World => w'.cell? ⟨w1.heap.size, 0, none⟩ = some (.slice Ao no co) ∧ w'.cell? ⟨w1.heap.size, 1, none⟩ = some (.bool once) ∧ w'.cell? ⟨w1.heap.size, 2, none⟩ = some (.string (B dep)) ∧ w'.cell? ⟨w1.heap.size, 3, none⟩ = some (.string (B [])) ∧ w'.cell? ad = some (.string (B verb))) ((((wd.setCell ⟨w.heap.size, 0, none⟩ (.slice Ao no co)).setCell ⟨w.heap.size, 1, none⟩ (.bool once)).setCell ⟨w.heap.size, 2, none⟩ (.string (B dep))).setCell ⟨w.heap.size, 3, none⟩ (.string (B [])))) := shape_keep (w.heap.size) hk9.out (by have := hr1.out; omega) (hadb.out (hwne.out verb (by simp))) hS0.out
                    clear k4
                    have hfr0 := (cell_of_heap (j := 0) hr.out).trans rfl
                    have hfr1 := (cell_of_heap (j := 1) hr.out).trans rfl
                    have hfr2 := (cell_of_heap (j := 2) hr.out).trans rfl
                    have hfr3 := (cell_of_heap (j := 3) hr.out).trans rfl
                    have hff0 := frozen_of_heap hr.out 0
                    have hff1 := frozen_of_heap hr.out 1
                    have hff2 := frozen_of_heap hr.out 2
                    have hff3 := frozen_of_heap hr.out 3
                    rcases hv6H.out with rfl | rfl | rfl | rfl | rfl | rfl
                    · as_aux_lemma =>
                      iterate 3 (refine RegP.qp ?_; try simp only [Act.put, pA,pB,pC])
                      refine RegP.qh ?_
                      try simp only [Act.put, pA,pB,pC]
                      iterate 2 (refine RegP.qp ?_; try simp only [Act.put, pA,pB,pC])
                      refine RegP.qh ?_
                      try simp only [Act.put, pA,pB,pC]
                      iterate 2 (refine RegP.qp ?_; try simp only [Act.put, pA,pB,pC])
                      iterate 4 (refine RegP.qs ?_; try simp only [Act.put, pA,pB,pC])
                      iterate 2 (refine RegP.qp ?_; try simp only [Act.put, pA,pB,pC])
                      iterate 4 (refine RegP.qs ?_; try simp only [Act.put, pA,pB,pC])
                      iterate 2 (refine RegP.qp ?_; try simp only [Act.put, pA,pB,pC])
                      iterate 4 (refine RegP.qs ?_; try simp only [Act.put, pA,pB,pC])
                      iterate 2 (refine RegP.qp ?_; try simp only [Act.put, pA,pB,pC])
                      iterate 4 (refine RegP.qs ?_; try simp only [Act.put, pA,pB,pC])
                      iterate 2 (refine RegP.qp ?_; try simp only [Act.put, pA,pB,pC])
                      iterate 4 (refine RegP.qs ?_; try simp only [Act.put, pA,pB,pC])
                      iterate 2 (refine RegP.qp ?_; try simp only [Act.put, pA,pB,pC])
                      refine RegP.qe (fun K hK => ?_)
                      go_simp
                      generalize (((wd.setCell ⟨w.heap.size, 0, none⟩ (.slice Ao no co)).setCell ⟨w.heap.size, 1, none⟩ (.bool once)).setCell ⟨w.heap.size, 2, none⟩ (.string (B dep))).setCell ⟨w.heap.size, 3, none⟩ (.string (B [])) = w9 at *
                      refine hK.out _ _ ?_ (fun hHeld => ?_)
                      · (try dsimp only); exact hS9.out
                      clear hK K
                      try simp only [Act.put, pA,pB,pC]
                      refine RegP.qp ?_
                      try simp only [Act.put, pA,pB,pC]
                      refine RegP.qd ?_
                      clear hHeld
                      try dsimp only
                      go_wp2_with fail
                      exact bodyPost_ret (v := .tuple #[.slice (some ad) K c5, .agg #[.slice Ao no co, .bool once, .string (B dep), .string (B [])], .bool true]) (by simp [results, Tryz.results21, go_sem, hq9.out.1, hq9.out.2.1, hq9.out.2.2.1, hq9.out.2.2.2]) rfl (hEnd.out _ hBd9.out hbut.out)
                    · as_aux_lemma =>
                      iterate 3 (refine RegP.qp ?_; try simp only [Act.put, pA,pB,pC])
                      refine RegP.qh ?_
                      try simp only [Act.put, pA,pB,pC]
                      iterate 2 (refine RegP.qp ?_; try simp only [Act.put, pA,pB,pC])
                      refine RegP.qh ?_
                      try simp only [Act.put, pA,pB,pC]
                      iterate 4 (refine RegP.qp ?_; try simp only [Act.put, pA,pB,pC])
                      refine RegP.qh ?_
                      try simp only [Act.put, pA,pB,pC]
                      iterate 3 (refine RegP.qp ?_; try simp only [Act.put, pA,pB,pC])
                      iterate 4 (refine RegP.qs ?_; try simp only [Act.put, pA,pB,pC])
                      iterate 2 (refine RegP.qp ?_; try simp only [Act.put, pA,pB,pC])
                      iterate 4 (refine RegP.qs ?_; try simp only [Act.put, pA,pB,pC])
                      iterate 2 (refine RegP.qp ?_; try simp only [Act.put, pA,pB,pC])
                      iterate 4 (refine RegP.qs ?_; try simp only [Act.put, pA,pB,pC])
                      iterate 2 (refine RegP.qp ?_; try simp only [Act.put, pA,pB,pC])
                      iterate 4 (refine RegP.qs ?_; try simp only [Act.put, pA,pB,pC])
                      iterate 2 (refine RegP.qp ?_; try simp only [Act.put, pA,pB,pC])
                      refine RegP.qe (fun K hK => ?_)
                      go_simp
                      generalize (((wd.setCell ⟨w.heap.size, 0, none⟩ (.slice Ao no co)).setCell ⟨w.heap.size, 1, none⟩ (.bool once)).setCell ⟨w.heap.size, 2, none⟩ (.string (B dep))).setCell ⟨w.heap.size, 3, none⟩ (.string (B [])) = w9 at *
                      refine hK.out _ _ ?_ (fun hHeld => ?_)
                      · (try dsimp only); exact hS9.out
                      clear hK K
                      try simp only [Act.put, pA,pB,pC]
                      refine RegP.qp ?_
                      try simp only [Act.put, pA,pB,pC]
                      refine RegP.qd ?_
                      clear hHeld
                      try dsimp only
                      go_wp2_with fail
                      exact bodyPost_ret (v := .tuple #[.slice (some ad) K c5, .agg #[.slice Ao no co, .bool once, .string (B dep), .string (B [])], .bool true]) (by simp [results, Tryz.results21, go_sem, hq9.out.1, hq9.out.2.1, hq9.out.2.2.1, hq9.out.2.2.2]) rfl (hEnd.out _ hBd9.out hbut.out)
                    · as_aux_lemma =>
                      iterate 3 (refine RegP.qp ?_; try simp only [Act.put, pA,pB,pC])
                      refine RegP.qh ?_
                      try simp only [Act.put, pA,pB,pC]
                      iterate 2 (refine RegP.qp ?_; try simp only [Act.put, pA,pB,pC])
                      refine RegP.qh ?_
                      try simp only [Act.put, pA,pB,pC]
                      iterate 4 (refine RegP.qp ?_; try simp only [Act.put, pA,pB,pC])
                      refine RegP.qh ?_
                      try simp only [Act.put, pA,pB,pC]
                      iterate 5 (refine RegP.qp ?_; try simp only [Act.put, pA,pB,pC])
                      refine RegP.qh ?_
                      try simp only [Act.put, pA,pB,pC]
                      iterate 3 (refine RegP.qp ?_; try simp only [Act.put, pA,pB,pC])
                      iterate 4 (refine RegP.qs ?_; try simp only [Act.put, pA,pB,pC])
                      iterate 2 (refine RegP.qp ?_; try simp only [Act.put, pA,pB,pC])
                      iterate 4 (refine RegP.qs ?_; try simp only [Act.put, pA,pB,pC])
                      iterate 2 (refine RegP.qp ?_; try simp only [Act.put, pA,pB,pC])
                      iterate 4 (refine RegP.qs ?_; try simp only [Act.put, pA,pB,pC])
                      iterate 2 (refine RegP.qp ?_; try simp only [Act.put, pA,pB,pC])
                      refine RegP.qe (fun K hK => ?_)
                      go_simp
                      generalize (((wd.setCell ⟨w.heap.size, 0, none⟩ (.slice Ao no co)).setCell ⟨w.heap.size, 1, none⟩ (.bool once)).setCell ⟨w.heap.size, 2, none⟩ (.string (B dep))).setCell ⟨w.heap.size, 3, none⟩ (.string (B [])) = w9 at *
                      refine hK.out _ _ ?_ (fun hHeld => ?_)
                      · (try dsimp only); exact hS9.out
                      clear hK K
                      try simp only [Act.put, pA,pB,pC]
                      refine RegP.qp ?_
                      try simp only [Act.put, pA,pB,pC]
                      refine RegP.qd ?_
                      clear hHeld
                      try dsimp only
                      go_wp2_with fail
                      exact bodyPost_ret (v := .tuple #[.slice (some ad) K c5, .agg #[.slice Ao no co, .bool once, .string (B dep), .string (B [])], .bool true]) (by simp [results, Tryz.results21, go_sem, hq9.out.1, hq9.out.2.1, hq9.out.2.2.1, hq9.out.2.2.2]) rfl (hEnd.out _ hBd9.out hbut.out)
                    · as_aux_lemma =>
                      iterate 3 (refine RegP.qp ?_; try simp only [Act.put, pA,pB,pC])
                      refine RegP.qh ?_
                      try simp only [Act.put, pA,pB,pC]
                      iterate 2 (refine RegP.qp ?_; try simp only [Act.put, pA,pB,pC])
                      refine RegP.qh ?_
                      try simp only [Act.put, pA,pB,pC]
                      iterate 4 (refine RegP.qp ?_; try simp only [Act.put, pA,pB,pC])
                      refine RegP.qh ?_
                      try simp only [Act.put, pA,pB,pC]
                      iterate 5 (refine RegP.qp ?_; try simp only [Act.put, pA,pB,pC])
                      refine RegP.qh ?_
                      try simp only [Act.put, pA,pB,pC]
                      iterate 5 (refine RegP.qp ?_; try simp only [Act.put, pA,pB,pC])
                      refine RegP.qh ?_
                      try simp only [Act.put, pA,pB,pC]
                      iterate 3 (refine RegP.qp ?_; try simp only [Act.put, pA,pB,pC])
                      iterate 4 (refine RegP.qs ?_; try simp only [Act.put, pA,pB,pC])
                      iterate 2 (refine RegP.qp ?_; try simp only [Act.put, pA,pB,pC])
                      iterate 4 (refine RegP.qs ?_; try simp only [Act.put, pA,pB,pC])
                      iterate 2 (refine RegP.qp ?_; try simp only [Act.put, pA,pB,pC])
                      refine RegP.qe (fun K hK => ?_)
                      go_simp
                      generalize (((wd.setCell ⟨w.heap.size, 0, none⟩ (.slice Ao no co)).setCell ⟨w.heap.size, 1, none⟩ (.bool once)).setCell ⟨w.heap.size, 2, none⟩ (.string (B dep))).setCell ⟨w.heap.size, 3, none⟩ (.string (B [])) = w9 at *
                      refine hK.out _ _ ?_ (fun hHeld => ?_)
                      · (try dsimp only); exact hS9.out
                      clear hK K
                      try simp only [Act.put, pA,pB,pC]
                      refine RegP.qp ?_
                      try simp only [Act.put, pA,pB,pC]
                      refine RegP.qd ?_
                      clear hHeld
                      try dsimp only
                      go_wp2_with fail
                      exact bodyPost_ret (v := .tuple #[.slice (some ad) K c5, .agg #[.slice Ao no co, .bool once, .string (B dep), .string (B [])], .bool true]) (by simp [results, Tryz.results21, go_sem, hq9.out.1, hq9.out.2.1, hq9.out.2.2.1, hq9.out.2.2.2]) rfl (hEnd.out _ hBd9.out hbut.out)
                    · as_aux_lemma =>
                      iterate 3 (refine RegP.qp ?_; try simp only [Act.put, pA,pB,pC])
                      refine RegP.qh ?_
                      try simp only [Act.put, pA,pB,pC]
                      iterate 2 (refine RegP.qp ?_; try simp only [Act.put, pA,pB,pC])
                      refine RegP.qh ?_
                      try simp only [Act.put, pA,pB,pC]
                      iterate 4 (refine RegP.qp ?_; try simp only [Act.put, pA,pB,pC])
                      refine RegP.qh ?_
                      try simp only [Act.put, pA,pB,pC]
                      iterate 5 (refine RegP.qp ?_; try simp only [Act.put, pA,pB,pC])
                      refine RegP.qh ?_
                      try simp only [Act.put, pA,pB,pC]
                      iterate 5 (refine RegP.qp ?_; try simp only [Act.put, pA,pB,pC])
                      refine RegP.qh ?_
                      try simp only [Act.put, pA,pB,pC]
                      iterate 5 (refine RegP.qp ?_; try simp only [Act.put, pA,pB,pC])
                      refine RegP.qh ?_
                      try simp only [Act.put, pA,pB,pC]
                      iterate 3 (refine RegP.qp ?_; try simp only [Act.put, pA,pB,pC])
                      iterate 4 (refine RegP.qs ?_; try simp only [Act.put, pA,pB,pC])
                      iterate 2 (refine RegP.qp ?_; try simp only [Act.put, pA,pB,pC])
                      refine RegP.qe (fun K hK => ?_)
                      go_simp
                      generalize (((wd.setCell ⟨w.heap.size, 0, none⟩ (.slice Ao no co)).setCell ⟨w.heap.size, 1, none⟩ (.bool once)).setCell ⟨w.heap.size, 2, none⟩ (.string (B dep))).setCell ⟨w.heap.size, 3, none⟩ (.string (B [])) = w9 at *
                      refine hK.out _ _ ?_ (fun hHeld => ?_)
                      · (try dsimp only); exact hS9.out
                      clear hK K
                      try simp only [Act.put, pA,pB,pC]
                      refine RegP.qp ?_
                      try simp only [Act.put, pA,pB,pC]
                      refine RegP.qd ?_
                      clear hHeld
                      try dsimp only
                      go_wp2_with fail
                      exact bodyPost_ret (v := .tuple #[.slice (some ad) K c5, .agg #[.slice Ao no co, .bool once, .string (B dep), .string (B [])], .bool true]) (by simp [results, Tryz.results21, go_sem, hq9.out.1, hq9.out.2.1, hq9.out.2.2.1, hq9.out.2.2.2]) rfl (hEnd.out _ hBd9.out hbut.out)
                    · as_aux_lemma =>
                      iterate 3 (refine RegP.qp ?_; try simp only [Act.put, pA,pB,pC])
                      refine RegP.qh ?_
                      try simp only [Act.put, pA,pB,pC]
                      iterate 2 (refine RegP.qp ?_; try simp only [Act.put, pA,pB,pC])
                      refine RegP.qh ?_
                      try simp only [Act.put, pA,pB,pC]
                      iterate 4 (refine RegP.qp ?_; try simp only [Act.put, pA,pB,pC])
                      refine RegP.qh ?_
                      try simp only [Act.put, pA,pB,pC]
                      iterate 5 (refine RegP.qp ?_; try simp only [Act.put, pA,pB,pC])
                      refine RegP.qh ?_
                      try simp only [Act.put, pA,pB,pC]
                      iterate 5 (refine RegP.qp ?_; try simp only [Act.put, pA,pB,pC])
                      refine RegP.qh ?_
                      try simp only [Act.put, pA,pB,pC]
                      iterate 5 (refine RegP.qp ?_; try simp only [Act.put, pA,pB,pC])
                      refine RegP.qh ?_
                      try simp only [Act.put, pA,pB,pC]
                      iterate 5 (refine RegP.qp ?_; try simp only [Act.put, pA,pB,pC])
                      refine RegP.qh ?_
                      try simp only [Act.put, pA,pB,pC]
                      iterate 3 (refine RegP.qp ?_; try simp only [Act.put, pA,pB,pC])
                      refine RegP.qe (fun K hK => ?_)
                      go_simp
                      generalize (((wd.setCell ⟨w.heap.size, 0, none⟩ (.slice Ao no co)).setCell ⟨w.heap.size, 1, none⟩ (.bool once)).setCell ⟨w.heap.size, 2, none⟩ (.string (B dep))).setCell ⟨w.heap.size, 3, none⟩ (.string (B [])) = w9 at *
                      refine hK.out _ _ ?_ (fun hHeld => ?_)
                      · (try dsimp only); exact hS9.out
                      clear hK K
                      try simp only [Act.put, pA,pB,pC]
                      refine RegP.qp ?_
                      try simp only [Act.put, pA,pB,pC]
                      refine RegP.qd ?_
                      clear hHeld
                      try dsimp only
                      go_wp2_with fail
                      exact bodyPost_ret (v := .tuple #[.slice (some ad) K c5, .agg #[.slice Ao no co, .bool once, .string (B dep), .string (B [])], .bool true]) (by simp [results, Tryz.results21, go_sem, hq9.out.1, hq9.out.2.1, hq9.out.2.2.1, hq9.out.2.2.2]) rfl (hEnd.out _ hBd9.out hbut.out)
end Go.Proofs.YtbklhcjcgiblkaaGreatDoor.Ck
end
