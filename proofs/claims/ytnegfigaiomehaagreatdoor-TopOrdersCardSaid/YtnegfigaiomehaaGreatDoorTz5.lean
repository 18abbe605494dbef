/- Laid together by wip/tools/shake.py from texts of this claim: CkCook1, CkCook, TpMadeF, PBellowsref03Plain0, PBellowsref03Clean0, PBellowsref03Right0, PathRefD, TpRefA, TpRefB, TpRefC, TpRefD, TpFew, TpRight, PCrcShifted0. -/
import Derived.Test.YtnegfigaiomehaaGreatDoorTz4
set_option linter.unusedVariables false
set_option linter.unusedSimpArgs false
section
namespace Go.Proofs.YtnegfigaiomehaaGreatDoor.Ck
open Go.RowKit Go.Lib Go.Shelf Go.Maps Go.Proofs.YtnegfigaiomehaaGreatDoorW.PrintWords Go.Proofs.YtnegfigaiomehaaGreatDoorW.PrintLast Go.Proofs.YtnegfigaiomehaaGreatDoorW.PrintMore Go.Proofs.YtnegfigaiomehaaGreatDoor.U Go.Proofs.YtnegfigaiomehaaGreatDoor.P Go.Proofs.YtnegfigaiomehaaGreatDoor.PTh Go.Proofs.YtnegfigaiomehaaGreatDoor.MapV
open Go.Proofs.YtnegfigaiomehaaGreatDoor.Fld (fieldsT)
structure Given (w : World) (v : Env) (Ad Af : Option Addr) (cd cf : Nat) : Prop where
 rd : Kd.C Kd.string w Ad v.decl.length (v.decl.map B)
 rf : Kd.C KF w Af (v.fs.map toF).length (v.fs.map toF)
 nd : v.decl.length ≤ 100000
 nf : v.fs.length ≤ 100000
 lf : ∀ f ∈ v.fs, f.b.length ≤ 100000
theorem Given.below {w w' : World} {v : Env} {Ad Af : Option Addr} {cd cf : Nat} (h : Given w v Ad Af cd cf) (hb : Below w.heap.size w w') : Given w' v Ad Af cd cf := ⟨Kd.C_below h.rd hb, Kd.C_below h.rf hb, h.nd, h.nf, h.lf⟩
def Done (cmd : Txt) (v : Env) (W : World) (db : Nat) (w' : World) : Prop := But db W w' ∧ ∃ (names : List Txt) (b dep deps : Txt) (once : Bool) (vo : Value), cookE cmd v = some ⟨names.map fun n => ⟨n, b⟩, once, dep, deps⟩ ∧
 w'.heap[db]? = some (.cells #[vo, .bool once, .string (B dep), .string (B deps)] 72 (0, 0)) ∧ OutsAt w' W.heap.size vo names b
def Failed (cmd : Txt) (v : Env) (W : World) (db : Nat) (w' : World) : Prop := But db W w' ∧ cookE cmd v = none
theorem But.grow {o : Nat} {a b c : World} (h : But o a b) (k : Below a.heap.size b c) : But o a c := ⟨k.os.trans h.os, k.tape.trans h.tape, k.output.trans h.output, Nat.le_trans h.size k.size, fun i hi hne => (k.block i hi).trans (h.same i hi hne)⟩
theorem own_but {w w' : World} {base db e sz n : Nat} {v : Value} {xs : List Value} (h : w.ownsRow base e sz v n xs) (hb : But db w w') (hdb : db < base) : w'.ownsRow base e sz v n xs := own_move h (fun k e => hb.same k (own_lt h k e) (by have := own_base h k e; omega))
theorem OutsAt.weaken {w : World} {base base' : Nat} {v : Value} {names : List Txt} {b : Txt} (h : OutsAt w base v names b) (hb : base' ≤ base) : OutsAt w base' v names b := by
 obtain ⟨f, ho, hr⟩ := h
 exact ⟨f, own_weaken ho hb, fun j hj => own_weaken (hr j hj) hb⟩
theorem OutsAt.push2 {w4 w8 : World} {base : Nat} {v v4 v8 : Value} {names : List Txt} {nm b : Txt} {f : Nat → Value} (ho4 : w4.ownsRow base 40 2 v names.length (ocells f 0 names)) (hr : ∀ j, j < names.length → w4.ownsRow base 5 1 (f j) b.length (bcells b))
  (h4 : w4.ownsRow base 5 1 v4 b.length (bcells b)) (hg : w4.grownBy w8 v.ownBlock) (h8 : w8.ownsRow base 40 2 v8 (names.length + 1) (ocells f 0 names ++ [.string (B nm), v4])) : OutsAt w8 base v8 (names ++ [nm]) b := by
 have hne : ∀ (v' : Value), w4.ownsRow base 5 1 v' b.length (bcells b) → ∀ k, v'.ownBlock = some k → some k ≠ v.ownBlock := fun v' h' k e e2 => by
  obtain ⟨cs, e1⟩ := own_typed ho4 k e2.symm
  obtain ⟨cs2, e2⟩ := own_typed h' k e
  rw [e1] at e2
  injection e2 with e2
  injection e2 with _ e2 _
  exact absurd e2 (by decide)
 let f' : Nat → Value := fun j => if j < names.length then f j else v4
 have hf : ocells f' 0 names = ocells f 0 names := ocells_ext _ _ _ _ (fun j _ h2 => by simp only [f']; rw [if_pos (by omega)])
 refine ⟨f', ?_, fun j hj => ?_⟩
 ·rw [ocells_append, hf, List.length_append]
  have e : f' (0 + names.length) = v4 := by simp only [f']; rw [if_neg (by omega)]
  rw [e]
  exact h8
 ·by_cases h1 : j < names.length
  ·have e : f' j = f j := by simp only [f']; rw [if_pos h1]
   rw [e]
   exact own_move (hr j h1) (fun k e => hg.block k (own_lt (hr j h1) k e) (hne _ (hr j h1) k e))
  ·have e : f' j = v4 := by simp only [f']; rw [if_neg h1]
   rw [e]
   exact own_move h4 (fun k e => hg.block k (own_lt h4 k e) (hne _ h4 k e))
theorem OutsAt.mk0 {w : World} {base n i : Nat} {v : Value} {names : List Txt} {b : Txt} {f : Nat → Value} (h : OutsAt w base v names b) (hn : names.length = n) : ∃ f, w.ownsRow base 40 2 v n (ocells f 0 names) ∧ ∀ j, j < n → w.ownsRow base 5 1 (f j) b.length (bcells b) := by
 subst hn; exact h
theorem cells_no_text {once : Bool} {nm : Txt} (hne : nm ≠ []) (j : Nat) (h : (#[.slice none 0 0, .bool once, .string (B []), .string (B [])] : Array Value)[j]? = some (.string (B nm))) : False := by
 match j, h with
 | 0, h => simp at h
 | 1, h => simp at h
 | 2, h => simp at h; exact absurd h (by first | exact hne | exact fun e => hne e.symm)
 | 3, h => simp at h; exact absurd h (by first | exact hne | exact fun e => hne e.symm)
 | j + 4, h => simp at h
theorem cells_no_int {once : Bool} (x : Int) (j : Nat) (h : (#[.slice none 0 0, .bool once, .string (B []), .string (B [])] : Array Value)[j]? = some (.int .u8 x)) : False := by
 match j, h with
 | 0, h => simp at h
 | 1, h => simp at h
 | 2, h => simp at h
 | 3, h => simp at h
 | j + 4, h => simp at h
theorem told_ok {cmd : Txt} {v : Env} {W w' : World} {db o : Nat} (ho : W.heap[o]? = some (.cells #[.int .i64 0] 41 (0, 0))) (hne : o ≠ db) (h : Done cmd v W db w') : Told o (Done cmd v W db) (Failed cmd v W db) (.returned (.tuple #[])) w' :=
 ⟨(h.1.same o (Array.getElem?_eq_some_iff.1 ho).1 hne).trans ho, .inl ⟨rfl, h⟩⟩
theorem told_bad {cmd : Txt} {v : Env} {W w' : World} {db o : Nat} (h : cookE cmd v = none) (hb : But db W w') (ho : W.heap[o]? = some (.cells #[.int .i64 0] 41 (0, 0))) (hne : o ≠ db) : Told o (Done cmd v W db) (Failed cmd v W db) fl w' :=
 ⟨(hb.same o (Array.getElem?_eq_some_iff.1 ho).1 hne).trans ho, .inr ⟨rfl, hb, h⟩⟩
set_option maxRecDepth 100000 in
set_option maxHeartbeats 16000000 in
theorem cook1_any (cmd : Txt) (hl : cmd.length ≤ 10000) (v : Env) (Ad Af : Option Addr) (cd cf : Nat) (W : World) (hG : Given W v Ad Af cd cf) (ht : Tab W) (pc pd pf db o : Nat)
  (h1 : W.heap[pc]? = some (.cells #[.string (B cmd)] 9 (0, 0))) (h2 : W.heap[pd]? = some (.cells #[.slice Ad v.decl.length cd] 23 (0, 0))) (h3 : W.heap[pf]? = some (.cells #[.slice Af v.fs.length cf] 36 (0, 0)))
  (h4 : W.heap[db]? = some (.cells #[.slice none 0 0, .bool false, .string (B []), .string (B [])] 72 (0, 0))) (h5 : W.heap[o]? = some (.cells #[.int .i64 0] 41 (0, 0))) (hod : o ≠ db) :
  Calls Tryz.prog 62 #[at0 pc, at0 pd, at0 pf, at0 db] W (Told o (Done cmd v W db) (Failed cmd v W db)) := by
 have hE : Hid (cookE cmd v = match shapeE cmd with
  | none => none
  | some s => match doE v s.verb s.args with
   | none => none
   | some (b, found) => if b.length ≤ 65536 then some ⟨s.outs.map fun o => ⟨o, b⟩, s.once, s.dep, if s.dep = [] then [] else (printL (s.outs.getD 0 []) found).1⟩ else none) := rfl
 have c1 := (cell_of_heap (j := 0) h1).trans rfl
 have hGH := Lib.hid hG
 have htH := Lib.hid ht
 have h2H := Lib.hid h2
 have h3H := Lib.hid h3
 have h4H := Lib.hid h4
 have h5H := Lib.hid h5
 have hodH : Hid (o ≠ db) := hod
 obtain ⟨nd, hnd⟩ : ∃ n, v.decl.length = n := ⟨_, rfl⟩
 obtain ⟨nf, hnf⟩ : ∃ n, v.fs.length = n := ⟨_, rfl⟩
 have hndH := Lib.hid hnd
 have hnfH := Lib.hid hnf
 have hBad : Hid (∀ w', cookE cmd v = none → But db W w' → Told o (Done cmd v W db) (Failed cmd v W db) fl w') := fun w' h hb => told_bad h hb h5 hod
 have hGood : Hid (∀ w', Done cmd v W db w' → Told o (Done cmd v W db) (Failed cmd v W db) (.returned (.tuple #[])) w') := fun w' h => told_ok h5 hod h
 have hdbl : Hid (db < W.heap.size) := (Array.getElem?_eq_some_iff.1 h4).1
 clear h1 h2 h3 h4 h5 hG ht hod hnd hnf
 go_enter Tryz.func62, Tryz.ntmps62
 go_wp2_with fail
 refine (shape_any cmd (by omega) _).mono ?_
 rintro e W1 ⟨hb1, hP1⟩
 have hB1 := Lib.hid hb1
 cases hs : shapeE cmd with
 | none =>
  rw [hs] at hP1
  obtain rfl : e = fl := hP1
  exact ⟨rfl, hBad.out _ (by rw [hE.out, hs]) (But.of_below hb1)⟩
 | some s =>
  rw [hs] at hP1
  obtain ⟨A1, ca, A2, c2, rfl, hl1, hC1, hl2, hC2⟩ := hP1
  obtain ⟨verb, args, once, outs, dep⟩ := s
  dsimp only at *
  have hE2 : Hid (cookE cmd v = match doE v verb args with
   | none => none
   | some (b, found) => if b.length ≤ 65536 then some ⟨outs.map fun o => ⟨o, b⟩, once, dep, if dep = [] then [] else (printL (outs.getD 0 []) found).1⟩ else none) := by show _ = _; rw [hE.out, hs]
  obtain ⟨hw1, hw2, hw3, hvb⟩ : (∀ a ∈ args, a ∈ fieldsT cmd) ∧ args.length ≤ (fieldsT cmd).length ∧ outs.length ≤ (fieldsT cmd).length ∧ verbB verb = true := shapeE_words hs
  obtain ⟨hof, hdep⟩ : OutFacts outs dep ∧ (dep ≠ [] ↔ verb = kInc) := shapeE_facts hs
  have hfl := fieldsT_len cmd
  obtain ⟨K, hK0⟩ : ∃ K : CK, K = ⟨W1, A1, Ad, Af, ca, cd, cf, args, v⟩ := ⟨_, rfl⟩
  have hG1 := hGH.out.below hb1
  have hOk : K.Ok := by
   rw [hK0]
   exact ⟨hC1, hG1.rd, hG1.rf, by show args.length ≤ _; omega, hG1.nd, hG1.nf, hG1.lf, fun a ha => by have := Fld_short cmd a (hw1 a ha); omega, hl1⟩
  obtain ⟨g, hg1, hg2, hg3⟩ := verb_any K hOk verb hvb
  have hg3H := Lib.hid hg3
  have d2 := (cell_of_heap (j := 0) ((hb1.block _ (Array.getElem?_eq_some_iff.1 h2H.out).1).trans h2H.out)).trans rfl
  have d3 := (cell_of_heap (j := 0) ((hb1.block _ (Array.getElem?_eq_some_iff.1 h3H.out).1).trans h3H.out)).trans rfl
  rw [hndH.out] at d2
  rw [hnfH.out] at d3
  have hOut := Lib.hid hof
  have hDep := Lib.hid hdep
  have hol : outs.length ≤ 100000 := by omega
  have hC2H := Lib.hid hC2
  obtain ⟨na, hna⟩ : ∃ n, args.length = n := ⟨_, rfl⟩
  have hnaH := Lib.hid hna
  obtain ⟨no, hno⟩ : ∃ n, outs.length = n := ⟨_, rfl⟩
  have hnoH := Lib.hid hno
  have hK0H := Lib.hid hK0
  have hvs : verb.length ≤ 1000000 := by
   simp only [verbB, Bool.or_eq_true, beq_iff_eq] at hvb
   rcases hvb with ((((h | h) | h) | h) | h) | h <;> rw [h] <;> decide
  rw [hna, hno]
  clear hb1 hs hw1 hw2 hw3 hfl hG1 hC1 hC2 hl1 hg3 hof hdep hna hno hK0 c1 hE
  have hx2 : (W1.alloc (.cells #[.slice A1 na ca, .slice Ad nd cd, .slice Af nf cf, .slice none 0 0, .int .i64 0] 108)).heap[W1.heap.size]? = some (.cells #[.slice A1 na ca, .slice Ad nd cd, .slice Af nf cf, .slice none 0 0, .int .i64 0] 108 (0, 0)) := heap_alloc_new _ _
  have hb2 : Below W1.heap.size W1 (W1.alloc (.cells #[.slice A1 na ca, .slice Ad nd cd, .slice Af nf cf, .slice none 0 0, .int .i64 0] 108)) := (Below.refl _ _).alloc (Nat.le_refl _) _
  go_wp2_with fail
  generalize W1.alloc (.cells #[.slice A1 na ca, .slice Ad nd cd, .slice Af nf cf, .slice none 0 0, .int .i64 0] 108) = W2 at *
  have hKv : K.v = v := by rw [hK0H.out]
  have hKa : K.args = args := by rw [hK0H.out]
  have hKw : K.w0 = W1 := by rw [hK0H.out]
  have hAt2 : K.At W2 (.slice none 0 0) 0 := by
   refine ⟨?_, by rw [hKw]; exact hb2⟩
   rw [hKw, hKa, hKv, hnaH.out, hndH.out, hnfH.out, hK0H.out]
   exact hx2
  refine (verbs_any _).mono ?_
  rintro e W3 ⟨rfl, hM, hb3⟩
  have hlk : (Instr.lookup 110 (.map (some W2.heap.size)) (.string (B verb)) false).run Tryz.prog W3 = .ok (.func (.func g) #[] #[]) W3 := by
   rw [← hg1]; exact hM.look (t := 110) Tryz.underlying110 (zero_verb W3) verb (by unfold maxLen; omega)
  have hB3 : Below W.heap.size W W3 := hB1.out.trans ((hb2.trans (hb3.mono hb2.size)).mono hB1.out.size)
  have hcall := hg3H.out W3 (hAt2.below hb3) (htH.out.below hB3)
  rw [hKw, hKv, hKa] at hcall
  have hCall := Lib.hid hcall
  have hB3H := Lib.hid hB3
  have hKvH := Lib.hid hKv
  have hKwH := Lib.hid hKw
  have hB13 : Hid (Below W1.heap.size W1 W3) := hb2.trans (hb3.mono hb2.size)
  clear hM hb3 hcall hB3 hAt2 hx2 hb2 hKv hKa hKw d2 d3
  go_wp2_with fail
  refine hCall.out.mono ?_
  rintro e W4 ⟨hb4, hP4⟩
  rw [hKwH.out] at hb4
  have hB4 := Lib.hid (hB3H.out.trans (hb4.mono hB1.out.size))
  have hW14 : Hid (Below W1.heap.size W1 W4) := hB13.out.trans hb4
  clear hb4 hlk
  cases hd : doE v verb args with
  | none =>
   rw [hd] at hP4
   obtain rfl : e = fl := hP4
   exact ⟨rfl, hBad.out _ (by rw [hE2.out, hd]) (But.of_below hB4.out)⟩
  | some bf =>
   obtain ⟨b, found⟩ := bf
   rw [hd] at hP4
   obtain ⟨A, c, vf, m, rfl, hlc, hCb, hAt4, hfo, hfn⟩ := hP4
   dsimp only at hlc hCb hfo hfn
   have hE3 : Hid (cookE cmd v = if b.length ≤ 65536 then some ⟨outs.map fun o => ⟨o, b⟩, once, dep, if dep = [] then [] else (printL (outs.getD 0 []) found).1⟩ else none) := by show _ = _; rw [hE2.out, hd]
   obtain ⟨lb, hlb⟩ : ∃ n, b.length = n := ⟨_, rfl⟩
   have hlbH := Lib.hid hlb
   rw [hlb] at hlc hCb ⊢
   have hD4 := Lib.hid ((hB4.out.block _ (Array.getElem?_eq_some_iff.1 h4H.out).1).trans h4H.out)
   have hCbH := Lib.hid hCb
   have hAtH := Lib.hid hAt4
   have hfoH := Lib.hid hfo
   clear hlb hd hCb hAt4 hfo
   by_cases hle : lb ≤ 65536
   ·have hd1 : decide ((lb : Int) ≤ 65536) = true := by rw [decide_eq_true_iff]; omega
    have hE4 : Hid (cookE cmd v = some ⟨outs.map fun o => ⟨o, b⟩, once, dep, if dep = [] then [] else (printL (outs.getD 0 []) found).1⟩) := by show _ = _; rw [hE3.out, if_pos (by rw [hlbH.out]; exact hle)]
    have e1 := (cell_of_heap (j := 1) hD4.out).trans rfl
    have f1 := frozen_of_heap hD4.out 1
    have hD5 := Lib.hid (blk_put hD4.out 1 (.bool once) rfl)
    have hBut45 : Hid (But db W4 (W4.setCell ⟨db, 1, none⟩ (.bool once))) := (But.refl _ _).set 1 _
    have hAlt := hfn
    have hNames : Hid (∀ w', But db W4 w' → Kd.C Kd.string w' A2 outs.length (outs.map B)) := fun w' hb => scalar_but (Kd.C_below hC2H.out hW14.out) hD4.out (fun x hx j h => by
     obtain ⟨nm, hnm, rfl⟩ := List.mem_map.1 hx
     have hne := right_ne (hOut.out.right nm hnm)
     exact cells_no_text hne j h) hb
    have hBytes : Hid (∀ w', But db W4 w' → (Kd.int .u8).C w' A b.length (ints b)) := fun w' hb => by have h1 := hCbH.out; rw [← hlbH.out] at h1; exact scalar_but h1 hD4.out (fun x hx j h => cells_no_int x j h) hb
    go_wp2_with fail
    refine (need_yes _).mono ?_
    rintro e W5 ⟨rfl, rfl⟩
    go_wp2_with fail
    obtain ⟨W5, hW5⟩ : ∃ x, W4.setCell ⟨db, 1, none⟩ (.bool once) = x := ⟨_, rfl⟩
    rw [hW5] at hD5 hBut45
    rw [hW5]
    clear hW5
    go_loopg [39] no (fun gk s39 wr => ∃ (i : Nat) (Ao : Option Addr) (co : Nat), s39 = .int .i64 (i : Int) ∧ i + gk = no ∧ Hid (wr.heap[db]? = some (.cells #[.slice Ao i co, .bool once, .string (B []), .string (B [])] 72 (0, 0))) ∧ Hid (OutsAt wr W4.heap.size (.slice Ao i co) (outs.take i) b) ∧ Hid (But db W4 wr))
    case atStart => exact ⟨0, none, 0, rfl, by omega, hD5, by show OutsAt _ _ _ _ _; exact OutsAt.nil _ _ _, hBut45⟩
    case round =>
     obtain ⟨i, Ao, co, rfl, hik, hD, hO, hBt⟩ := hrel
     cases gk with
     | zero =>
      obtain rfl : i = no := by omega
      have hlt : decide ((i : Int) < (i : Int)) = false := by rw [decide_eq_false_iff_not]; omega
      have hO' : Hid (OutsAt wr W4.heap.size (.slice Ao i co) outs b) := by
       have := hO.out
       rw [List.take_of_length_le (by rw [hnoH.out]; exact Nat.le_refl _)] at this
       exact this
      have hDeq : Hid (outs.map (fun o => (⟨o, b⟩ : FileL)) = outs.map fun o => ⟨o, b⟩) := rfl
      cases dep with
      | nil =>
       go_wp2_with fail
       go_end0
       refine hGood.out _ ⟨(But.of_below hB4.out).trans (hBt.out), outs, b, [], [], once, _, ?_, hD.out, hO'.out.weaken hB4.out.size⟩
       rw [hE4.out]; rfl
      | cons d0 ds =>
       have h5 := hD.out
       have e2 := (cell_of_heap (j := 2) hD.out).trans rfl
       have f2 := frozen_of_heap hD.out 2
       have hD6 := Lib.hid (blk_put hD.out 2 (.string (B (d0 :: ds))) rfl)
       have hBt6 : Hid (But db W4 (wr.setCell ⟨db, 2, none⟩ (.string (B (d0 :: ds))))) := hBt.out.set 2 _
       have hO6 : Hid (OutsAt (wr.setCell ⟨db, 2, none⟩ (.string (B (d0 :: ds)))) W4.heap.size (.slice Ao i co) outs b) := hO'.out.move (fun k h1 _ => Below.heap_setCell _ _ _ _ (by have h2 := hdbl.out; have h3 := hB4.out.size; show k ≠ db; omega))
       clear h5
       go_wp2_with fail
       generalize hW6 : wr.setCell ⟨db, 2, none⟩ (.string (B (d0 :: ds))) = W6 at *
       clear hW6 e2 f2 hO hD hO'
       have hno0 : 0 < outs.length := List.length_pos_iff.2 hOut.out.ne
       obtain ⟨ad, hA2, k0⟩ := text_at (hNames.out _ hBt6.out) 0 hno0
       obtain ⟨o0, ho0⟩ : ∃ y, outs[0] = y := ⟨_, rfl⟩
       rw [ho0] at k0
       have e0 : ad.add 0 = ad := by simp [Addr.add]
       rw [e0] at k0
       have hgd : Hid (outs.getD 0 [] = o0) := by
        show _ = _
        rw [List.getD_eq_getElem?_getD, List.getElem?_eq_getElem hno0, ho0]; rfl
       subst hA2
       have hcb : W6.heap[W1.heap.size]? = some (.cells #[.slice K.Aa K.args.length K.ca, .slice K.Ad K.v.decl.length K.cd, .slice K.Af K.v.fs.length K.cf, vf, .int .i64 m] 108 (0, 0)) := by
        have h1 := hAtH.out.h
        rw [hKwH.out] at h1
        exact (hBt6.out.same _ (Array.getElem?_eq_some_iff.1 h1).1 (by have h2 := hdbl.out; have h3 := hB1.out.size; omega)).trans h1
       have k3 := (cell_of_heap (j := 3) hcb).trans rfl
       have hfr : W6.ownsRow (W1.heap.size + 1) 9 1 vf found.length (strs found) := by
        have h1 := hfoH.out
        rw [hKwH.out] at h1
        exact own_but h1 hBt6.out (by have h2 := hdbl.out; have h3 := hB1.out.size; omega)
       obtain ⟨Av, cv, rfl, hlv, hCv⟩ := row_reads hfr
       have hS6 : Hid ((W6.drew).cell? ad = some (.string (B o0)) ∧ (W6.drew).cell? ⟨W1.heap.size, 3, none⟩ = some (.slice Av found.length cv)) := ⟨k0, k3⟩
       have hPr := Lib.hid (Print_any o0 Av cv found W6.drew (Kd.C_below hCv ((Below.refl _ _).drew)) hfn)
       have hno1 : (0 : Int) < (i : Int) := by have := hnoH.out; omega
       have hno2 : 0 < i := by omega
       have hBt7 : Hid (But db W4 W6.drew) := hBt6.out.trans ⟨rfl, rfl, rfl, Nat.le_refl _, fun _ _ _ => rfl⟩
       have hD7 : Hid (W6.drew.heap[db]? = some (.cells #[.slice Ao i co, .bool once, .string (B (d0 :: ds)), .string (B [])] 72 (0, 0))) := hD6.out
       have hO7 : Hid (OutsAt W6.drew W4.heap.size (.slice Ao i co) outs b) := hO6.out.move (fun _ _ _ => rfl)
       have hE5 : Hid (cookE cmd v = some ⟨outs.map fun o => ⟨o, b⟩, once, d0 :: ds, (printL o0 found).1⟩) := by show _ = _; rw [hE4.out, hgd.out]; rfl
       clear k0 k3 hcb hfr hCv e0 ho0 hBt6 hD6 hO6 hBt hno0
       generalize printL o0 found = pr at *
       go_wp2_with fail
       refine RegP.region (fun w' => w'.cell? ad = some (.string (B o0)) ∧ w'.cell? ⟨W1.heap.size, 3, none⟩ = some (.slice Av found.length cv)) 7 [(0, 0), (0, 1), (1, 2), (0, 3), (0, 4), (0, 5), (1, 6), (3, 7), (0, 8), (0, 9), (0, 10), (0, 11), (3, 12)] (by kernel_rfl) (by kernel_rfl) (by rfl) (by kernel_rfl) (by exact hS6.out) ?_
       refine RegP.pure1 (by (simp only [gA,gB,gC]); rfl) (by exact fun _ _ _ h => h) (by rfl) (by intro w'; go_simp; try with_reducible rfl) ?_
       try simp only [Act.put, pA,pB,pC]
       refine RegP.pure1 (by (simp only [gA,gB,gC]); rfl) (by exact fun _ _ _ h => h) (by rfl) (by intro w'; go_simp; try with_reducible rfl) ?_
       try simp only [Act.put, pA,pB,pC]
       refine RegP.held1 (by (simp only [gA,gB,gC]); rfl) (by exact fun _ _ _ h => h) (by rfl) (by intro w' hS_; (try dsimp only at hS_); go_split_ands; go_simp; try with_reducible rfl) ?_
       try simp only [Act.put, pA,pB,pC]
       refine RegP.pure1 (by (simp only [gA,gB,gC]); rfl) (by exact fun _ _ _ h => h) (by rfl) (by intro w'; go_simp; try with_reducible rfl) ?_
       try simp only [Act.put, pA,pB,pC]
       refine RegP.pure1 (by (simp only [gA,gB,gC]); rfl) (by exact fun _ _ _ h => h) (by rfl) (by intro w'; go_simp; try with_reducible rfl) ?_
       try simp only [Act.put, pA,pB,pC]
       refine RegP.pure1 (by (simp only [gA,gB,gC]); rfl) (by exact fun _ _ _ h => h) (by rfl) (by intro w'; go_simp; try with_reducible rfl) ?_
       try simp only [Act.put, pA,pB,pC]
       refine RegP.held1 (by (simp only [gA,gB,gC]); rfl) (by exact fun _ _ _ h => h) (by rfl) (by intro w' hS_; (try dsimp only at hS_); go_split_ands; go_simp; try with_reducible rfl) ?_
       try simp only [Act.put, pA,pB,pC]
       refine RegP.last1 (by (simp only [gA,gB,gC]); rfl) (fun K hK => ?_)
       go_simp
       refine hPr.out.mono ?_
       rintro e w7 ⟨rfl, hb7⟩
       have hD8 := Lib.hid ((hb7.block _ (Array.getElem?_eq_some_iff.1 hD7.out).1).trans hD7.out)
       have hBt8 := Lib.hid (hBt7.out.grow (hb7.mono hBt7.out.size))
       have hO8 := Lib.hid (hO7.out.move (w' := w7) (fun k _ h2 => hb7.block k h2))
       have k0 := (cell_of_heap (j := 3) hD8.out).trans rfl
       have kf0 := frozen_of_heap hD8.out 3
       clear hb7
       refine hK.out _ _ ?_
       clear hK K
       try simp only [Act.put, pA,pB,pC]
       refine RegP.pure1 (by (simp only [gA,gB,gC]); rfl) (by exact fun _ _ _ h => h) (by rfl) (by intro w'; go_simp; try with_reducible rfl) ?_
       try simp only [Act.put, pA,pB,pC]
       refine RegP.pure1 (by (simp only [gA,gB,gC]); rfl) (by exact fun _ _ _ h => h) (by rfl) (by intro w'; go_simp; try with_reducible rfl) ?_
       try simp only [Act.put, pA,pB,pC]
       refine RegP.pure1 (by (simp only [gA,gB,gC]); rfl) (by exact fun _ _ _ h => h) (by rfl) (by intro w'; go_simp; try with_reducible rfl) ?_
       try simp only [Act.put, pA,pB,pC]
       refine RegP.pure1 (by (simp only [gA,gB,gC]); rfl) (by exact fun _ _ _ h => h) (by rfl) (by intro w'; go_simp; try with_reducible rfl) ?_
       try simp only [Act.put, pA,pB,pC]
       refine RegP.last1 (by (simp only [gA,gB,gC]); rfl) (fun K hK => ?_)
       have hD9 := Lib.hid (blk_put hD8.out 3 (.string (B pr.1)) rfl)
       have hBt9 : Hid (But db W4 (w7.setCell ⟨db, 3, none⟩ (.string (B pr.1)))) := hBt8.out.set 3 _
       have hO9 : Hid (OutsAt (w7.setCell ⟨db, 3, none⟩ (.string (B pr.1))) W4.heap.size (.slice Ao i co) outs b) := hO8.out.move (fun k h1 _ => Below.heap_setCell _ _ _ _ (by have h2 := hdbl.out; have h3 := hB4.out.size; show k ≠ db; omega))
       go_simp
       generalize w7.setCell ⟨db, 3, none⟩ (.string (B pr.1)) = w9 at *
       refine hK.out _ _ ?_
       clear hK K
       try simp only [Act.put, pA,pB,pC]
       refine RegP.done1 ?_
       try dsimp only
       go_wp2_with fail
       go_end0
       exact hGood.out _ ⟨(But.of_below hB4.out).trans (hBt9.out), outs, b, d0 :: ds, pr.1, once, _, hE5.out, hD9.out, hO9.out.weaken hB4.out.size⟩
     | succ gk =>
      have hiN : i < outs.length := by rw [hnoH.out]; omega
      have hlt : decide ((i : Int) < (no : Int)) = true := by rw [decide_eq_true_iff]; omega
      obtain ⟨ad2, hA2, k0⟩ := text_at (hNames.out _ hBt.out) i hiN
      obtain ⟨nm, hnm⟩ : ∃ y, outs[i] = y := ⟨_, rfl⟩
      rw [hnm] at k0
      have hAA := Lib.hid hA2
      have hTk : Hid (outs.take (i + 1) = outs.take i ++ [nm]) := by show _ = _; rw [List.take_succ_eq_append_getElem hiN, hnm]
      have hTL : (outs.take i).length = i := by rw [List.length_take]; omega
      have hTLH := Lib.hid hTL
      obtain ⟨f, hof, hor⟩ := OutsAt.mk0 (i := 0) (f := fun _ => undef) hO.out hTL
      have hi0 : (0 : Int) ≤ (i : Int) := by omega
      have hi1 : (i : Int) < (no : Int) := by omega
      have hiN1 : i + 1 ≤ no := by omega
      have hno5 : no ≤ 100000 := by rw [← hnoH.out]; exact hol
      clear hA2 hnm hTL hiN
      obtain ⟨ad, rfl⟩ : ∃ ad, A2 = some ad := ⟨_, hAA.out⟩
      obtain rfl : ad = ad2 := by have := hAA.out; injection this
      have hofH : Hid (wr.drew.ownsRow W4.heap.size 40 2 (.slice Ao i co) i (ocells f 0 (outs.take i))) := hof
      have horH : Hid (∀ j, j < i → wr.drew.ownsRow W4.heap.size 5 1 (f j) b.length (bcells b)) := hor
      have hS0 : Hid (wr.drew.cell? ⟨db, 0, none⟩ = some (.slice Ao i co)) := (cell_of_heap (j := 0) hD.out).trans rfl
      have hDd : Hid (wr.drew.heap[db]? = some (.cells #[.slice Ao i co, .bool once, .string (B []), .string (B [])] 72 (0, 0))) := hD.out
      have hBd : Hid (But db W4 wr.drew) := hBt.out.trans ⟨rfl, rfl, rfl, Nat.le_refl _, fun _ _ _ => rfl⟩
      clear hof hor
      go_wp2_with fail
      refine RegP.region (fun w' => w'.cell? ⟨db, 0, none⟩ = some (.slice Ao i co)) 7 [(0, 0), (1, 1), (0, 2), (0, 3), (2, 4), (0, 5), (2, 6), (3, 7), (0, 8), (3, 9)] (by kernel_rfl) (by kernel_rfl) (by rfl) (by kernel_rfl) (by exact hS0.out) ?_
      generalize wr.drew = wd at *
      refine RegP.pure1 (by (simp only [gA,gB,gC]); rfl) (by exact fun _ _ _ h => h) (by rfl) (by intro w'; go_simp; try with_reducible rfl) ?_
      try simp only [Act.put, pA,pB,pC]
      refine RegP.held1 (by (simp only [gA,gB,gC]); rfl) (by exact fun _ _ _ h => h) (by rfl) (by intro w' hS_; (try dsimp only at hS_); go_split_ands; go_simp; try with_reducible rfl) ?_
      try simp only [Act.put, pA,pB,pC]
      refine RegP.pure1 (by (simp only [gA,gB,gC]); rfl) (by exact fun _ _ _ h => h) (by rfl) (by intro w'; go_simp; try with_reducible rfl) ?_
      try simp only [Act.put, pA,pB,pC]
      refine RegP.pure1 (by (simp only [gA,gB,gC]); rfl) (by exact fun _ _ _ h => h) (by rfl) (by intro w'; go_simp; try with_reducible rfl) ?_
      try simp only [Act.put, pA,pB,pC]
      refine RegP.ev1 (by (simp only [gA,gB,gC]); rfl) (fun K hK => ?_)
      go_simp
      have hCl := clone_any A c b wd (hBytes.out _ hBd.out) (by rw [hlbH.out]; omega)
      rw [hlbH.out] at hCl
      refine hCl.mono ?_
      rintro e w4 ⟨v4, rfl, ho4, hb4⟩
      have hS4 : Hid (w4.cell? ⟨db, 0, none⟩ = some (.slice Ao i co)) := below_cell hb4 hS0.out
      rw [← hlbH.out] at ho4
      obtain ⟨Aq, cq, rfl, _, _⟩ := own_reads ho4
      rw [hlbH.out]
      have hwl : W4.heap.size ≤ wd.heap.size := hBd.out.size
      have ho4H : Hid (w4.ownsRow W4.heap.size 5 1 (.slice Aq b.length cq) b.length (bcells b)) := own_weaken ho4 hwl
      have hof4 := Lib.hid (own_move hofH.out (w1 := w4) (fun k e => hb4.block k (own_lt hofH.out k e)))
      have hor4 : Hid (∀ j, j < i → w4.ownsRow W4.heap.size 5 1 (f j) b.length (bcells b)) := fun j hj => own_move (horH.out j hj) (fun k e => hb4.block k (own_lt (horH.out j hj) k e))
      have hD4b := Lib.hid ((hb4.block _ (Array.getElem?_eq_some_iff.1 hDd.out).1).trans hDd.out)
      have hBt4 := Lib.hid (hBd.out.grow (hb4.mono hwl))
      have hwl4 : W4.heap.size ≤ w4.heap.size := Nat.le_trans hwl hb4.size
      clear hCl ho4 hb4
      refine hK.out _ _ ?_ (fun hHeld => ?_)
      ·(try dsimp only); exact hS4.out
      clear hK K
      try simp only [Act.put, pA,pB,pC]
      refine RegP.pure1 (by (simp only [gA,gB,gC]); rfl) (by exact fun _ _ _ h => h) (by rfl) (by intro w'; go_simp; try with_reducible rfl) ?_
      try simp only [Act.put, pA,pB,pC]
      refine RegP.ev1 (by (simp only [gA,gB,gC]); rfl) (fun K hK => ?_)
      go_simp
      refine hK.out _ _ ?_ (fun hHeld => ?_)
      ·(try dsimp only); exact below_cell ((Below.refl w4.heap.size w4).alloc (Nat.le_refl _) _) hS4.out
      clear hK K
      try simp only [Act.put, pA,pB,pC]
      refine RegP.last1 (by (simp only [gA,gB,gC]); rfl) (fun K hK => ?_)
      rw [← hlbH.out]
      refine step_append_cells (w0 := w4) (W := w4) W4.heap.size rfl _ _ 36 40 (.agg #[.string ⟨#[]⟩, .slice none 0 0]) 2 40 rfl Tryz.underlying36 (by kernel_rfl) rfl (by decide) (by decide) (.slice Ao i co) i (ocells f 0 (outs.take i)) [.string (B nm), .slice Aq b.length cq] rfl rfl rfl (by intro u hu; rcases List.mem_cons.1 hu with rfl | hu; rfl; rw [List.mem_singleton.1 hu]; rfl) hof4.out (Below.refl _ _) hwl4 (by omega) ?_
      intro v8 w8 ho8 hb8 hg8 ha8
      obtain ⟨A8, c8, rfl⟩ : ∃ A c, v8 = .slice A (i + 1) c := by rcases ho8.2 with ⟨_, h⟩ | ⟨g, cap, cur, e, _⟩; exact absurd h (by omega); exact ⟨_, _, e⟩
      have hD8 := Lib.hid ((hg8.block db (Array.getElem?_eq_some_iff.1 hD4b.out).1 (fun e => by obtain ⟨cs, e1⟩ := own_typed hof4.out db e.symm; exact absurd (typed_ne hD4b.out e1) (by decide))).trans hD4b.out)
      have hO8 : Hid (OutsAt w8 W4.heap.size (.slice A8 (i + 1) c8) (outs.take (i + 1)) b) := by
       show OutsAt _ _ _ _ _
       rw [hTk.out]
       have h1 := hof4.out; have h2 := hor4.out; have h3 := ho8
       rw [← hTLH.out] at h1 h2 h3
       exact OutsAt.push2 (v := .slice Ao i co) (by simpa only [hTLH.out] using h1) h2 ho4H.out hg8 (by simpa only [hTLH.out] using h3)
      have hBt8 := Lib.hid (hBt4.out.grow hb8)
      have k0 := (cell_of_heap (j := 0) hD8.out).trans rfl
      have kf0 := frozen_of_heap hD8.out 0
      clear ho8 hb8 hg8 ha8
      rw [hlbH.out]
      refine hK.out _ _ ?_
      clear hK K
      try simp only [Act.put, pA,pB,pC]
      refine RegP.pure1 (by (simp only [gA,gB,gC]); rfl) (by exact fun _ _ _ h => h) (by rfl) (by intro w'; go_simp; try with_reducible rfl) ?_
      try simp only [Act.put, pA,pB,pC]
      refine RegP.last1 (by (simp only [gA,gB,gC]); rfl) (fun K hK => ?_)
      have hD9 := Lib.hid (blk_put hD8.out 0 (.slice A8 (i + 1) c8) rfl)
      have hBt9 : Hid (But db W4 (w8.setCell ⟨db, 0, none⟩ (.slice A8 (i + 1) c8))) := hBt8.out.set 0 _
      have hO9 : Hid (OutsAt (w8.setCell ⟨db, 0, none⟩ (.slice A8 (i + 1) c8)) W4.heap.size (.slice A8 (i + 1) c8) (outs.take (i + 1)) b) := hO8.out.move (fun k h1 _ => Below.heap_setCell _ _ _ _ (by have h2 := hdbl.out; have h3 := hB4.out.size; show k ≠ db; omega))
      go_simp
      generalize w8.setCell ⟨db, 0, none⟩ (.slice A8 (i + 1) c8) = w9 at *
      refine hK.out _ _ ?_
      clear hK K
      try simp only [Act.put, pA,pB,pC]
      refine RegP.done1 ?_
      try dsimp only
      go_wp2_with fail
      go_roundg gk
      case measure => omega
      case rel => exact ⟨i + 1, A8, c8, by first | rfl | simp, by omega, hD9, hO9, hBt9⟩
   ·have hd1 : decide ((lb : Int) ≤ 65536) = false := by rw [decide_eq_false_iff_not]; omega
    go_wp2_with fail
    refine (need_no _).mono ?_
    rintro e W5 ⟨rfl, rfl⟩
    exact ⟨rfl, hBad.out _ (by rw [hE3.out, if_neg (by rw [hlbH.out]; exact hle)]) (But.of_below hB4.out)⟩
end Go.Proofs.YtnegfigaiomehaaGreatDoor.Ck
end
section
namespace Go.Proofs.YtnegfigaiomehaaGreatDoor.Ck
open Go.RowKit Go.Lib Go.Shelf Go.Maps Go.Proofs.YtnegfigaiomehaaGreatDoorW.PrintWords Go.Proofs.YtnegfigaiomehaaGreatDoorW.PrintLast Go.Proofs.YtnegfigaiomehaaGreatDoorW.PrintMore Go.Proofs.YtnegfigaiomehaaGreatDoor.U Go.Proofs.YtnegfigaiomehaaGreatDoor.P Go.Proofs.YtnegfigaiomehaaGreatDoor.PTh Go.Proofs.YtnegfigaiomehaaGreatDoor.MapV
open Go.Proofs.YtnegfigaiomehaaGreatDoor.Fld (fieldsT)
def Cooked (r : Option DishL) (w : World) (e : Ending) (w' : World) : Prop := Below w.heap.size w w' ∧ match r with
 | none => e = .returned (.tuple #[.agg #[.slice none 0 0, .bool false, .string (B []), .string (B [])], .int .i64 13])
 | some d => ∃ vo names b, d = ⟨names.map fun n => ⟨n, b⟩, d.once, d.dep, d.deps⟩ ∧ e = .returned (.tuple #[.agg #[vo, .bool d.once, .string (B d.dep), .string (B d.deps)], .int .i64 0]) ∧ OutsAt w' w.heap.size vo names b
theorem low5 {w W5 w1 w2 : World} {x : Obj} {db o : Nat} (h : Below w.heap.size w W5) (h1 : But db (W5.alloc x) w1) (h2 : But o w1 w2) (hd : w.heap.size ≤ db) (ho : w.heap.size ≤ o) : Below w.heap.size w w2 := by
 have ha := h.alloc h.size x
 have hs := ha.size
 have hs1 := h1.size
 exact ⟨h2.os.trans (h1.os.trans ha.os), h2.tape.trans (h1.tape.trans ha.tape), h2.output.trans (h1.output.trans ha.output), Nat.le_trans hs (Nat.le_trans hs1 h2.size), fun k hk => (h2.same k (by omega) (by omega)).trans ((h1.same k (by omega) (by omega)).trans (ha.block k hk))⟩
set_option maxRecDepth 100000 in
set_option maxHeartbeats 16000000 in
theorem Cook_any (cmd : Txt) (hl : cmd.length ≤ 10000) (v : Env) (Ad Af : Option Addr) (cd cf : Nat) (w : World) (hG : Given w v Ad Af cd cf) (ht : Tab w) :
  Calls Tryz.prog 31 #[.string (B cmd), .slice Ad v.decl.length cd, .slice Af v.fs.length cf] w (Cooked (cookE cmd v) w) := by
 have hmf : ∀ (fn : Fn) (first cap : Array Value) (w : World), (Instr.makeFunc fn first cap).run Tryz.prog w = .ok (.func fn first cap) w := fun _ _ _ _ => rfl
 have hGH := Lib.hid hG
 have htH := Lib.hid ht
 obtain ⟨nd, hnd⟩ : ∃ n, v.decl.length = n := ⟨_, rfl⟩
 obtain ⟨nf, hnf⟩ : ∃ n, v.fs.length = n := ⟨_, rfl⟩
 have hndH := Lib.hid hnd
 have hnfH := Lib.hid hnf
 rw [hnd, hnf]
 clear hG ht hnd hnf
 obtain ⟨W5, hW5⟩ : ∃ W5, ((((w.alloc (.cells #[.string (B cmd)] 9)).alloc (.cells #[.slice Ad nd cd] 23)).alloc (.cells #[.slice Af nf cf] 36)).alloc (.cells #[.slice none 0 0, .bool false, .string (B []), .string (B [])] 72)).alloc (.cells #[.slice none 0 0, .bool false, .string (B []), .string (B [])] 72) = W5 := ⟨_, rfl⟩
 have hs5 : W5.heap.size = w.heap.size + 1 + 1 + 1 + 1 + 1 := by rw [← hW5]; simp
 have hb5 : Below w.heap.size w W5 := by
  rw [← hW5]
  have h1 := (Below.refl w.heap.size w).alloc (Nat.le_refl _) (.cells #[.string (B cmd)] 9)
  have h2 := h1.alloc h1.size (.cells #[.slice Ad nd cd] 23)
  have h3 := h2.alloc h2.size (.cells #[.slice Af nf cf] 36)
  have h4 := h3.alloc h3.size (.cells #[.slice none 0 0, .bool false, .string (B []), .string (B [])] 72)
  exact h4.alloc h4.size _
 have up1 : ∀ (w : World) (k : Nat) (x o : Obj), w.heap[k]? = some x → (w.alloc o).heap[k]? = some x := fun w k x o h => (((Below.refl w.heap.size w).alloc (Nat.le_refl _) o).block _ (Array.getElem?_eq_some_iff.1 h).1).trans h
 have n0 := heap_alloc_new w (.cells #[.string (B cmd)] 9)
 have g0 : W5.heap[w.heap.size]? = some (.cells #[.string (B cmd)] 9 (0, 0)) := by rw [← hW5]; exact (up1 _ _ _ _ (up1 _ _ _ _ (up1 _ _ _ _ (up1 _ _ _ _ n0))))
 have n1 := heap_alloc_new (w.alloc (.cells #[.string (B cmd)] 9)) (.cells #[.slice Ad nd cd] 23)
 simp only [World.size_alloc] at n1
 have g1 : W5.heap[w.heap.size + 1]? = some (.cells #[.slice Ad nd cd] 23 (0, 0)) := by rw [← hW5]; exact (up1 _ _ _ _ (up1 _ _ _ _ (up1 _ _ _ _ n1)))
 have n2 := heap_alloc_new ((w.alloc (.cells #[.string (B cmd)] 9)).alloc (.cells #[.slice Ad nd cd] 23)) (.cells #[.slice Af nf cf] 36)
 simp only [World.size_alloc] at n2
 have g2 : W5.heap[w.heap.size + 1 + 1]? = some (.cells #[.slice Af nf cf] 36 (0, 0)) := by rw [← hW5]; exact (up1 _ _ _ _ (up1 _ _ _ _ n2))
 have n3 := heap_alloc_new (((w.alloc (.cells #[.string (B cmd)] 9)).alloc (.cells #[.slice Ad nd cd] 23)).alloc (.cells #[.slice Af nf cf] 36)) (.cells #[.slice none 0 0, .bool false, .string (B []), .string (B [])] 72)
 simp only [World.size_alloc] at n3
 have g3 : W5.heap[w.heap.size + 1 + 1 + 1]? = some (.cells #[.slice none 0 0, .bool false, .string (B []), .string (B [])] 72 (0, 0)) := by rw [← hW5]; exact (up1 _ _ _ _ n3)
 have n4 := heap_alloc_new ((((w.alloc (.cells #[.string (B cmd)] 9)).alloc (.cells #[.slice Ad nd cd] 23)).alloc (.cells #[.slice Af nf cf] 36)).alloc (.cells #[.slice none 0 0, .bool false, .string (B []), .string (B [])] 72)) (.cells #[.slice none 0 0, .bool false, .string (B []), .string (B [])] 72)
 simp only [World.size_alloc] at n4
 have g4 : W5.heap[w.heap.size + 1 + 1 + 1 + 1]? = some (.cells #[.slice none 0 0, .bool false, .string (B []), .string (B [])] 72 (0, 0)) := by rw [← hW5]; exact n4
 have hbo := (Below.refl W5.heap.size W5).alloc (Nat.le_refl _) (.cells #[.int .i64 0] 41)
 have up : ∀ {k : Nat} {x : Obj}, W5.heap[k]? = some x → (W5.alloc (.cells #[.int .i64 0] 41)).heap[k]? = some x := fun {k x} h => (hbo.block _ (Array.getElem?_eq_some_iff.1 h).1).trans h
 have hdo := cook1_any cmd hl v Ad Af cd cf (W5.alloc (.cells #[.int .i64 0] 41)) (hGH.out.below (hb5.trans (hbo.mono hb5.size))) (htH.out.below (hb5.trans (hbo.mono hb5.size))) w.heap.size (w.heap.size + 1) (w.heap.size + 1 + 1) (w.heap.size + 1 + 1 + 1 + 1) W5.heap.size
  (up g0) (by rw [hndH.out]; exact up g1) (by rw [hnfH.out]; exact up g2) (up g4) (heap_alloc_new _ _) (by omega)
 have hGd := Lib.hid (guarded_any 62 #[at0 w.heap.size, at0 (w.heap.size + 1), at0 (w.heap.size + 1 + 1), at0 (w.heap.size + 1 + 1 + 1 + 1)] W5 (fun _ _ => by kernel_rfl) _ _ hdo)
 have hb5H := Lib.hid hb5
 have g3H := Lib.hid g3
 have hs5H := Lib.hid hs5
 have hos : Hid (W5.heap.size < (W5.alloc (.cells #[.int .i64 0] 41)).heap.size) := by show _ < _; simp
 clear g0 g1 g2 g3 g4 hdo hb5
 go_enter Tryz.func31, Tryz.ntmps31
 go_wp2_with fail
 clear n0 n1 n2 n3 n4 up1 up hbo
 refine hGd.out.mono ?_
 rintro e w2 (⟨rfl, w1, ⟨hB1, names, b, dep, deps, once, vo, hce, hd, ho⟩, hB2⟩ | ⟨rfl, w1, ⟨hB1, hce⟩, hB2⟩)
 ·obtain ⟨Ao, co, rfl⟩ := ho.form
  have hlt := hB1.size
  have hs := hs5H.out
  have hd2 := Lib.hid ((hB2.same _ (Array.getElem?_eq_some_iff.1 hd).1 (by omega)).trans hd)
  have g32 := Lib.hid ((hB2.same _ (by have := hos.out; omega) (by omega)).trans ((hB1.same _ (by have := hos.out; omega) (by omega)).trans ((((Below.refl W5.heap.size W5).alloc (Nat.le_refl _) (.cells #[.int .i64 0] 41)).block _ (by omega)).trans g3H.out)))
  have hbw : Hid (Below w.heap.size w w2) := low5 hb5H.out hB1 hB2 (by omega) (by omega)
  have ho2 : Hid (OutsAt w2 (W5.heap.size + 1) (.slice Ao names.length co) names b) := by
   have h1 := ho.move (w' := w2) (fun k h1 h2 => hB2.same k h2 (by have := hos.out; omega))
   rw [World.size_alloc] at h1; exact h1
  have hce' := Lib.hid hce
  have x0 := (cell_of_heap (j := 0) hd2.out).trans rfl
  have x1 := (cell_of_heap (j := 1) hd2.out).trans rfl
  have x2 := (cell_of_heap (j := 2) hd2.out).trans rfl
  have x3 := (cell_of_heap (j := 3) hd2.out).trans rfl
  have y0 := (cell_of_heap (j := 0) g32.out).trans rfl
  have y1 := (cell_of_heap (j := 1) g32.out).trans rfl
  have y2 := (cell_of_heap (j := 2) g32.out).trans rfl
  have y3 := (cell_of_heap (j := 3) g32.out).trans rfl
  have f0 := frozen_of_heap g32.out 0
  have f1 := frozen_of_heap g32.out 1
  have f2 := frozen_of_heap g32.out 2
  have f3 := frozen_of_heap g32.out 3
  clear hB1 hB2 hd ho hce hlt hW5 hs5 hmf hl hs
  go_wp2_with fail
  obtain ⟨rb, hrb⟩ : ∃ n, w.heap.size + 1 + 1 + 1 = n := ⟨_, rfl⟩
  have k4 := blk_put (blk_put (blk_put (blk_put g32.out 0 (.slice Ao names.length co) rfl) 1 (.bool once) rfl) 2 (.string (B dep)) rfl) 3 (.string (B deps)) rfl
  have hkeep : ∀ k, k ≠ w.heap.size + 1 + 1 + 1 → ((((w2.setCell ⟨w.heap.size + 1 + 1 + 1, 0, none⟩ (.slice Ao names.length co)).setCell ⟨w.heap.size + 1 + 1 + 1, 1, none⟩ (.bool once)).setCell ⟨w.heap.size + 1 + 1 + 1, 2, none⟩ (.string (B dep))).setCell ⟨w.heap.size + 1 + 1 + 1, 3, none⟩ (.string (B deps))).heap[k]? = w2.heap[k]? := fun k hk => by rw [Below.heap_setCell _ _ _ _ hk, Below.heap_setCell _ _ _ _ hk, Below.heap_setCell _ _ _ _ hk, Below.heap_setCell _ _ _ _ hk]
  have hbz : Below w.heap.size w ((((w2.setCell ⟨w.heap.size + 1 + 1 + 1, 0, none⟩ (.slice Ao names.length co)).setCell ⟨w.heap.size + 1 + 1 + 1, 1, none⟩ (.bool once)).setCell ⟨w.heap.size + 1 + 1 + 1, 2, none⟩ (.string (B dep))).setCell ⟨w.heap.size + 1 + 1 + 1, 3, none⟩ (.string (B deps))) := ⟨hbw.out.os, hbw.out.tape, hbw.out.output, by simpa using hbw.out.size, fun k hk => (hkeep k (by omega)).trans (hbw.out.block k hk)⟩
  have q0 := (cell_of_heap (j := 0) k4).trans rfl
  have q1 := (cell_of_heap (j := 1) k4).trans rfl
  have q2 := (cell_of_heap (j := 2) k4).trans rfl
  have q3 := (cell_of_heap (j := 3) k4).trans rfl
  have ho3 : OutsAt ((((w2.setCell ⟨w.heap.size + 1 + 1 + 1, 0, none⟩ (.slice Ao names.length co)).setCell ⟨w.heap.size + 1 + 1 + 1, 1, none⟩ (.bool once)).setCell ⟨w.heap.size + 1 + 1 + 1, 2, none⟩ (.string (B dep))).setCell ⟨w.heap.size + 1 + 1 + 1, 3, none⟩ (.string (B deps))) w.heap.size (.slice Ao names.length co) names b := (ho2.out.move (fun k h1 h2 => hkeep k (by have := hs5H.out; omega))).weaken (by have := hs5H.out; omega)
  have hcb := hce'.out
  generalize ((((w2.setCell ⟨w.heap.size + 1 + 1 + 1, 0, none⟩ (.slice Ao names.length co)).setCell ⟨w.heap.size + 1 + 1 + 1, 1, none⟩ (.bool once)).setCell ⟨w.heap.size + 1 + 1 + 1, 2, none⟩ (.string (B dep))).setCell ⟨w.heap.size + 1 + 1 + 1, 3, none⟩ (.string (B deps))) = w9 at *
  rw [hcb]
  refine bodyPost_ret (v := .tuple #[.agg #[.slice Ao names.length co, .bool once, .string (B dep), .string (B deps)], .int .i64 0]) (by simp [results, Tryz.f31, go_sem, q0, q1, q2, q3]) rfl ⟨hbz, _, names, b, rfl, rfl, ho3⟩
 ·have hlt := hB1.size
  have hs := hs5H.out
  have g32 := Lib.hid ((hB2.same _ (by have := hos.out; omega) (by omega)).trans ((hB1.same _ (by have := hos.out; omega) (by omega)).trans ((((Below.refl W5.heap.size W5).alloc (Nat.le_refl _) (.cells #[.int .i64 0] 41)).block _ (by omega)).trans g3H.out)))
  have hbw : Hid (Below w.heap.size w w2) := low5 hb5H.out hB1 hB2 (by omega) (by omega)
  have y0 := (cell_of_heap (j := 0) g32.out).trans rfl
  have y1 := (cell_of_heap (j := 1) g32.out).trans rfl
  have y2 := (cell_of_heap (j := 2) g32.out).trans rfl
  have y3 := (cell_of_heap (j := 3) g32.out).trans rfl
  have f0 := frozen_of_heap g32.out 0
  have f1 := frozen_of_heap g32.out 1
  have f2 := frozen_of_heap g32.out 2
  have f3 := frozen_of_heap g32.out 3
  have hce' := Lib.hid hce
  clear hB1 hB2 hce hlt hW5 hs5 hmf hl hs
  go_wp2_with fail
  obtain ⟨rb, hrb⟩ : ∃ n, w.heap.size + 1 + 1 + 1 = n := ⟨_, rfl⟩
  have k4 := blk_put (blk_put (blk_put (blk_put g32.out 0 (.slice none 0 0) rfl) 1 (.bool false) rfl) 2 (.string (B [])) rfl) 3 (.string (B [])) rfl
  have hkeep : ∀ k, k ≠ w.heap.size + 1 + 1 + 1 → ((((w2.setCell ⟨w.heap.size + 1 + 1 + 1, 0, none⟩ (.slice none 0 0)).setCell ⟨w.heap.size + 1 + 1 + 1, 1, none⟩ (.bool false)).setCell ⟨w.heap.size + 1 + 1 + 1, 2, none⟩ (.string (B []))).setCell ⟨w.heap.size + 1 + 1 + 1, 3, none⟩ (.string (B []))).heap[k]? = w2.heap[k]? := fun k hk => by rw [Below.heap_setCell _ _ _ _ hk, Below.heap_setCell _ _ _ _ hk, Below.heap_setCell _ _ _ _ hk, Below.heap_setCell _ _ _ _ hk]
  have hbz : Below w.heap.size w ((((w2.setCell ⟨w.heap.size + 1 + 1 + 1, 0, none⟩ (.slice none 0 0)).setCell ⟨w.heap.size + 1 + 1 + 1, 1, none⟩ (.bool false)).setCell ⟨w.heap.size + 1 + 1 + 1, 2, none⟩ (.string (B []))).setCell ⟨w.heap.size + 1 + 1 + 1, 3, none⟩ (.string (B []))) := ⟨hbw.out.os, hbw.out.tape, hbw.out.output, by simpa using hbw.out.size, fun k hk => (hkeep k (by omega)).trans (hbw.out.block k hk)⟩
  have q0 := (cell_of_heap (j := 0) k4).trans rfl
  have q1 := (cell_of_heap (j := 1) k4).trans rfl
  have q2 := (cell_of_heap (j := 2) k4).trans rfl
  have q3 := (cell_of_heap (j := 3) k4).trans rfl
  have hcb := hce'.out
  generalize hW9 : ((((w2.setCell ⟨w.heap.size + 1 + 1 + 1, 0, none⟩ (.slice none 0 0)).setCell ⟨w.heap.size + 1 + 1 + 1, 1, none⟩ (.bool false)).setCell ⟨w.heap.size + 1 + 1 + 1, 2, none⟩ (.string (B []))).setCell ⟨w.heap.size + 1 + 1 + 1, 3, none⟩ (.string (B []))) = w9 at *
  have hW9' := hW9
  simp only [B] at hW9'
  try rw [hW9']
  rw [hcb]
  refine bodyPost_ret (v := .tuple #[.agg #[.slice none 0 0, .bool false, .string (B []), .string (B [])], .int .i64 13]) (by simp [results, Tryz.f31, go_sem, q0, q1, q2, q3]) rfl ⟨hbz, rfl⟩
end Go.Proofs.YtnegfigaiomehaaGreatDoor.Ck
end
section
namespace Go.Proofs.YtnegfigaiomehaaGreatDoor.Tp
open Go.RowKit Go.Lib Go.Shelf Go.Maps Go.Proofs.YtnegfigaiomehaaGreatDoorW.PrintWords Go.Proofs.YtnegfigaiomehaaGreatDoorW.PrintLast Go.Proofs.YtnegfigaiomehaaGreatDoorW.PrintMore Go.Proofs.YtnegfigaiomehaaGreatDoor.U Go.Proofs.YtnegfigaiomehaaGreatDoor.P Go.Proofs.YtnegfigaiomehaaGreatDoor.MapV Go.Proofs.YtnegfigaiomehaaGreatDoor.Ck
structure IsM (w : World) (p : PairF) (f : FileL) : Prop where
 n : p.n = f.n
 k : p.k = f.b.length
 b : ∃ base, Kd.R (Kd.int .u8) 5 w base (fun _ => True) (.slice p.A p.k p.c) (ints f.b)
theorem IsM.is {w : World} {p : PairF} {f : FileL} (h : IsM w p f) : Is w p f := by
 obtain ⟨base, hb⟩ := h.b
 obtain ⟨A, c, he, hl, hC⟩ := Kd.R_reads hb
 injection he with e1 e2 e3
 rw [ints_len] at hl hC e2
 refine ⟨h.n, h.k, by rw [e2, e3]; exact hl, by rw [e1]; exact hC⟩
theorem IsM.below {w w' : World} {p : PairF} {f : FileL} (h : IsM w p f) (hb : Below w.heap.size w w') : IsM w' p f := by
 obtain ⟨base, h1⟩ := h.b
 exact ⟨h.n, h.k, base, Kd.R_below h1 hb⟩
theorem IsM.grown {w w' : World} {p : PairF} {f : FileL} (h : IsM w p f) {v : Value} {ps : List PairF} {base : Nat} {ok : Nat → Prop} (hv : Kd.R KP 40 w base ok v ps) (hg : w.grownBy w' v.ownBlock) : IsM w' p f := by
 obtain ⟨b, h1⟩ := h.b
 exact ⟨h.n, h.k, b, Kd.R_over h1 hv (by decide) hg⟩
inductive RowM (w : World) : List PairF → List FileL → Prop
 | nil : RowM w [] []
 | cons {p : PairF} {f : FileL} {ps : List PairF} {fs : List FileL} : IsM w p f → RowM w ps fs → RowM w (p :: ps) (f :: fs)
theorem RowM.row {w : World} {ps : List PairF} {fs : List FileL} (h : RowM w ps fs) : Row w ps fs := by
 induction h with
 | nil => exact .nil
 | cons h1 _ ih => exact .cons h1.is ih
theorem RowM.later {w w' : World} {ps : List PairF} {fs : List FileL} (h : RowM w ps fs) (hb : Below w.heap.size w w') : RowM w' ps fs := by
 induction h with
 | nil => exact .nil
 | cons h1 _ ih => exact .cons (h1.below hb) ih
theorem RowM.grown {w w' : World} {ps : List PairF} {fs : List FileL} (h : RowM w ps fs) {v : Value} {qs : List PairF} {base : Nat} {ok : Nat → Prop} (hv : Kd.R KP 40 w base ok v qs) (hg : w.grownBy w' v.ownBlock) : RowM w' ps fs := by
 induction h with
 | nil => exact .nil
 | cons h1 _ ih => exact .cons (h1.grown hv hg) ih
theorem RowM.app {w : World} {ps qs : List PairF} {fs gs : List FileL} (h : RowM w ps fs) (h' : RowM w qs gs) : RowM w (ps ++ qs) (fs ++ gs) := by
 induction h with
 | nil => exact h'
 | cons h1 _ ih => exact .cons h1 ih
theorem bcells_encs (b : Txt) : bcells b = encs (Value.int .u8) (ints b) := by
 induction b with
 | nil => rfl
 | cons x l ih => simp [ints, encs, bcells]
theorem outs_pairs {w : World} {base : Nat} {v : Value} {b : Txt} : ∀ {names : List Txt}, OutsAt w base v names b → ∃ ps, RowM w ps (names.map fun n => ⟨n, b⟩) ∧ Kd.R KP 40 w base (fun _ => True) v ps ∧ ps.map PairF.n = names := by
 intro names h
 obtain ⟨f, ho, hr⟩ := h
 have hp : ∀ j, ∃ p : PairF, ∀ (hj : j < names.length), IsM w p ⟨names[j], b⟩ ∧ f j = .slice p.A p.k p.c ∧ p.n = names[j] := by
  intro j
  by_cases hj : j < names.length
  ·have h1 := hr j hj
   rw [bcells_encs, show b.length = (ints b).length from (ints_len b).symm] at h1
   have h2 : Kd.R (Kd.int .u8) 5 w base (fun _ => True) (f j) (ints b) := Kd.R_of_own (h1 := fun _ => rfl) h1 (fun _ _ => trivial)
   obtain ⟨A, c, he⟩ := Kd.R_slice h2
   refine ⟨⟨names[j], A, (ints b).length, c⟩, fun _ => ⟨⟨rfl, ints_len b, base, by rw [he] at h2; exact h2⟩, he, rfl⟩⟩
  ·exact ⟨⟨[], none, 0, 0⟩, fun h => absurd h hj⟩
 let g := fun j => Classical.choose (hp j)
 have hg : ∀ j (hj : j < names.length), IsM w (g j) ⟨names[j], b⟩ ∧ f j = .slice (g j).A (g j).k (g j).c ∧ (g j).n = names[j] := fun j hj => Classical.choose_spec (hp j) hj
 have rowm : ∀ (ps : List PairF) (fs : List FileL), ps.length = fs.length → (∀ (i : Nat) (hi : i < ps.length) (hj : i < fs.length), IsM w ps[i] fs[i]) → RowM w ps fs := by
  intro ps
  induction ps with
  | nil => intro fs hl _; cases fs with
   | nil => exact .nil
   | cons _ _ => cases hl
  | cons p ps ih => intro fs hl hI; cases fs with
   | nil => cases hl
   | cons f fs => exact .cons (hI 0 (by simp) (by simp)) (ih fs (by simpa using hl) (fun i hi hj => hI (i + 1) (by simpa using hi) (by simpa using hj)))
 refine ⟨(List.range names.length).map g, rowm _ _ (by simp) (fun i hi hj => ?_), ⟨fun _ _ => trivial, ocells f 0 names, ?_, ?_⟩, ?_⟩
 ·have hi' : i < names.length := by simpa using hi
  have := (hg i hi').1
  simpa using this
 ·show w.ownsRow base 40 2 v ((List.range names.length).map g).length _
  rw [List.length_map, List.length_range]; exact ho
 ·refine ⟨by rw [ocells_len, List.length_map, List.length_range]; rfl, fun j p hj => KP_MK ?_⟩
  obtain ⟨hl, rfl⟩ := List.getElem?_eq_some_iff.1 hj
  have hl' : j < names.length := by simpa using hl
  have h1 := ocells_at f names 0 j hl'
  have h2 := hg j hl'
  rw [Nat.zero_add, ← h2.2.2, h2.2.1] at h1
  simp only [List.getElem_map, List.getElem_range]
  exact h1
 ·refine List.ext_getElem (by simp) (fun i h1 h2 => ?_)
  have := (hg i h2).2.2
  simpa using this
end Go.Proofs.YtnegfigaiomehaaGreatDoor.Tp
end
section
namespace Go.Proofs.YtnegfigaiomehaaGreatDoor.P
open Go.RowKit Go.Proofs.YtnegfigaiomehaaGreatDoorW.PrintWords Go.Proofs.YtnegfigaiomehaaGreatDoorW.PrintLast Go.Proofs.YtnegfigaiomehaaGreatDoorW.PrintMore
attribute [local go_sem] max2_int min2_int max_two min_two max_three min_three max_four min_four
def bellowsref03_plain.f (a0 : Int) : Option (Bool) := if a0 ≥ 97 then (if a0 ≤ 122 then (some true) else (if a0 ≥ 65 then (if a0 ≤ 90 then (some true) else (if a0 ≥ 48 then (if a0 ≤ 57 then (some true) else (if a0 = 46 then (some true) else (if a0 = 95 then (some true) else (if a0 = 45 then (some true) else (if a0 = 43 then (some true) else (some (a0 == 47))))))) else (if a0 = 46 then (some true) else (if a0 = 95 then (some true) else (if a0 = 45 then (some true) else (if a0 = 43 then (some true) else (some (a0 == 47)))))))) else (if a0 ≥ 48 then (if a0 ≤ 57 then (some true) else (if a0 = 46 then (some true) else (if a0 = 95 then (some true) else (if a0 = 45 then (some true) else (if a0 = 43 then (some true) else (some (a0 == 47))))))) else (if a0 = 46 then (some true) else (if a0 = 95 then (some true) else (if a0 = 45 then (some true) else (if a0 = 43 then (some true) else (some (a0 == 47))))))))) else (if a0 ≥ 65 then (if a0 ≤ 90 then (some true) else (if a0 ≥ 48 then (if a0 ≤ 57 then (some true) else (if a0 = 46 then (some true) else (if a0 = 95 then (some true) else (if a0 = 45 then (some true) else (if a0 = 43 then (some true) else (some (a0 == 47))))))) else (if a0 = 46 then (some true) else (if a0 = 95 then (some true) else (if a0 = 45 then (some true) else (if a0 = 43 then (some true) else (some (a0 == 47)))))))) else (if a0 ≥ 48 then (if a0 ≤ 57 then (some true) else (if a0 = 46 then (some true) else (if a0 = 95 then (some true) else (if a0 = 45 then (some true) else (if a0 = 43 then (some true) else (some (a0 == 47))))))) else (if a0 = 46 then (some true) else (if a0 = 95 then (some true) else (if a0 = 45 then (some true) else (if a0 = 43 then (some true) else (some (a0 == 47))))))))
set_option maxHeartbeats 8000000 in
set_option maxRecDepth 100000 in
theorem bellowsref03_plain.calls (a0 : Int) (r : Bool) (w : World) (h : bellowsref03_plain.f a0 = some r) :
  Calls Tryz.prog 99 #[.int .u8 a0] w fun e w' => e = .returned (.bool r) ∧ Drawn0 w w' := by
 have H : (if a0 ≥ 97 then (if a0 ≤ 122 then (some true) else (if a0 ≥ 65 then (if a0 ≤ 90 then (some true) else (if a0 ≥ 48 then (if a0 ≤ 57 then (some true) else (if a0 = 46 then (some true) else (if a0 = 95 then (some true) else (if a0 = 45 then (some true) else (if a0 = 43 then (some true) else (some (a0 == 47))))))) else (if a0 = 46 then (some true) else (if a0 = 95 then (some true) else (if a0 = 45 then (some true) else (if a0 = 43 then (some true) else (some (a0 == 47)))))))) else (if a0 ≥ 48 then (if a0 ≤ 57 then (some true) else (if a0 = 46 then (some true) else (if a0 = 95 then (some true) else (if a0 = 45 then (some true) else (if a0 = 43 then (some true) else (some (a0 == 47))))))) else (if a0 = 46 then (some true) else (if a0 = 95 then (some true) else (if a0 = 45 then (some true) else (if a0 = 43 then (some true) else (some (a0 == 47))))))))) else (if a0 ≥ 65 then (if a0 ≤ 90 then (some true) else (if a0 ≥ 48 then (if a0 ≤ 57 then (some true) else (if a0 = 46 then (some true) else (if a0 = 95 then (some true) else (if a0 = 45 then (some true) else (if a0 = 43 then (some true) else (some (a0 == 47))))))) else (if a0 = 46 then (some true) else (if a0 = 95 then (some true) else (if a0 = 45 then (some true) else (if a0 = 43 then (some true) else (some (a0 == 47)))))))) else (if a0 ≥ 48 then (if a0 ≤ 57 then (some true) else (if a0 = 46 then (some true) else (if a0 = 95 then (some true) else (if a0 = 45 then (some true) else (if a0 = 43 then (some true) else (some (a0 == 47))))))) else (if a0 = 46 then (some true) else (if a0 = 95 then (some true) else (if a0 = 45 then (some true) else (if a0 = 43 then (some true) else (some (a0 == 47))))))))) = some r := h
 clear h
 by_cases c2 : a0 ≥ 97
 ·rw [if_pos c2] at H
  have c2b0 : decide (97 ≤ a0) = true := decide_eq_true c2
  clear c2
  by_cases c3 : a0 ≤ 122
  ·rw [if_pos c3] at H
   have c3b0 : decide (a0 ≤ 122) = true := decide_eq_true c3
   clear c3
   obtain rfl := Option.some.inj H
   go_enter Tryz.func99, Tryz.ntmps99
   go_wp2
   go_ret
   exact ⟨by first | rfl | (simp; done) | (simp [*]; done), by repeat (first | exact Drawn0.refl _ | apply Drawn0.step)⟩
  ·rw [if_neg c3] at H
   have c3b0 : decide (a0 ≤ 122) = false := decide_eq_false c3
   clear c3
   by_cases c4 : a0 ≥ 65
   ·rw [if_pos c4] at H
    have c4b0 : decide (65 ≤ a0) = true := decide_eq_true c4
    clear c4
    by_cases c5 : a0 ≤ 90
    ·rw [if_pos c5] at H
     have c5b0 : decide (a0 ≤ 90) = true := decide_eq_true c5
     clear c5
     obtain rfl := Option.some.inj H
     go_enter Tryz.func99, Tryz.ntmps99
     go_wp2
     go_ret
     exact ⟨by first | rfl | (simp; done) | (simp [*]; done), by repeat (first | exact Drawn0.refl _ | apply Drawn0.step)⟩
    ·rw [if_neg c5] at H
     have c5b0 : decide (a0 ≤ 90) = false := decide_eq_false c5
     clear c5
     by_cases c6 : a0 ≥ 48
     ·rw [if_pos c6] at H
      have c6b0 : decide (48 ≤ a0) = true := decide_eq_true c6
      clear c6
      by_cases c7 : a0 ≤ 57
      ·rw [if_pos c7] at H
       have c7b0 : decide (a0 ≤ 57) = true := decide_eq_true c7
       clear c7
       obtain rfl := Option.some.inj H
       go_enter Tryz.func99, Tryz.ntmps99
       go_wp2
       go_ret
       exact ⟨by first | rfl | (simp; done) | (simp [*]; done), by repeat (first | exact Drawn0.refl _ | apply Drawn0.step)⟩
      ·rw [if_neg c7] at H
       have c7b0 : decide (a0 ≤ 57) = false := decide_eq_false c7
       clear c7
       by_cases c8 : a0 = 46
       ·rw [if_pos c8] at H
        have c8b0 : (a0 == 46) = true := beq_iff_eq.mpr c8
        have c8b1 : (a0 != 46) = false := bne_eq_false_iff_eq.mpr c8
        clear c8
        obtain rfl := Option.some.inj H
        go_enter Tryz.func99, Tryz.ntmps99
        go_wp2
        go_ret
        exact ⟨by first | rfl | (simp; done) | (simp [*]; done), by repeat (first | exact Drawn0.refl _ | apply Drawn0.step)⟩
       ·rw [if_neg c8] at H
        have c8b0 : (a0 == 46) = false := beq_eq_false_iff_ne.mpr c8
        have c8b1 : (a0 != 46) = true := bne_iff_ne.mpr c8
        by_cases c9 : a0 = 95
        ·rw [if_pos c9] at H
         have c9b0 : (a0 == 95) = true := beq_iff_eq.mpr c9
         have c9b1 : (a0 != 95) = false := bne_eq_false_iff_eq.mpr c9
         clear c9
         obtain rfl := Option.some.inj H
         go_enter Tryz.func99, Tryz.ntmps99
         go_wp2
         go_ret
         exact ⟨by first | rfl | (simp; done) | (simp [*]; done), by repeat (first | exact Drawn0.refl _ | apply Drawn0.step)⟩
        ·rw [if_neg c9] at H
         have c9b0 : (a0 == 95) = false := beq_eq_false_iff_ne.mpr c9
         have c9b1 : (a0 != 95) = true := bne_iff_ne.mpr c9
         by_cases c10 : a0 = 45
         ·rw [if_pos c10] at H
          have c10b0 : (a0 == 45) = true := beq_iff_eq.mpr c10
          have c10b1 : (a0 != 45) = false := bne_eq_false_iff_eq.mpr c10
          clear c10
          obtain rfl := Option.some.inj H
          go_enter Tryz.func99, Tryz.ntmps99
          go_wp2
          go_ret
          exact ⟨by first | rfl | (simp; done) | (simp [*]; done), by repeat (first | exact Drawn0.refl _ | apply Drawn0.step)⟩
         ·rw [if_neg c10] at H
          have c10b0 : (a0 == 45) = false := beq_eq_false_iff_ne.mpr c10
          have c10b1 : (a0 != 45) = true := bne_iff_ne.mpr c10
          by_cases c11 : a0 = 43
          ·rw [if_pos c11] at H
           have c11b0 : (a0 == 43) = true := beq_iff_eq.mpr c11
           have c11b1 : (a0 != 43) = false := bne_eq_false_iff_eq.mpr c11
           clear c11
           obtain rfl := Option.some.inj H
           go_enter Tryz.func99, Tryz.ntmps99
           go_wp2
           go_ret
           exact ⟨by first | rfl | (simp; done) | (simp [*]; done), by repeat (first | exact Drawn0.refl _ | apply Drawn0.step)⟩
          ·rw [if_neg c11] at H
           have c11b0 : (a0 == 43) = false := beq_eq_false_iff_ne.mpr c11
           have c11b1 : (a0 != 43) = true := bne_iff_ne.mpr c11
           obtain rfl := Option.some.inj H
           go_enter Tryz.func99, Tryz.ntmps99
           go_wp2
           go_ret
           exact ⟨by first | rfl | (simp; done) | (simp [*]; done), by repeat (first | exact Drawn0.refl _ | apply Drawn0.step)⟩
     ·rw [if_neg c6] at H
      have c6b0 : decide (48 ≤ a0) = false := decide_eq_false c6
      clear c6
      by_cases c12 : a0 = 46
      ·rw [if_pos c12] at H
       have c12b0 : (a0 == 46) = true := beq_iff_eq.mpr c12
       have c12b1 : (a0 != 46) = false := bne_eq_false_iff_eq.mpr c12
       clear c12
       obtain rfl := Option.some.inj H
       go_enter Tryz.func99, Tryz.ntmps99
       go_wp2
       go_ret
       exact ⟨by first | rfl | (simp; done) | (simp [*]; done), by repeat (first | exact Drawn0.refl _ | apply Drawn0.step)⟩
      ·rw [if_neg c12] at H
       have c12b0 : (a0 == 46) = false := beq_eq_false_iff_ne.mpr c12
       have c12b1 : (a0 != 46) = true := bne_iff_ne.mpr c12
       by_cases c13 : a0 = 95
       ·rw [if_pos c13] at H
        have c13b0 : (a0 == 95) = true := beq_iff_eq.mpr c13
        have c13b1 : (a0 != 95) = false := bne_eq_false_iff_eq.mpr c13
        clear c13
        obtain rfl := Option.some.inj H
        go_enter Tryz.func99, Tryz.ntmps99
        go_wp2
        go_ret
        exact ⟨by first | rfl | (simp; done) | (simp [*]; done), by repeat (first | exact Drawn0.refl _ | apply Drawn0.step)⟩
       ·rw [if_neg c13] at H
        have c13b0 : (a0 == 95) = false := beq_eq_false_iff_ne.mpr c13
        have c13b1 : (a0 != 95) = true := bne_iff_ne.mpr c13
        by_cases c14 : a0 = 45
        ·rw [if_pos c14] at H
         have c14b0 : (a0 == 45) = true := beq_iff_eq.mpr c14
         have c14b1 : (a0 != 45) = false := bne_eq_false_iff_eq.mpr c14
         clear c14
         obtain rfl := Option.some.inj H
         go_enter Tryz.func99, Tryz.ntmps99
         go_wp2
         go_ret
         exact ⟨by first | rfl | (simp; done) | (simp [*]; done), by repeat (first | exact Drawn0.refl _ | apply Drawn0.step)⟩
        ·rw [if_neg c14] at H
         have c14b0 : (a0 == 45) = false := beq_eq_false_iff_ne.mpr c14
         have c14b1 : (a0 != 45) = true := bne_iff_ne.mpr c14
         by_cases c15 : a0 = 43
         ·rw [if_pos c15] at H
          have c15b0 : (a0 == 43) = true := beq_iff_eq.mpr c15
          have c15b1 : (a0 != 43) = false := bne_eq_false_iff_eq.mpr c15
          clear c15
          obtain rfl := Option.some.inj H
          go_enter Tryz.func99, Tryz.ntmps99
          go_wp2
          go_ret
          exact ⟨by first | rfl | (simp; done) | (simp [*]; done), by repeat (first | exact Drawn0.refl _ | apply Drawn0.step)⟩
         ·rw [if_neg c15] at H
          have c15b0 : (a0 == 43) = false := beq_eq_false_iff_ne.mpr c15
          have c15b1 : (a0 != 43) = true := bne_iff_ne.mpr c15
          obtain rfl := Option.some.inj H
          go_enter Tryz.func99, Tryz.ntmps99
          go_wp2
          go_ret
          exact ⟨by first | rfl | (simp; done) | (simp [*]; done), by repeat (first | exact Drawn0.refl _ | apply Drawn0.step)⟩
   ·rw [if_neg c4] at H
    have c4b0 : decide (65 ≤ a0) = false := decide_eq_false c4
    clear c4
    by_cases c16 : a0 ≥ 48
    ·rw [if_pos c16] at H
     have c16b0 : decide (48 ≤ a0) = true := decide_eq_true c16
     clear c16
     by_cases c17 : a0 ≤ 57
     ·rw [if_pos c17] at H
      have c17b0 : decide (a0 ≤ 57) = true := decide_eq_true c17
      clear c17
      obtain rfl := Option.some.inj H
      go_enter Tryz.func99, Tryz.ntmps99
      go_wp2
      go_ret
      exact ⟨by first | rfl | (simp; done) | (simp [*]; done), by repeat (first | exact Drawn0.refl _ | apply Drawn0.step)⟩
     ·rw [if_neg c17] at H
      have c17b0 : decide (a0 ≤ 57) = false := decide_eq_false c17
      clear c17
      by_cases c18 : a0 = 46
      ·rw [if_pos c18] at H
       have c18b0 : (a0 == 46) = true := beq_iff_eq.mpr c18
       have c18b1 : (a0 != 46) = false := bne_eq_false_iff_eq.mpr c18
       clear c18
       obtain rfl := Option.some.inj H
       go_enter Tryz.func99, Tryz.ntmps99
       go_wp2
       go_ret
       exact ⟨by first | rfl | (simp; done) | (simp [*]; done), by repeat (first | exact Drawn0.refl _ | apply Drawn0.step)⟩
      ·rw [if_neg c18] at H
       have c18b0 : (a0 == 46) = false := beq_eq_false_iff_ne.mpr c18
       have c18b1 : (a0 != 46) = true := bne_iff_ne.mpr c18
       by_cases c19 : a0 = 95
       ·rw [if_pos c19] at H
        have c19b0 : (a0 == 95) = true := beq_iff_eq.mpr c19
        have c19b1 : (a0 != 95) = false := bne_eq_false_iff_eq.mpr c19
        clear c19
        obtain rfl := Option.some.inj H
        go_enter Tryz.func99, Tryz.ntmps99
        go_wp2
        go_ret
        exact ⟨by first | rfl | (simp; done) | (simp [*]; done), by repeat (first | exact Drawn0.refl _ | apply Drawn0.step)⟩
       ·rw [if_neg c19] at H
        have c19b0 : (a0 == 95) = false := beq_eq_false_iff_ne.mpr c19
        have c19b1 : (a0 != 95) = true := bne_iff_ne.mpr c19
        by_cases c20 : a0 = 45
        ·rw [if_pos c20] at H
         have c20b0 : (a0 == 45) = true := beq_iff_eq.mpr c20
         have c20b1 : (a0 != 45) = false := bne_eq_false_iff_eq.mpr c20
         clear c20
         obtain rfl := Option.some.inj H
         go_enter Tryz.func99, Tryz.ntmps99
         go_wp2
         go_ret
         exact ⟨by first | rfl | (simp; done) | (simp [*]; done), by repeat (first | exact Drawn0.refl _ | apply Drawn0.step)⟩
        ·rw [if_neg c20] at H
         have c20b0 : (a0 == 45) = false := beq_eq_false_iff_ne.mpr c20
         have c20b1 : (a0 != 45) = true := bne_iff_ne.mpr c20
         by_cases c21 : a0 = 43
         ·rw [if_pos c21] at H
          have c21b0 : (a0 == 43) = true := beq_iff_eq.mpr c21
          have c21b1 : (a0 != 43) = false := bne_eq_false_iff_eq.mpr c21
          clear c21
          obtain rfl := Option.some.inj H
          go_enter Tryz.func99, Tryz.ntmps99
          go_wp2
          go_ret
          exact ⟨by first | rfl | (simp; done) | (simp [*]; done), by repeat (first | exact Drawn0.refl _ | apply Drawn0.step)⟩
         ·rw [if_neg c21] at H
          have c21b0 : (a0 == 43) = false := beq_eq_false_iff_ne.mpr c21
          have c21b1 : (a0 != 43) = true := bne_iff_ne.mpr c21
          obtain rfl := Option.some.inj H
          go_enter Tryz.func99, Tryz.ntmps99
          go_wp2
          go_ret
          exact ⟨by first | rfl | (simp; done) | (simp [*]; done), by repeat (first | exact Drawn0.refl _ | apply Drawn0.step)⟩
    ·rw [if_neg c16] at H
     have c16b0 : decide (48 ≤ a0) = false := decide_eq_false c16
     clear c16
     by_cases c22 : a0 = 46
     ·rw [if_pos c22] at H
      have c22b0 : (a0 == 46) = true := beq_iff_eq.mpr c22
      have c22b1 : (a0 != 46) = false := bne_eq_false_iff_eq.mpr c22
      clear c22
      obtain rfl := Option.some.inj H
      go_enter Tryz.func99, Tryz.ntmps99
      go_wp2
      go_ret
      exact ⟨by first | rfl | (simp; done) | (simp [*]; done), by repeat (first | exact Drawn0.refl _ | apply Drawn0.step)⟩
     ·rw [if_neg c22] at H
      have c22b0 : (a0 == 46) = false := beq_eq_false_iff_ne.mpr c22
      have c22b1 : (a0 != 46) = true := bne_iff_ne.mpr c22
      by_cases c23 : a0 = 95
      ·rw [if_pos c23] at H
       have c23b0 : (a0 == 95) = true := beq_iff_eq.mpr c23
       have c23b1 : (a0 != 95) = false := bne_eq_false_iff_eq.mpr c23
       clear c23
       obtain rfl := Option.some.inj H
       go_enter Tryz.func99, Tryz.ntmps99
       go_wp2
       go_ret
       exact ⟨by first | rfl | (simp; done) | (simp [*]; done), by repeat (first | exact Drawn0.refl _ | apply Drawn0.step)⟩
      ·rw [if_neg c23] at H
       have c23b0 : (a0 == 95) = false := beq_eq_false_iff_ne.mpr c23
       have c23b1 : (a0 != 95) = true := bne_iff_ne.mpr c23
       by_cases c24 : a0 = 45
       ·rw [if_pos c24] at H
        have c24b0 : (a0 == 45) = true := beq_iff_eq.mpr c24
        have c24b1 : (a0 != 45) = false := bne_eq_false_iff_eq.mpr c24
        clear c24
        obtain rfl := Option.some.inj H
        go_enter Tryz.func99, Tryz.ntmps99
        go_wp2
        go_ret
        exact ⟨by first | rfl | (simp; done) | (simp [*]; done), by repeat (first | exact Drawn0.refl _ | apply Drawn0.step)⟩
       ·rw [if_neg c24] at H
        have c24b0 : (a0 == 45) = false := beq_eq_false_iff_ne.mpr c24
        have c24b1 : (a0 != 45) = true := bne_iff_ne.mpr c24
        by_cases c25 : a0 = 43
        ·rw [if_pos c25] at H
         have c25b0 : (a0 == 43) = true := beq_iff_eq.mpr c25
         have c25b1 : (a0 != 43) = false := bne_eq_false_iff_eq.mpr c25
         clear c25
         obtain rfl := Option.some.inj H
         go_enter Tryz.func99, Tryz.ntmps99
         go_wp2
         go_ret
         exact ⟨by first | rfl | (simp; done) | (simp [*]; done), by repeat (first | exact Drawn0.refl _ | apply Drawn0.step)⟩
        ·rw [if_neg c25] at H
         have c25b0 : (a0 == 43) = false := beq_eq_false_iff_ne.mpr c25
         have c25b1 : (a0 != 43) = true := bne_iff_ne.mpr c25
         obtain rfl := Option.some.inj H
         go_enter Tryz.func99, Tryz.ntmps99
         go_wp2
         go_ret
         exact ⟨by first | rfl | (simp; done) | (simp [*]; done), by repeat (first | exact Drawn0.refl _ | apply Drawn0.step)⟩
 ·rw [if_neg c2] at H
  have c2b0 : decide (97 ≤ a0) = false := decide_eq_false c2
  clear c2
  by_cases c26 : a0 ≥ 65
  ·rw [if_pos c26] at H
   have c26b0 : decide (65 ≤ a0) = true := decide_eq_true c26
   clear c26
   by_cases c27 : a0 ≤ 90
   ·rw [if_pos c27] at H
    have c27b0 : decide (a0 ≤ 90) = true := decide_eq_true c27
    clear c27
    obtain rfl := Option.some.inj H
    go_enter Tryz.func99, Tryz.ntmps99
    go_wp2
    go_ret
    exact ⟨by first | rfl | (simp; done) | (simp [*]; done), by repeat (first | exact Drawn0.refl _ | apply Drawn0.step)⟩
   ·rw [if_neg c27] at H
    have c27b0 : decide (a0 ≤ 90) = false := decide_eq_false c27
    clear c27
    by_cases c28 : a0 ≥ 48
    ·rw [if_pos c28] at H
     have c28b0 : decide (48 ≤ a0) = true := decide_eq_true c28
     clear c28
     by_cases c29 : a0 ≤ 57
     ·rw [if_pos c29] at H
      have c29b0 : decide (a0 ≤ 57) = true := decide_eq_true c29
      clear c29
      obtain rfl := Option.some.inj H
      go_enter Tryz.func99, Tryz.ntmps99
      go_wp2
      go_ret
      exact ⟨by first | rfl | (simp; done) | (simp [*]; done), by repeat (first | exact Drawn0.refl _ | apply Drawn0.step)⟩
     ·rw [if_neg c29] at H
      have c29b0 : decide (a0 ≤ 57) = false := decide_eq_false c29
      clear c29
      by_cases c30 : a0 = 46
      ·rw [if_pos c30] at H
       have c30b0 : (a0 == 46) = true := beq_iff_eq.mpr c30
       have c30b1 : (a0 != 46) = false := bne_eq_false_iff_eq.mpr c30
       clear c30
       obtain rfl := Option.some.inj H
       go_enter Tryz.func99, Tryz.ntmps99
       go_wp2
       go_ret
       exact ⟨by first | rfl | (simp; done) | (simp [*]; done), by repeat (first | exact Drawn0.refl _ | apply Drawn0.step)⟩
      ·rw [if_neg c30] at H
       have c30b0 : (a0 == 46) = false := beq_eq_false_iff_ne.mpr c30
       have c30b1 : (a0 != 46) = true := bne_iff_ne.mpr c30
       by_cases c31 : a0 = 95
       ·rw [if_pos c31] at H
        have c31b0 : (a0 == 95) = true := beq_iff_eq.mpr c31
        have c31b1 : (a0 != 95) = false := bne_eq_false_iff_eq.mpr c31
        clear c31
        obtain rfl := Option.some.inj H
        go_enter Tryz.func99, Tryz.ntmps99
        go_wp2
        go_ret
        exact ⟨by first | rfl | (simp; done) | (simp [*]; done), by repeat (first | exact Drawn0.refl _ | apply Drawn0.step)⟩
       ·rw [if_neg c31] at H
        have c31b0 : (a0 == 95) = false := beq_eq_false_iff_ne.mpr c31
        have c31b1 : (a0 != 95) = true := bne_iff_ne.mpr c31
        by_cases c32 : a0 = 45
        ·rw [if_pos c32] at H
         have c32b0 : (a0 == 45) = true := beq_iff_eq.mpr c32
         have c32b1 : (a0 != 45) = false := bne_eq_false_iff_eq.mpr c32
         clear c32
         obtain rfl := Option.some.inj H
         go_enter Tryz.func99, Tryz.ntmps99
         go_wp2
         go_ret
         exact ⟨by first | rfl | (simp; done) | (simp [*]; done), by repeat (first | exact Drawn0.refl _ | apply Drawn0.step)⟩
        ·rw [if_neg c32] at H
         have c32b0 : (a0 == 45) = false := beq_eq_false_iff_ne.mpr c32
         have c32b1 : (a0 != 45) = true := bne_iff_ne.mpr c32
         by_cases c33 : a0 = 43
         ·rw [if_pos c33] at H
          have c33b0 : (a0 == 43) = true := beq_iff_eq.mpr c33
          have c33b1 : (a0 != 43) = false := bne_eq_false_iff_eq.mpr c33
          clear c33
          obtain rfl := Option.some.inj H
          go_enter Tryz.func99, Tryz.ntmps99
          go_wp2
          go_ret
          exact ⟨by first | rfl | (simp; done) | (simp [*]; done), by repeat (first | exact Drawn0.refl _ | apply Drawn0.step)⟩
         ·rw [if_neg c33] at H
          have c33b0 : (a0 == 43) = false := beq_eq_false_iff_ne.mpr c33
          have c33b1 : (a0 != 43) = true := bne_iff_ne.mpr c33
          obtain rfl := Option.some.inj H
          go_enter Tryz.func99, Tryz.ntmps99
          go_wp2
          go_ret
          exact ⟨by first | rfl | (simp; done) | (simp [*]; done), by repeat (first | exact Drawn0.refl _ | apply Drawn0.step)⟩
    ·rw [if_neg c28] at H
     have c28b0 : decide (48 ≤ a0) = false := decide_eq_false c28
     clear c28
     by_cases c34 : a0 = 46
     ·rw [if_pos c34] at H
      have c34b0 : (a0 == 46) = true := beq_iff_eq.mpr c34
      have c34b1 : (a0 != 46) = false := bne_eq_false_iff_eq.mpr c34
      clear c34
      obtain rfl := Option.some.inj H
      go_enter Tryz.func99, Tryz.ntmps99
      go_wp2
      go_ret
      exact ⟨by first | rfl | (simp; done) | (simp [*]; done), by repeat (first | exact Drawn0.refl _ | apply Drawn0.step)⟩
     ·rw [if_neg c34] at H
      have c34b0 : (a0 == 46) = false := beq_eq_false_iff_ne.mpr c34
      have c34b1 : (a0 != 46) = true := bne_iff_ne.mpr c34
      by_cases c35 : a0 = 95
      ·rw [if_pos c35] at H
       have c35b0 : (a0 == 95) = true := beq_iff_eq.mpr c35
       have c35b1 : (a0 != 95) = false := bne_eq_false_iff_eq.mpr c35
       clear c35
       obtain rfl := Option.some.inj H
       go_enter Tryz.func99, Tryz.ntmps99
       go_wp2
       go_ret
       exact ⟨by first | rfl | (simp; done) | (simp [*]; done), by repeat (first | exact Drawn0.refl _ | apply Drawn0.step)⟩
      ·rw [if_neg c35] at H
       have c35b0 : (a0 == 95) = false := beq_eq_false_iff_ne.mpr c35
       have c35b1 : (a0 != 95) = true := bne_iff_ne.mpr c35
       by_cases c36 : a0 = 45
       ·rw [if_pos c36] at H
        have c36b0 : (a0 == 45) = true := beq_iff_eq.mpr c36
        have c36b1 : (a0 != 45) = false := bne_eq_false_iff_eq.mpr c36
        clear c36
        obtain rfl := Option.some.inj H
        go_enter Tryz.func99, Tryz.ntmps99
        go_wp2
        go_ret
        exact ⟨by first | rfl | (simp; done) | (simp [*]; done), by repeat (first | exact Drawn0.refl _ | apply Drawn0.step)⟩
       ·rw [if_neg c36] at H
        have c36b0 : (a0 == 45) = false := beq_eq_false_iff_ne.mpr c36
        have c36b1 : (a0 != 45) = true := bne_iff_ne.mpr c36
        by_cases c37 : a0 = 43
        ·rw [if_pos c37] at H
         have c37b0 : (a0 == 43) = true := beq_iff_eq.mpr c37
         have c37b1 : (a0 != 43) = false := bne_eq_false_iff_eq.mpr c37
         clear c37
         obtain rfl := Option.some.inj H
         go_enter Tryz.func99, Tryz.ntmps99
         go_wp2
         go_ret
         exact ⟨by first | rfl | (simp; done) | (simp [*]; done), by repeat (first | exact Drawn0.refl _ | apply Drawn0.step)⟩
        ·rw [if_neg c37] at H
         have c37b0 : (a0 == 43) = false := beq_eq_false_iff_ne.mpr c37
         have c37b1 : (a0 != 43) = true := bne_iff_ne.mpr c37
         obtain rfl := Option.some.inj H
         go_enter Tryz.func99, Tryz.ntmps99
         go_wp2
         go_ret
         exact ⟨by first | rfl | (simp; done) | (simp [*]; done), by repeat (first | exact Drawn0.refl _ | apply Drawn0.step)⟩
  ·rw [if_neg c26] at H
   have c26b0 : decide (65 ≤ a0) = false := decide_eq_false c26
   clear c26
   by_cases c38 : a0 ≥ 48
   ·rw [if_pos c38] at H
    have c38b0 : decide (48 ≤ a0) = true := decide_eq_true c38
    clear c38
    by_cases c39 : a0 ≤ 57
    ·rw [if_pos c39] at H
     have c39b0 : decide (a0 ≤ 57) = true := decide_eq_true c39
     clear c39
     obtain rfl := Option.some.inj H
     go_enter Tryz.func99, Tryz.ntmps99
     go_wp2
     go_ret
     exact ⟨by first | rfl | (simp; done) | (simp [*]; done), by repeat (first | exact Drawn0.refl _ | apply Drawn0.step)⟩
    ·rw [if_neg c39] at H
     have c39b0 : decide (a0 ≤ 57) = false := decide_eq_false c39
     clear c39
     by_cases c40 : a0 = 46
     ·rw [if_pos c40] at H
      have c40b0 : (a0 == 46) = true := beq_iff_eq.mpr c40
      have c40b1 : (a0 != 46) = false := bne_eq_false_iff_eq.mpr c40
      clear c40
      obtain rfl := Option.some.inj H
      go_enter Tryz.func99, Tryz.ntmps99
      go_wp2
      go_ret
      exact ⟨by first | rfl | (simp; done) | (simp [*]; done), by repeat (first | exact Drawn0.refl _ | apply Drawn0.step)⟩
     ·rw [if_neg c40] at H
      have c40b0 : (a0 == 46) = false := beq_eq_false_iff_ne.mpr c40
      have c40b1 : (a0 != 46) = true := bne_iff_ne.mpr c40
      by_cases c41 : a0 = 95
      ·rw [if_pos c41] at H
       have c41b0 : (a0 == 95) = true := beq_iff_eq.mpr c41
       have c41b1 : (a0 != 95) = false := bne_eq_false_iff_eq.mpr c41
       clear c41
       obtain rfl := Option.some.inj H
       go_enter Tryz.func99, Tryz.ntmps99
       go_wp2
       go_ret
       exact ⟨by first | rfl | (simp; done) | (simp [*]; done), by repeat (first | exact Drawn0.refl _ | apply Drawn0.step)⟩
      ·rw [if_neg c41] at H
       have c41b0 : (a0 == 95) = false := beq_eq_false_iff_ne.mpr c41
       have c41b1 : (a0 != 95) = true := bne_iff_ne.mpr c41
       by_cases c42 : a0 = 45
       ·rw [if_pos c42] at H
        have c42b0 : (a0 == 45) = true := beq_iff_eq.mpr c42
        have c42b1 : (a0 != 45) = false := bne_eq_false_iff_eq.mpr c42
        clear c42
        obtain rfl := Option.some.inj H
        go_enter Tryz.func99, Tryz.ntmps99
        go_wp2
        go_ret
        exact ⟨by first | rfl | (simp; done) | (simp [*]; done), by repeat (first | exact Drawn0.refl _ | apply Drawn0.step)⟩
       ·rw [if_neg c42] at H
        have c42b0 : (a0 == 45) = false := beq_eq_false_iff_ne.mpr c42
        have c42b1 : (a0 != 45) = true := bne_iff_ne.mpr c42
        by_cases c43 : a0 = 43
        ·rw [if_pos c43] at H
         have c43b0 : (a0 == 43) = true := beq_iff_eq.mpr c43
         have c43b1 : (a0 != 43) = false := bne_eq_false_iff_eq.mpr c43
         clear c43
         obtain rfl := Option.some.inj H
         go_enter Tryz.func99, Tryz.ntmps99
         go_wp2
         go_ret
         exact ⟨by first | rfl | (simp; done) | (simp [*]; done), by repeat (first | exact Drawn0.refl _ | apply Drawn0.step)⟩
        ·rw [if_neg c43] at H
         have c43b0 : (a0 == 43) = false := beq_eq_false_iff_ne.mpr c43
         have c43b1 : (a0 != 43) = true := bne_iff_ne.mpr c43
         obtain rfl := Option.some.inj H
         go_enter Tryz.func99, Tryz.ntmps99
         go_wp2
         go_ret
         exact ⟨by first | rfl | (simp; done) | (simp [*]; done), by repeat (first | exact Drawn0.refl _ | apply Drawn0.step)⟩
   ·rw [if_neg c38] at H
    have c38b0 : decide (48 ≤ a0) = false := decide_eq_false c38
    clear c38
    by_cases c44 : a0 = 46
    ·rw [if_pos c44] at H
     have c44b0 : (a0 == 46) = true := beq_iff_eq.mpr c44
     have c44b1 : (a0 != 46) = false := bne_eq_false_iff_eq.mpr c44
     clear c44
     obtain rfl := Option.some.inj H
     go_enter Tryz.func99, Tryz.ntmps99
     go_wp2
     go_ret
     exact ⟨by first | rfl | (simp; done) | (simp [*]; done), by repeat (first | exact Drawn0.refl _ | apply Drawn0.step)⟩
    ·rw [if_neg c44] at H
     have c44b0 : (a0 == 46) = false := beq_eq_false_iff_ne.mpr c44
     have c44b1 : (a0 != 46) = true := bne_iff_ne.mpr c44
     by_cases c45 : a0 = 95
     ·rw [if_pos c45] at H
      have c45b0 : (a0 == 95) = true := beq_iff_eq.mpr c45
      have c45b1 : (a0 != 95) = false := bne_eq_false_iff_eq.mpr c45
      clear c45
      obtain rfl := Option.some.inj H
      go_enter Tryz.func99, Tryz.ntmps99
      go_wp2
      go_ret
      exact ⟨by first | rfl | (simp; done) | (simp [*]; done), by repeat (first | exact Drawn0.refl _ | apply Drawn0.step)⟩
     ·rw [if_neg c45] at H
      have c45b0 : (a0 == 95) = false := beq_eq_false_iff_ne.mpr c45
      have c45b1 : (a0 != 95) = true := bne_iff_ne.mpr c45
      by_cases c46 : a0 = 45
      ·rw [if_pos c46] at H
       have c46b0 : (a0 == 45) = true := beq_iff_eq.mpr c46
       have c46b1 : (a0 != 45) = false := bne_eq_false_iff_eq.mpr c46
       clear c46
       obtain rfl := Option.some.inj H
       go_enter Tryz.func99, Tryz.ntmps99
       go_wp2
       go_ret
       exact ⟨by first | rfl | (simp; done) | (simp [*]; done), by repeat (first | exact Drawn0.refl _ | apply Drawn0.step)⟩
      ·rw [if_neg c46] at H
       have c46b0 : (a0 == 45) = false := beq_eq_false_iff_ne.mpr c46
       have c46b1 : (a0 != 45) = true := bne_iff_ne.mpr c46
       by_cases c47 : a0 = 43
       ·rw [if_pos c47] at H
        have c47b0 : (a0 == 43) = true := beq_iff_eq.mpr c47
        have c47b1 : (a0 != 43) = false := bne_eq_false_iff_eq.mpr c47
        clear c47
        obtain rfl := Option.some.inj H
        go_enter Tryz.func99, Tryz.ntmps99
        go_wp2
        go_ret
        exact ⟨by first | rfl | (simp; done) | (simp [*]; done), by repeat (first | exact Drawn0.refl _ | apply Drawn0.step)⟩
       ·rw [if_neg c47] at H
        have c47b0 : (a0 == 43) = false := beq_eq_false_iff_ne.mpr c47
        have c47b1 : (a0 != 43) = true := bne_iff_ne.mpr c47
        obtain rfl := Option.some.inj H
        go_enter Tryz.func99, Tryz.ntmps99
        go_wp2
        go_ret
        exact ⟨by first | rfl | (simp; done) | (simp [*]; done), by repeat (first | exact Drawn0.refl _ | apply Drawn0.step)⟩
end Go.Proofs.YtnegfigaiomehaaGreatDoor.P
end
section
namespace Go.Proofs.YtnegfigaiomehaaGreatDoor.P
open Go.RowKit Go.Proofs.YtnegfigaiomehaaGreatDoorW.PrintWords Go.Proofs.YtnegfigaiomehaaGreatDoorW.PrintLast Go.Proofs.YtnegfigaiomehaaGreatDoorW.PrintMore
attribute [local go_sem] max2_int min2_int max_two min_two max_three min_three max_four min_four
mutual
def bellowsref03_Clean.l0 : Nat → ByteArray → Int → Option (ByteArray × Int)
 | 0, _, _ => none
 | k + 1, x0, x4 => if x4 < (x0.size : Int) then (if 0 ≤ x4 then ((bellowsref03_plain.f (bt x0 x4)).bind fun t123 => (if t123 = true then (if x4 = 0 then (if (bt x0 x4) = 47 then (some ((⟨#[]⟩ : ByteArray), 5)) else (bellowsref03_Clean.l0 k x0 (wrap64 (x4 + 1)))) else (bellowsref03_Clean.l0 k x0 (wrap64 (x4 + 1)))) else (some ((⟨#[]⟩ : ByteArray), 5)))) else (none)) else (bellowsref03_Clean.l1 k x0 ([] : List ByteArray) 0 0)
def bellowsref03_Clean.l1 : Nat → ByteArray → List ByteArray → Int → Int → Option (ByteArray × Int)
 | 0, _, _, _, _ => none
 | k + 1, x0, x5, x6, x7 => if x7 ≤ (x0.size : Int) then (if x7 < (x0.size : Int) then (if 0 ≤ x7 then (bellowsref03_Clean.j2 k x0 x5 x6 x7 ((bt x0 x7) != 47)) else (none)) else (bellowsref03_Clean.j2 k x0 x5 x6 x7 false)) else (bellowsref03_Clean.l2 k x5 (⟨#[]⟩ : ByteArray) 0)
def bellowsref03_Clean.j2 : Nat → ByteArray → List ByteArray → Int → Int → Bool → Option (ByteArray × Int)
 | 0, _, _, _, _, _ => none
 | k + 1, x0, x5, x6, x7, x50 => if x50 = true then (bellowsref03_Clean.l1 k x0 x5 x6 (wrap64 (x7 + 1))) else (if 0 ≤ x6 then (if x6 ≤ x7 then (if x7 ≤ (x0.size : Int) then (if (x0.extract (x6 : Int).toNat (x7 : Int).toNat).toList = ([] : List UInt8) then (bellowsref03_Clean.j3 k x0 x5 (wrap64 (x7 + 1)) x7 (x0.extract (x6 : Int).toNat (x7 : Int).toNat) true) else (bellowsref03_Clean.j3 k x0 x5 (wrap64 (x7 + 1)) x7 (x0.extract (x6 : Int).toNat (x7 : Int).toNat) ((x0.extract (x6 : Int).toNat (x7 : Int).toNat).toList == ([46] : List UInt8)))) else (none)) else (none)) else (none))
def bellowsref03_Clean.j3 : Nat → ByteArray → List ByteArray → Int → Int → ByteArray → Bool → Option (ByteArray × Int)
 | 0, _, _, _, _, _, _ => none
 | k + 1, x0, x5, x6, x7, x8, x62 => if x62 = true then (bellowsref03_Clean.l1 k x0 x5 x6 (wrap64 (x7 + 1))) else (if x8.toList = ([46, 46] : List UInt8) then (bellowsref03_Clean.j4 k x0 x5 x6 x7 x8 ((x5.length : Int) == 0)) else (bellowsref03_Clean.j4 k x0 x5 x6 x7 x8 false))
def bellowsref03_Clean.j4 : Nat → ByteArray → List ByteArray → Int → Int → ByteArray → Bool → Option (ByteArray × Int)
 | 0, _, _, _, _, _, _ => none
 | k + 1, x0, x5, x6, x7, x8, x69 => if x69 = true then (some ((⟨#[]⟩ : ByteArray), 5)) else (if x8.toList = ([46, 46] : List UInt8) then (if 0 ≤ (wrap64 ((x5.length : Int) - 1)) then (if (wrap64 ((x5.length : Int) - 1)) ≤ (x5.length : Int) then (bellowsref03_Clean.l1 k x0 (x5.take ((wrap64 ((x5.length : Int) - 1)) : Int).toNat) x6 (wrap64 (x7 + 1))) else (none)) else (none)) else (if x5.length < 8796093022208 then (bellowsref03_Clean.l1 k x0 (x5 ++ [x8]) x6 (wrap64 (x7 + 1))) else (none)))
def bellowsref03_Clean.l2 : Nat → List ByteArray → ByteArray → Int → Option (ByteArray × Int)
 | 0, _, _, _ => none
 | k + 1, x5, x9, x10 => if x10 < (x5.length : Int) then (if x10 > 0 then (if x9.size + 1 ≤ 9223372036854775807 then (if 0 ≤ x10 then (if (x9 ++ (⟨#[47]⟩ : ByteArray)).size + (rdOf ByteArray.empty x5 x10).size ≤ 9223372036854775807 then (bellowsref03_Clean.l2 k x5 ((x9 ++ (⟨#[47]⟩ : ByteArray)) ++ (rdOf ByteArray.empty x5 x10)) (wrap64 (x10 + 1))) else (none)) else (none)) else (none)) else (if 0 ≤ x10 then (if x9.size + (rdOf ByteArray.empty x5 x10).size ≤ 9223372036854775807 then (bellowsref03_Clean.l2 k x5 (x9 ++ (rdOf ByteArray.empty x5 x10)) (wrap64 (x10 + 1))) else (none)) else (none))) else (if x9.toList = ([] : List UInt8) then (some ((⟨#[]⟩ : ByteArray), 5)) else (if (x9.size : Int) > 100 then (some ((⟨#[]⟩ : ByteArray), 3)) else (some (x9, 0))))
end
def bellowsref03_Clean.f (k : Nat) (a0 : ByteArray) : Option (ByteArray × Int) := if (a0.size : Int) > 1000 then (some ((⟨#[]⟩ : ByteArray), 3)) else (bellowsref03_Clean.l0 k a0 0)
theorem bellowsref03_Clean.mono_l : ∀ k, (∀ y0 y1, LeO (bellowsref03_Clean.l0 k y0 y1) (bellowsref03_Clean.l0 (k + 1) y0 y1)) ∧ (∀ y0 y1 y2 y3, LeO (bellowsref03_Clean.l1 k y0 y1 y2 y3) (bellowsref03_Clean.l1 (k + 1) y0 y1 y2 y3)) ∧ (∀ y0 y1 y2 y3 y4, LeO (bellowsref03_Clean.j2 k y0 y1 y2 y3 y4) (bellowsref03_Clean.j2 (k + 1) y0 y1 y2 y3 y4)) ∧ (∀ y0 y1 y2 y3 y4 y5, LeO (bellowsref03_Clean.j3 k y0 y1 y2 y3 y4 y5) (bellowsref03_Clean.j3 (k + 1) y0 y1 y2 y3 y4 y5)) ∧ (∀ y0 y1 y2 y3 y4 y5, LeO (bellowsref03_Clean.j4 k y0 y1 y2 y3 y4 y5) (bellowsref03_Clean.j4 (k + 1) y0 y1 y2 y3 y4 y5)) ∧ (∀ y0 y1 y2, LeO (bellowsref03_Clean.l2 k y0 y1 y2) (bellowsref03_Clean.l2 (k + 1) y0 y1 y2))
 | 0 => ⟨fun _ _ r h => by simp [bellowsref03_Clean.l0] at h, fun _ _ _ _ r h => by simp [bellowsref03_Clean.l1] at h, fun _ _ _ _ _ r h => by simp [bellowsref03_Clean.j2] at h, fun _ _ _ _ _ _ r h => by simp [bellowsref03_Clean.j3] at h, fun _ _ _ _ _ _ r h => by simp [bellowsref03_Clean.j4] at h, fun _ _ _ r h => by simp [bellowsref03_Clean.l2] at h⟩
 | k + 1 => by
  obtain ⟨ih0, ih1, ih2, ih3, ih4, ih5⟩ := bellowsref03_Clean.mono_l k
  refine ⟨?_, ?_, ?_, ?_, ?_, ?_⟩
  ·intro y0 y1
   unfold bellowsref03_Clean.l0
   repeat' first
   | (with_reducible exact ih0 _ _)
   | (with_reducible exact ih1 _ _ _ _)
   | (with_reducible exact ih2 _ _ _ _ _)
   | (with_reducible exact ih3 _ _ _ _ _ _)
   | (with_reducible exact ih4 _ _ _ _ _ _)
   | (with_reducible exact ih5 _ _ _)
   | (with_reducible exact LeO.refl _)
   | (with_reducible exact LeO.none _)
   | (with_reducible refine LeO.ite ?_ ?_)
   | (with_reducible refine LeO.bind ?_ (fun _ => ?_))
   | exact ih0 _ _
   | exact ih1 _ _ _ _
   | exact ih2 _ _ _ _ _
   | exact ih3 _ _ _ _ _ _
   | exact ih4 _ _ _ _ _ _
   | exact ih5 _ _ _
   | exact LeO.none _
   | refine LeO.ite ?_ ?_
   | refine LeO.bind ?_ (fun _ => ?_)
  ·intro y0 y1 y2 y3
   unfold bellowsref03_Clean.l1
   repeat' first
   | (with_reducible exact ih0 _ _)
   | (with_reducible exact ih1 _ _ _ _)
   | (with_reducible exact ih2 _ _ _ _ _)
   | (with_reducible exact ih3 _ _ _ _ _ _)
   | (with_reducible exact ih4 _ _ _ _ _ _)
   | (with_reducible exact ih5 _ _ _)
   | (with_reducible exact LeO.refl _)
   | (with_reducible exact LeO.none _)
   | (with_reducible refine LeO.ite ?_ ?_)
   | (with_reducible refine LeO.bind ?_ (fun _ => ?_))
   | exact ih0 _ _
   | exact ih1 _ _ _ _
   | exact ih2 _ _ _ _ _
   | exact ih3 _ _ _ _ _ _
   | exact ih4 _ _ _ _ _ _
   | exact ih5 _ _ _
   | exact LeO.none _
   | refine LeO.ite ?_ ?_
   | refine LeO.bind ?_ (fun _ => ?_)
  ·intro y0 y1 y2 y3 y4
   unfold bellowsref03_Clean.j2
   repeat' first
   | (with_reducible exact ih0 _ _)
   | (with_reducible exact ih1 _ _ _ _)
   | (with_reducible exact ih2 _ _ _ _ _)
   | (with_reducible exact ih3 _ _ _ _ _ _)
   | (with_reducible exact ih4 _ _ _ _ _ _)
   | (with_reducible exact ih5 _ _ _)
   | (with_reducible exact LeO.refl _)
   | (with_reducible exact LeO.none _)
   | (with_reducible refine LeO.ite ?_ ?_)
   | (with_reducible refine LeO.bind ?_ (fun _ => ?_))
   | exact ih0 _ _
   | exact ih1 _ _ _ _
   | exact ih2 _ _ _ _ _
   | exact ih3 _ _ _ _ _ _
   | exact ih4 _ _ _ _ _ _
   | exact ih5 _ _ _
   | exact LeO.none _
   | refine LeO.ite ?_ ?_
   | refine LeO.bind ?_ (fun _ => ?_)
  ·intro y0 y1 y2 y3 y4 y5
   unfold bellowsref03_Clean.j3
   repeat' first
   | (with_reducible exact ih0 _ _)
   | (with_reducible exact ih1 _ _ _ _)
   | (with_reducible exact ih2 _ _ _ _ _)
   | (with_reducible exact ih3 _ _ _ _ _ _)
   | (with_reducible exact ih4 _ _ _ _ _ _)
   | (with_reducible exact ih5 _ _ _)
   | (with_reducible exact LeO.refl _)
   | (with_reducible exact LeO.none _)
   | (with_reducible refine LeO.ite ?_ ?_)
   | (with_reducible refine LeO.bind ?_ (fun _ => ?_))
   | exact ih0 _ _
   | exact ih1 _ _ _ _
   | exact ih2 _ _ _ _ _
   | exact ih3 _ _ _ _ _ _
   | exact ih4 _ _ _ _ _ _
   | exact ih5 _ _ _
   | exact LeO.none _
   | refine LeO.ite ?_ ?_
   | refine LeO.bind ?_ (fun _ => ?_)
  ·intro y0 y1 y2 y3 y4 y5
   unfold bellowsref03_Clean.j4
   repeat' first
   | (with_reducible exact ih0 _ _)
   | (with_reducible exact ih1 _ _ _ _)
   | (with_reducible exact ih2 _ _ _ _ _)
   | (with_reducible exact ih3 _ _ _ _ _ _)
   | (with_reducible exact ih4 _ _ _ _ _ _)
   | (with_reducible exact ih5 _ _ _)
   | (with_reducible exact LeO.refl _)
   | (with_reducible exact LeO.none _)
   | (with_reducible refine LeO.ite ?_ ?_)
   | (with_reducible refine LeO.bind ?_ (fun _ => ?_))
   | exact ih0 _ _
   | exact ih1 _ _ _ _
   | exact ih2 _ _ _ _ _
   | exact ih3 _ _ _ _ _ _
   | exact ih4 _ _ _ _ _ _
   | exact ih5 _ _ _
   | exact LeO.none _
   | refine LeO.ite ?_ ?_
   | refine LeO.bind ?_ (fun _ => ?_)
  ·intro y0 y1 y2
   unfold bellowsref03_Clean.l2
   repeat' first
   | (with_reducible exact ih0 _ _)
   | (with_reducible exact ih1 _ _ _ _)
   | (with_reducible exact ih2 _ _ _ _ _)
   | (with_reducible exact ih3 _ _ _ _ _ _)
   | (with_reducible exact ih4 _ _ _ _ _ _)
   | (with_reducible exact ih5 _ _ _)
   | (with_reducible exact LeO.refl _)
   | (with_reducible exact LeO.none _)
   | (with_reducible refine LeO.ite ?_ ?_)
   | (with_reducible refine LeO.bind ?_ (fun _ => ?_))
   | exact ih0 _ _
   | exact ih1 _ _ _ _
   | exact ih2 _ _ _ _ _
   | exact ih3 _ _ _ _ _ _
   | exact ih4 _ _ _ _ _ _
   | exact ih5 _ _ _
   | exact LeO.none _
   | refine LeO.ite ?_ ?_
   | refine LeO.bind ?_ (fun _ => ?_)
theorem bellowsref03_Clean.mono : ∀ a0 k, LeO (bellowsref03_Clean.f k a0) (bellowsref03_Clean.f (k + 1) a0) := by
 intro a0 k
 obtain ⟨ih0, ih1, ih2, ih3, ih4, ih5⟩ := bellowsref03_Clean.mono_l k
 unfold bellowsref03_Clean.f
 repeat' first
   | (with_reducible exact ih0 _ _)
   | (with_reducible exact ih1 _ _ _ _)
   | (with_reducible exact ih2 _ _ _ _ _)
   | (with_reducible exact ih3 _ _ _ _ _ _)
   | (with_reducible exact ih4 _ _ _ _ _ _)
   | (with_reducible exact ih5 _ _ _)
   | (with_reducible exact LeO.refl _)
   | (with_reducible exact LeO.none _)
   | (with_reducible refine LeO.ite ?_ ?_)
   | (with_reducible refine LeO.bind ?_ (fun _ => ?_))
   | exact ih0 _ _
   | exact ih1 _ _ _ _
   | exact ih2 _ _ _ _ _
   | exact ih3 _ _ _ _ _ _
   | exact ih4 _ _ _ _ _ _
   | exact ih5 _ _ _
   | exact LeO.none _
   | refine LeO.ite ?_ ?_
   | refine LeO.bind ?_ (fun _ => ?_)
set_option maxHeartbeats 8000000 in
set_option maxRecDepth 100000 in
theorem bellowsref03_Clean.calls (k : Nat) (a0 : ByteArray) (r1 : ByteArray) (r2 : Int) (w : World) (h : bellowsref03_Clean.f k a0 = some (r1, r2)) :
  Calls Tryz.prog 70 #[.string a0] w fun e w' => e = .returned (.tuple #[.string r1, .int .i64 r2]) ∧ Below w.heap.size w w' := by
 have HB := Aside0.mk (Below.refl w.heap.size w)
 have H : (if (a0.size : Int) > 1000 then (some ((⟨#[]⟩ : ByteArray), 3)) else (bellowsref03_Clean.l0 k a0 0)) = some (r1, r2) := h
 clear h
 by_cases c2 : (a0.size : Int) > 1000
 ·rw [if_pos c2] at H
  have c2b0 : decide (1000 < (a0.size : Int)) = true := decide_eq_true c2
  have c2b1 : decide (1000 < a0.size) = true := decide_eq_true (by omega)
  clear c2
  simp only [Option.some.injEq, Prod.mk.injEq] at H
  obtain ⟨rfl, rfl⟩ := H
  go_enter Tryz.func70, Tryz.ntmps70
  go_wp2
  go_ret2
  exact ⟨by first | rfl | (simp [errW_none, errW_some] <;> rfl) | (simp [*, errW_none, errW_some] <;> rfl), by repeat (first | (with_reducible first | exact HB.out | apply below_alloc | apply pw_below_drewN | apply below_drew1) | exact HB.out)⟩
 ·rw [if_neg c2] at H
  have c2b0 : decide (1000 < (a0.size : Int)) = false := decide_eq_false c2
  have c2b1 : decide (1000 < a0.size) = false := decide_eq_false (by omega)
  clear c2
  have H' := Aside0.mk H
  clear H
  go_enter Tryz.func70, Tryz.ntmps70
  go_wp2
  go_loopg [4] k (fun kq v4 w' => ∃ (x4_1 : Int), v4 = .int .i64 x4_1 ∧ Aside0 (bellowsref03_Clean.l0 kq a0 x4_1 = some (r1, r2)) ∧ Aside0 (kq ≤ k) ∧ Aside0 (Below w.heap.size w w'))
  case atStart => exact ⟨(0), (by first | rfl | (simp; done) | (simp [*]; done)), H', ⟨Nat.le_refl _⟩, ⟨by repeat (first | (with_reducible first | exact HB.out | apply below_alloc | apply pw_below_drewN | apply below_drew1) | exact HB.out)⟩⟩
  case round =>
   clear H'
   try clear c2
   try clear c2b0
   try clear c2b1
   try clear p2
   obtain ⟨x4_1, rfl, HA, HK1, HB⟩ := hrel
   cases gk with
   | zero => exact absurd HA.out (by simp [bellowsref03_Clean.l0])
   | succ k1 =>
    have H := HA.out
    clear HA
    simp only [bellowsref03_Clean.l0] at H
    by_cases c3 : x4_1 < (a0.size : Int)
    ·rw [if_pos c3] at H
     have c3b0 : decide (x4_1 < (a0.size : Int)) = true := decide_eq_true c3
     clear c3
     by_cases c4 : 0 ≤ x4_1
     ·rw [if_pos c4] at H
      have c4b0 : decide (0 ≤ x4_1) = true := decide_eq_true c4
      clear c4
      replace H := Option.bind_eq_some_iff.mp H
      obtain ⟨t123, A60, H⟩ := H
      replace H : (if t123 = true then (if x4_1 = 0 then (if (bt a0 x4_1) = 47 then (some ((⟨#[]⟩ : ByteArray), 5)) else (bellowsref03_Clean.l0 k1 a0 (wrap64 (x4_1 + 1)))) else (bellowsref03_Clean.l0 k1 a0 (wrap64 (x4_1 + 1)))) else (some ((⟨#[]⟩ : ByteArray), 5))) = some (r1, r2) := H
      have A6 := Aside0.mk A60
      clear A60
      by_cases c7 : t123 = true
      ·subst c7
       have H1 : (if x4_1 = 0 then (if (bt a0 x4_1) = 47 then (some ((⟨#[]⟩ : ByteArray), 5)) else (bellowsref03_Clean.l0 k1 a0 (wrap64 (x4_1 + 1)))) else (bellowsref03_Clean.l0 k1 a0 (wrap64 (x4_1 + 1)))) = some (r1, r2) := by rw [if_pos rfl] at H; exact H
       clear H
       have H := H1
       clear H1
       by_cases c8 : x4_1 = 0
       ·rw [if_pos c8] at H
        have c8b0 : (x4_1 == 0) = true := beq_iff_eq.mpr c8
        have c8b1 : (x4_1 != 0) = false := bne_eq_false_iff_eq.mpr c8
        clear c8
        by_cases c10 : (bt a0 x4_1) = 47
        ·rw [if_pos c10] at H
         have c10b0 : ((bt a0 x4_1) == 47) = true := beq_iff_eq.mpr c10
         have c10b1 : ((bt a0 x4_1) != 47) = false := bne_eq_false_iff_eq.mpr c10
         clear c10
         simp only [Option.some.injEq, Prod.mk.injEq] at H
         obtain ⟨rfl, rfl⟩ := H
         have p5 : 0 ≤ (x4_1 : Int) := of_decide_eq_true (by first | (with_reducible assumption) | assumption)
         have q5 : x4_1 < (a0.size : Int) := of_decide_eq_true (by first | (with_reducible assumption) | assumption)
         have hx5 := bt_at a0 x4_1
         replace p5 := eq_true p5
         replace q5 := eq_true q5
         go_wp2_with (first | ((with_reducible refine gate_callee (f := 99) rfl ?_); refine goesL_ (some 23) rfl rfl Tryz.func99 (by kernel_rfl) rfl #[.int .u8 (bt a0 x4_1)] rfl (by (try simp only [List.map_toArray, List.map_cons, List.map_nil]); first | done | rfl | (simp only [List.length_drop, List.length_take]; rfl)) ?_; (with_reducible refine (bellowsref03_plain.calls (bt a0 x4_1) true _ A6.out).mono ?_); rintro e w' ⟨rfl, ⟨nd, rfl⟩⟩; refine ⟨_, rfl, ?_⟩; have p9 : 0 ≤ (x4_1 : Int) := of_decide_eq_true (by first | (with_reducible assumption) | assumption); have q9 : x4_1 < (a0.size : Int) := of_decide_eq_true (by first | (with_reducible assumption) | assumption); have hx9 := bt_at a0 x4_1; replace p9 := eq_true p9; replace q9 := eq_true q9))
         go_ret2
         exact ⟨by first | rfl | (simp [errW_none, errW_some] <;> rfl) | (simp [*, errW_none, errW_some] <;> rfl), by repeat (first | (with_reducible first | exact HB.out | apply below_alloc | apply pw_below_drewN | apply below_drew1) | exact HB.out)⟩
        ·rw [if_neg c10] at H
         have c10b0 : ((bt a0 x4_1) == 47) = false := beq_eq_false_iff_ne.mpr c10
         have c10b1 : ((bt a0 x4_1) != 47) = true := bne_iff_ne.mpr c10
         have H' := Aside0.mk H
         clear H
         have p5 : 0 ≤ (x4_1 : Int) := of_decide_eq_true (by first | (with_reducible assumption) | assumption)
         have q5 : x4_1 < (a0.size : Int) := of_decide_eq_true (by first | (with_reducible assumption) | assumption)
         have hx5 := bt_at a0 x4_1
         replace p5 := eq_true p5
         replace q5 := eq_true q5
         go_wp2_with (first | ((with_reducible refine gate_callee (f := 99) rfl ?_); refine goesL_ (some 23) rfl rfl Tryz.func99 (by kernel_rfl) rfl #[.int .u8 (bt a0 x4_1)] rfl (by (try simp only [List.map_toArray, List.map_cons, List.map_nil]); first | done | rfl | (simp only [List.length_drop, List.length_take]; rfl)) ?_; (with_reducible refine (bellowsref03_plain.calls (bt a0 x4_1) true _ A6.out).mono ?_); rintro e w' ⟨rfl, ⟨nd, rfl⟩⟩; refine ⟨_, rfl, ?_⟩; have p9 : 0 ≤ (x4_1 : Int) := of_decide_eq_true (by first | (with_reducible assumption) | assumption); have q9 : x4_1 < (a0.size : Int) := of_decide_eq_true (by first | (with_reducible assumption) | assumption); have hx9 := bt_at a0 x4_1; replace p9 := eq_true p9; replace q9 := eq_true q9))
         go_roundg k1
         case measure => have := HK1.out; omega
         case rel => exact ⟨(wrap64 (x4_1 + 1)), (by first | rfl | (simp; done) | (simp [*]; done)), H', ⟨by have := HK1.out; omega⟩, ⟨by repeat (first | (with_reducible first | exact HB.out | apply below_alloc | apply pw_below_drewN | apply below_drew1) | exact HB.out)⟩⟩
       ·rw [if_neg c8] at H
        have c8b0 : (x4_1 == 0) = false := beq_eq_false_iff_ne.mpr c8
        have c8b1 : (x4_1 != 0) = true := bne_iff_ne.mpr c8
        have H' := Aside0.mk H
        clear H
        have p5 : 0 ≤ (x4_1 : Int) := of_decide_eq_true (by first | (with_reducible assumption) | assumption)
        have q5 : x4_1 < (a0.size : Int) := of_decide_eq_true (by first | (with_reducible assumption) | assumption)
        have hx5 := bt_at a0 x4_1
        replace p5 := eq_true p5
        replace q5 := eq_true q5
        go_wp2_with (first | ((with_reducible refine gate_callee (f := 99) rfl ?_); refine goesL_ (some 23) rfl rfl Tryz.func99 (by kernel_rfl) rfl #[.int .u8 (bt a0 x4_1)] rfl (by (try simp only [List.map_toArray, List.map_cons, List.map_nil]); first | done | rfl | (simp only [List.length_drop, List.length_take]; rfl)) ?_; (with_reducible refine (bellowsref03_plain.calls (bt a0 x4_1) true _ A6.out).mono ?_); rintro e w' ⟨rfl, ⟨nd, rfl⟩⟩; refine ⟨_, rfl, ?_⟩))
        go_roundg k1
        case measure => have := HK1.out; omega
        case rel => exact ⟨(wrap64 (x4_1 + 1)), (by first | rfl | (simp; done) | (simp [*]; done)), H', ⟨by have := HK1.out; omega⟩, ⟨by repeat (first | (with_reducible first | exact HB.out | apply below_alloc | apply pw_below_drewN | apply below_drew1) | exact HB.out)⟩⟩
      ·replace c7 := Bool.eq_false_iff.mpr c7
       subst c7
       have H1 : (some ((⟨#[]⟩ : ByteArray), 5)) = some (r1, r2) := by rw [if_neg (show ¬ (false = true) by decide)] at H; exact H
       clear H
       have H := H1
       clear H1
       simp only [Option.some.injEq, Prod.mk.injEq] at H
       obtain ⟨rfl, rfl⟩ := H
       have p5 : 0 ≤ (x4_1 : Int) := of_decide_eq_true (by first | (with_reducible assumption) | assumption)
       have q5 : x4_1 < (a0.size : Int) := of_decide_eq_true (by first | (with_reducible assumption) | assumption)
       have hx5 := bt_at a0 x4_1
       replace p5 := eq_true p5
       replace q5 := eq_true q5
       go_wp2_with (first | ((with_reducible refine gate_callee (f := 99) rfl ?_); refine goesL_ (some 23) rfl rfl Tryz.func99 (by kernel_rfl) rfl #[.int .u8 (bt a0 x4_1)] rfl (by (try simp only [List.map_toArray, List.map_cons, List.map_nil]); first | done | rfl | (simp only [List.length_drop, List.length_take]; rfl)) ?_; (with_reducible refine (bellowsref03_plain.calls (bt a0 x4_1) false _ A6.out).mono ?_); rintro e w' ⟨rfl, ⟨nd, rfl⟩⟩; refine ⟨_, rfl, ?_⟩))
       go_ret2
       exact ⟨by first | rfl | (simp [errW_none, errW_some] <;> rfl) | (simp [*, errW_none, errW_some] <;> rfl), by repeat (first | (with_reducible first | exact HB.out | apply below_alloc | apply pw_below_drewN | apply below_drew1) | exact HB.out)⟩
     ·rw [if_neg c4] at H
      exact absurd H (by simp)
    ·rw [if_neg c3] at H
     have c3b0 : decide (x4_1 < (a0.size : Int)) = false := decide_eq_false c3
     clear c3
     have H' := Aside0.mk H
     clear H
     go_wp2
     go_loopg [5, 6, 7] k1 (fun kq v5 v6 v7 w' => ∃ (x5_2 : List ByteArray) (x6_2 : Int) (x7_2 : Int), v6 = .int .i64 x6_2 ∧ v7 = .int .i64 x7_2 ∧ Aside0 (bellowsref03_Clean.l1 kq a0 x5_2 x6_2 x7_2 = some (r1, r2)) ∧ Aside0 (kq ≤ k1) ∧ Aside0 (Kd.R Kd.string 9 w' w.heap.size (fun _ => True) v5 x5_2) ∧ Aside0 (Below w.heap.size w w'))
     case atStart => exact ⟨(([] : List ByteArray)), (0), (0), (by first | rfl | (simp; done) | (simp [*]; done)), (by first | rfl | (simp; done) | (simp [*]; done)), H', ⟨Nat.le_refl _⟩, ⟨by first | exact Kd.R_nil _ _ _ _ _ | exact Kd.N_nil _ _ _ _ _ | exact Kd.V_nil _ _ _ _ _ | exact Kd.Q_nil _ _ _ _ _ | exact Kd.S_nil _ _ _ _ _⟩, ⟨by repeat (first | (with_reducible first | exact HB.out | apply below_alloc | apply pw_below_drewN | apply below_drew1) | exact HB.out)⟩⟩
     case round =>
      clear H'
      try clear c1
      try clear c2
      try clear c2b0
      try clear c2b1
      try clear p2
      try clear c3
      try clear c3b0
      try clear c4
      try clear c4b0
      try clear p5
      try clear q5
      try clear hx5
      try clear p6
      try clear c7
      try clear c8
      try clear c8b0
      try clear c8b1
      try clear c9
      try clear p9
      try clear q9
      try clear hx9
      try clear c10
      try clear c10b0
      try clear c10b1
      try clear p2
      try clear p5
      try clear p9
      try clear q5
      try clear q9
      obtain ⟨x5_2, x6_2, x7_2, rfl, rfl, HA, HK2, HO_5, HB⟩ := hrel
      cases gk with
      | zero => exact absurd HA.out (by simp [bellowsref03_Clean.l1])
      | succ k2 =>
       have H := HA.out
       clear HA
       simp only [bellowsref03_Clean.l1] at H
       by_cases c11 : x7_2 ≤ (a0.size : Int)
       ·rw [if_pos c11] at H
        have c11b0 : decide (x7_2 ≤ (a0.size : Int)) = true := decide_eq_true c11
        clear c11
        have HC12 := Aside0.mk H
        clear H
        go_upto_region 13 with (fail)
        go_cut [50] (fun v50 wc => ∃ (kq : Nat) (x50_11 : Bool), v50 = .bool x50_11 ∧ Aside0 (bellowsref03_Clean.j2 kq a0 x5_2 x6_2 x7_2 x50_11 = some (r1, r2)) ∧ Aside0 (kq ≤ k2) ∧ Aside0 (Kd.R Kd.string 9 wc w.heap.size (fun _ => True) u5 x5_2) ∧ Aside0 (Below w.heap.size w wc))
        case first =>
         have H := HC12.out
         clear HC12
         by_cases c13 : x7_2 < (a0.size : Int)
         ·rw [if_pos c13] at H
          have c13b0 : decide (x7_2 < (a0.size : Int)) = true := decide_eq_true c13
          clear c13
          (first | rw [c13b0] | (simp only [i64_w, i32_w]; rw [c13b0]) | skip)
          by_cases c14 : 0 ≤ x7_2
          ·rw [if_pos c14] at H
           have c14b0 : decide (0 ≤ x7_2) = true := decide_eq_true c14
           clear c14
           have H' := Aside0.mk H
           clear H
           have p15 : 0 ≤ (x7_2 : Int) := of_decide_eq_true (by first | (with_reducible assumption) | assumption)
           have q15 : x7_2 < (a0.size : Int) := of_decide_eq_true (by first | (with_reducible assumption) | assumption)
           have hx15 := bt_at a0 x7_2
           replace p15 := eq_true p15
           replace q15 := eq_true q15
           go_wp2
           go_meet
           case rel => exact ⟨_, (((bt a0 x7_2) != 47)), (by first | rfl | (simp; done) | (simp [*]; done)), H', ⟨by have := HK1.out; have := HK2.out; first | omega | exact Nat.le_refl _⟩, ⟨by (with_reducible repeat (first | apply Kd.R_alloc | apply Kd.R_drewN | apply Kd.R_drew)); exact HO_5.out⟩, ⟨by repeat (first | (with_reducible first | exact HB.out | apply below_alloc | apply pw_below_drewN | apply below_drew1) | exact HB.out)⟩⟩
          ·rw [if_neg c14] at H
           exact absurd H (by simp)
         ·rw [if_neg c13] at H
          have c13b0 : decide (x7_2 < (a0.size : Int)) = false := decide_eq_false c13
          clear c13
          (first | rw [c13b0] | (simp only [i64_w, i32_w]; rw [c13b0]) | skip)
          have H' := Aside0.mk H
          clear H
          go_wp2
          go_meet
          case rel => exact ⟨_, (false), (by first | rfl | (simp; done) | (simp [*]; done)), H', ⟨by have := HK1.out; have := HK2.out; first | omega | exact Nat.le_refl _⟩, ⟨by (with_reducible repeat (first | apply Kd.R_alloc | apply Kd.R_drewN | apply Kd.R_drew)); exact HO_5.out⟩, ⟨by repeat (first | (with_reducible first | exact HB.out | apply below_alloc | apply pw_below_drewN | apply below_drew1) | exact HB.out)⟩⟩
        case rest =>
         clear HC12
         try clear c1
         try clear p1
         try clear q1
         try clear hx1
         try clear c2
         try clear c2b0
         try clear c2b1
         try clear p2
         try clear c3
         try clear c3b0
         try clear c4
         try clear c4b0
         try clear p5
         try clear q5
         try clear hx5
         try clear p6
         try clear c7
         try clear c8
         try clear c8b0
         try clear c8b1
         try clear c9
         try clear p9
         try clear q9
         try clear hx9
         try clear c10
         try clear c10b0
         try clear c10b1
         try clear c11
         try clear c11b0
         try clear c13
         try clear c13b0
         try clear c14
         try clear c14b0
         try clear p15
         try clear q15
         try clear hx15
         try clear p15
         try clear p2
         try clear p5
         try clear p6
         try clear p9
         try clear q15
         try clear q5
         try clear q9
         obtain ⟨kq, x50_11, rfl, HA, HJ11, HO_5, HB⟩ := hcut
         cases kq with
         | zero => exact absurd HA.out (by simp [bellowsref03_Clean.j2])
         | succ kj11 =>
          have H := HA.out
          clear HA
          simp only [bellowsref03_Clean.j2] at H
          by_cases c16 : x50_11 = true
          ·subst c16
           have H1 : (bellowsref03_Clean.l1 kj11 a0 x5_2 x6_2 (wrap64 (x7_2 + 1))) = some (r1, r2) := by rw [if_pos rfl] at H; exact H
           clear H
           have H := H1
           clear H1
           have H' := Aside0.mk H
           clear H
           go_wp2
           go_roundg kj11
           case measure => have := HK1.out; have := HK2.out; have := HJ11.out; omega
           case rel => exact ⟨(x5_2), (x6_2), (wrap64 (x7_2 + 1)), (by first | rfl | (simp; done) | (simp [*]; done)), (by first | rfl | (simp; done) | (simp [*]; done)), H', ⟨by have := HK1.out; have := HK2.out; have := HJ11.out; omega⟩, ⟨by (with_reducible repeat (first | apply Kd.R_alloc | apply Kd.R_drewN | apply Kd.R_drew)); exact HO_5.out⟩, ⟨by repeat (first | (with_reducible first | exact HB.out | apply below_alloc | apply pw_below_drewN | apply below_drew1) | exact HB.out)⟩⟩
          ·replace c16 := Bool.eq_false_iff.mpr c16
           subst c16
           have H1 : (if 0 ≤ x6_2 then (if x6_2 ≤ x7_2 then (if x7_2 ≤ (a0.size : Int) then (if (a0.extract (x6_2 : Int).toNat (x7_2 : Int).toNat).toList = ([] : List UInt8) then (bellowsref03_Clean.j3 kj11 a0 x5_2 (wrap64 (x7_2 + 1)) x7_2 (a0.extract (x6_2 : Int).toNat (x7_2 : Int).toNat) true) else (bellowsref03_Clean.j3 kj11 a0 x5_2 (wrap64 (x7_2 + 1)) x7_2 (a0.extract (x6_2 : Int).toNat (x7_2 : Int).toNat) ((a0.extract (x6_2 : Int).toNat (x7_2 : Int).toNat).toList == ([46] : List UInt8)))) else (none)) else (none)) else (none)) = some (r1, r2) := by rw [if_neg (show ¬ (false = true) by decide)] at H; exact H
           clear H
           have H := H1
           clear H1
           by_cases c17 : 0 ≤ x6_2
           ·rw [if_pos c17] at H
            have c17b0 := eq_true c17
            have c17b1 : decide (0 ≤ x6_2) = true := decide_eq_true c17
            clear c17
            by_cases c18 : x6_2 ≤ x7_2
            ·rw [if_pos c18] at H
             have c18b0 := eq_true c18
             have c18b1 : decide (x6_2 ≤ x7_2) = true := decide_eq_true c18
             clear c18
             by_cases c19 : x7_2 ≤ (a0.size : Int)
             ·rw [if_pos c19] at H
              have c19b0 := eq_true c19
              have c19b1 : decide (x7_2 ≤ (a0.size : Int)) = true := decide_eq_true c19
              clear c19
              have HC20 := Aside0.mk H
              clear H
              go_upto_region 16 with (fail)
              go_cut [62] (fun v62 wc => ∃ (kq : Nat) (x62_19 : Bool), v62 = .bool x62_19 ∧ Aside0 (bellowsref03_Clean.j3 kq a0 x5_2 (wrap64 (x7_2 + 1)) x7_2 (a0.extract (x6_2 : Int).toNat (x7_2 : Int).toNat) x62_19 = some (r1, r2)) ∧ Aside0 (kq ≤ kj11) ∧ Aside0 (Kd.R Kd.string 9 wc w.heap.size (fun _ => True) u5 x5_2) ∧ Aside0 (Below w.heap.size w wc))
              case first =>
               have H := HC20.out
               clear HC20
               by_cases c21 : (a0.extract (x6_2 : Int).toNat (x7_2 : Int).toNat).toList = ([] : List UInt8)
               ·rw [if_pos c21] at H
                have c21b0 : ((a0.extract (x6_2 : Int).toNat (x7_2 : Int).toNat).toList == ([] : List UInt8)) = true := beq_iff_eq.mpr c21
                have c21b1 : ((a0.extract (x6_2 : Int).toNat (x7_2 : Int).toNat).toList != ([] : List UInt8)) = false := bne_eq_false_iff_eq.mpr c21
                clear c21
                (first | rw [c21b0] | (simp only [i64_w, i32_w]; rw [c21b0]) | skip)
                have H' := Aside0.mk H
                clear H
                go_wp2
                go_meet
                case rel => exact ⟨_, (true), (by first | rfl | (simp; done) | (simp [*]; done)), H', ⟨by have := HK1.out; have := HK2.out; have := HJ11.out; first | omega | exact Nat.le_refl _⟩, ⟨by (with_reducible repeat (first | apply Kd.R_alloc | apply Kd.R_drewN | apply Kd.R_drew)); exact HO_5.out⟩, ⟨by repeat (first | (with_reducible first | exact HB.out | apply below_alloc | apply pw_below_drewN | apply below_drew1) | exact HB.out)⟩⟩
               ·rw [if_neg c21] at H
                have c21b0 : ((a0.extract (x6_2 : Int).toNat (x7_2 : Int).toNat).toList == ([] : List UInt8)) = false := beq_eq_false_iff_ne.mpr c21
                have c21b1 : ((a0.extract (x6_2 : Int).toNat (x7_2 : Int).toNat).toList != ([] : List UInt8)) = true := bne_iff_ne.mpr c21
                (first | rw [c21b0] | (simp only [i64_w, i32_w]; rw [c21b0]) | skip)
                have H' := Aside0.mk H
                clear H
                go_wp2
                go_meet
                case rel => exact ⟨_, (((a0.extract (x6_2 : Int).toNat (x7_2 : Int).toNat).toList == ([46] : List UInt8))), (by first | rfl | (simp; done) | (simp [*]; done)), H', ⟨by have := HK1.out; have := HK2.out; have := HJ11.out; first | omega | exact Nat.le_refl _⟩, ⟨by (with_reducible repeat (first | apply Kd.R_alloc | apply Kd.R_drewN | apply Kd.R_drew)); exact HO_5.out⟩, ⟨by repeat (first | (with_reducible first | exact HB.out | apply below_alloc | apply pw_below_drewN | apply below_drew1) | exact HB.out)⟩⟩
              case rest =>
               clear HC20
               try clear c1
               try clear p1
               try clear q1
               try clear hx1
               try clear c2
               try clear c2b0
               try clear c2b1
               try clear p2
               try clear c3
               try clear c3b0
               try clear c4
               try clear c4b0
               try clear p5
               try clear q5
               try clear hx5
               try clear p6
               try clear c7
               try clear c8
               try clear c8b0
               try clear c8b1
               try clear c9
               try clear p9
               try clear q9
               try clear hx9
               try clear c10
               try clear c10b0
               try clear c10b1
               try clear c11
               try clear c11b0
               try clear c13
               try clear c13b0
               try clear c14
               try clear c14b0
               try clear p15
               try clear q15
               try clear hx15
               try clear c16
               try clear c17
               try clear c17b0
               try clear c17b1
               try clear c18
               try clear c18b0
               try clear c18b1
               try clear c19
               try clear c19b0
               try clear c19b1
               try clear c21
               try clear c21b0
               try clear c21b1
               try clear p1
               try clear p15
               try clear p2
               try clear p5
               try clear p6
               try clear p9
               try clear q1
               try clear q15
               try clear q5
               try clear q9
               obtain ⟨kq, x62_19, rfl, HA, HJ19, HO_5, HB⟩ := hcut
               cases kq with
               | zero => exact absurd HA.out (by simp [bellowsref03_Clean.j3])
               | succ kj19 =>
                have H := HA.out
                clear HA
                simp only [bellowsref03_Clean.j3] at H
                by_cases c22 : x62_19 = true
                ·subst c22
                 have H1 : (bellowsref03_Clean.l1 kj19 a0 x5_2 (wrap64 (x7_2 + 1)) (wrap64 (x7_2 + 1))) = some (r1, r2) := by rw [if_pos rfl] at H; exact H
                 clear H
                 have H := H1
                 clear H1
                 have H' := Aside0.mk H
                 clear H
                 go_wp2
                 go_roundg kj19
                 case measure => have := HK1.out; have := HK2.out; have := HJ11.out; have := HJ19.out; omega
                 case rel => exact ⟨(x5_2), ((wrap64 (x7_2 + 1))), (wrap64 (x7_2 + 1)), (by first | rfl | (simp; done) | (simp [*]; done)), (by first | rfl | (simp; done) | (simp [*]; done)), H', ⟨by have := HK1.out; have := HK2.out; have := HJ11.out; have := HJ19.out; omega⟩, ⟨by (with_reducible repeat (first | apply Kd.R_alloc | apply Kd.R_drewN | apply Kd.R_drew)); exact HO_5.out⟩, ⟨by repeat (first | (with_reducible first | exact HB.out | apply below_alloc | apply pw_below_drewN | apply below_drew1) | exact HB.out)⟩⟩
                ·replace c22 := Bool.eq_false_iff.mpr c22
                 subst c22
                 have H1 : (if (a0.extract (x6_2 : Int).toNat (x7_2 : Int).toNat).toList = ([46, 46] : List UInt8) then (bellowsref03_Clean.j4 kj19 a0 x5_2 (wrap64 (x7_2 + 1)) x7_2 (a0.extract (x6_2 : Int).toNat (x7_2 : Int).toNat) ((x5_2.length : Int) == 0)) else (bellowsref03_Clean.j4 kj19 a0 x5_2 (wrap64 (x7_2 + 1)) x7_2 (a0.extract (x6_2 : Int).toNat (x7_2 : Int).toNat) false)) = some (r1, r2) := by rw [if_neg (show ¬ (false = true) by decide)] at H; exact H
                 clear H
                 have H := H1
                 clear H1
                 have HC23 := Aside0.mk H
                 clear H
                 go_upto_region 17 with (fail)
                 go_cut [69] (fun v69 wc => ∃ (kq : Nat) (x69_22 : Bool), v69 = .bool x69_22 ∧ Aside0 (bellowsref03_Clean.j4 kq a0 x5_2 (wrap64 (x7_2 + 1)) x7_2 (a0.extract (x6_2 : Int).toNat (x7_2 : Int).toNat) x69_22 = some (r1, r2)) ∧ Aside0 (kq ≤ kj19) ∧ Aside0 (Kd.R Kd.string 9 wc w.heap.size (fun _ => True) u5 x5_2) ∧ Aside0 (Below w.heap.size w wc))
                 case first =>
                  have H := HC23.out
                  clear HC23
                  by_cases c24 : (a0.extract (x6_2 : Int).toNat (x7_2 : Int).toNat).toList = ([46, 46] : List UInt8)
                  ·rw [if_pos c24] at H
                   have c24b0 : ((a0.extract (x6_2 : Int).toNat (x7_2 : Int).toNat).toList == ([46, 46] : List UInt8)) = true := beq_iff_eq.mpr c24
                   have c24b1 : ((a0.extract (x6_2 : Int).toNat (x7_2 : Int).toNat).toList != ([46, 46] : List UInt8)) = false := bne_eq_false_iff_eq.mpr c24
                   clear c24
                   (first | rw [c24b0] | (simp only [i64_w, i32_w]; rw [c24b0]) | skip)
                   have H' := Aside0.mk H
                   clear H
                   obtain ⟨Ao25, co25, eo25⟩ := Kd.R_slice HO_5.out
                   subst eo25
                   go_wp2
                   go_meet
                   case rel => exact ⟨_, (((x5_2.length : Int) == 0)), (by first | rfl | (simp; done) | (simp [*]; done)), H', ⟨by have := HK1.out; have := HK2.out; have := HJ11.out; have := HJ19.out; first | omega | exact Nat.le_refl _⟩, ⟨by (with_reducible repeat (first | apply Kd.R_alloc | apply Kd.R_drewN | apply Kd.R_drew)); exact HO_5.out⟩, ⟨by repeat (first | (with_reducible first | exact HB.out | apply below_alloc | apply pw_below_drewN | apply below_drew1) | exact HB.out)⟩⟩
                  ·rw [if_neg c24] at H
                   have c24b0 : ((a0.extract (x6_2 : Int).toNat (x7_2 : Int).toNat).toList == ([46, 46] : List UInt8)) = false := beq_eq_false_iff_ne.mpr c24
                   have c24b1 : ((a0.extract (x6_2 : Int).toNat (x7_2 : Int).toNat).toList != ([46, 46] : List UInt8)) = true := bne_iff_ne.mpr c24
                   (first | rw [c24b0] | (simp only [i64_w, i32_w]; rw [c24b0]) | skip)
                   have H' := Aside0.mk H
                   clear H
                   go_wp2
                   go_meet
                   case rel => exact ⟨_, (false), (by first | rfl | (simp; done) | (simp [*]; done)), H', ⟨by have := HK1.out; have := HK2.out; have := HJ11.out; have := HJ19.out; first | omega | exact Nat.le_refl _⟩, ⟨by (with_reducible repeat (first | apply Kd.R_alloc | apply Kd.R_drewN | apply Kd.R_drew)); exact HO_5.out⟩, ⟨by repeat (first | (with_reducible first | exact HB.out | apply below_alloc | apply pw_below_drewN | apply below_drew1) | exact HB.out)⟩⟩
                 case rest =>
                  clear HC23
                  try clear c1
                  try clear p1
                  try clear q1
                  try clear hx1
                  try clear c2
                  try clear c2b0
                  try clear c2b1
                  try clear p2
                  try clear c3
                  try clear c3b0
                  try clear c4
                  try clear c4b0
                  try clear p5
                  try clear q5
                  try clear hx5
                  try clear p6
                  try clear c7
                  try clear c8
                  try clear c8b0
                  try clear c8b1
                  try clear c9
                  try clear p9
                  try clear q9
                  try clear hx9
                  try clear c10
                  try clear c10b0
                  try clear c10b1
                  try clear c11
                  try clear c11b0
                  try clear c13
                  try clear c13b0
                  try clear c14
                  try clear c14b0
                  try clear p15
                  try clear q15
                  try clear hx15
                  try clear c16
                  try clear c17
                  try clear c17b0
                  try clear c17b1
                  try clear c18
                  try clear c18b0
                  try clear c18b1
                  try clear c19
                  try clear c19b0
                  try clear c19b1
                  try clear c21
                  try clear c21b0
                  try clear c21b1
                  try clear c22
                  try clear c24
                  try clear c24b0
                  try clear c24b1
                  try clear p1
                  try clear p15
                  try clear p2
                  try clear p5
                  try clear p6
                  try clear p9
                  try clear q1
                  try clear q15
                  try clear q5
                  try clear q9
                  obtain ⟨kq, x69_22, rfl, HA, HJ22, HO_5, HB⟩ := hcut
                  cases kq with
                  | zero => exact absurd HA.out (by simp [bellowsref03_Clean.j4])
                  | succ kj22 =>
                   have H := HA.out
                   clear HA
                   simp only [bellowsref03_Clean.j4] at H
                   by_cases c26 : x69_22 = true
                   ·subst c26
                    have H1 : (some ((⟨#[]⟩ : ByteArray), 5)) = some (r1, r2) := by rw [if_pos rfl] at H; exact H
                    clear H
                    have H := H1
                    clear H1
                    simp only [Option.some.injEq, Prod.mk.injEq] at H
                    obtain ⟨rfl, rfl⟩ := H
                    go_wp2
                    go_ret2
                    exact ⟨by first | rfl | (simp [errW_none, errW_some] <;> rfl) | (simp [*, errW_none, errW_some] <;> rfl), by repeat (first | (with_reducible first | exact HB.out | apply below_alloc | apply pw_below_drewN | apply below_drew1) | exact HB.out)⟩
                   ·replace c26 := Bool.eq_false_iff.mpr c26
                    subst c26
                    have H1 : (if (a0.extract (x6_2 : Int).toNat (x7_2 : Int).toNat).toList = ([46, 46] : List UInt8) then (if 0 ≤ (wrap64 ((x5_2.length : Int) - 1)) then (if (wrap64 ((x5_2.length : Int) - 1)) ≤ (x5_2.length : Int) then (bellowsref03_Clean.l1 kj22 a0 (x5_2.take ((wrap64 ((x5_2.length : Int) - 1)) : Int).toNat) (wrap64 (x7_2 + 1)) (wrap64 (x7_2 + 1))) else (none)) else (none)) else (if x5_2.length < 8796093022208 then (bellowsref03_Clean.l1 kj22 a0 (x5_2 ++ [(a0.extract (x6_2 : Int).toNat (x7_2 : Int).toNat)]) (wrap64 (x7_2 + 1)) (wrap64 (x7_2 + 1))) else (none))) = some (r1, r2) := by rw [if_neg (show ¬ (false = true) by decide)] at H; exact H
                    clear H
                    have H := H1
                    clear H1
                    by_cases c27 : (a0.extract (x6_2 : Int).toNat (x7_2 : Int).toNat).toList = ([46, 46] : List UInt8)
                    ·rw [if_pos c27] at H
                     have c27b0 : ((a0.extract (x6_2 : Int).toNat (x7_2 : Int).toNat).toList == ([46, 46] : List UInt8)) = true := beq_iff_eq.mpr c27
                     have c27b1 : ((a0.extract (x6_2 : Int).toNat (x7_2 : Int).toNat).toList != ([46, 46] : List UInt8)) = false := bne_eq_false_iff_eq.mpr c27
                     clear c27
                     obtain ⟨ji28, hji28⟩ : ∃ j_ : Int, (wrap64 ((x5_2.length : Int) - 1)) = j_ := ⟨_, rfl⟩
                     replace H : (if 0 ≤ (ji28) then (if (ji28) ≤ (x5_2.length : Int) then (bellowsref03_Clean.l1 kj22 a0 (x5_2.take ((ji28) : Int).toNat) (wrap64 (x7_2 + 1)) (wrap64 (x7_2 + 1))) else (none)) else (none)) = some (r1, r2) := by first | (rw [hji28] at H; exact H) | (simp only [hji28] at H ⊢; exact H)
                     have hji28w : (IntKind.i64.wrap ((x5_2.length : Int) - 1)) = ji28 := (i64_w _).trans hji28
                     by_cases c29 : 0 ≤ (ji28)
                     ·rw [if_pos c29] at H
                      have c29b0 := eq_true c29
                      have c29b1 : decide (0 ≤ (ji28)) = true := decide_eq_true c29
                      clear c29
                      by_cases c30 : (ji28) ≤ (x5_2.length : Int)
                      ·rw [if_pos c30] at H
                       have c30b0 := eq_true c30
                       have c30b1 : decide ((ji28) ≤ (x5_2.length : Int)) = true := decide_eq_true c30
                       clear c30
                       obtain ⟨y124, hy124⟩ : ∃ y_ : List ByteArray, y_ = (x5_2.take ((ji28) : Int).toNat) := ⟨_, rfl⟩
                       replace H : (bellowsref03_Clean.l1 kj22 a0 y124 (wrap64 (x7_2 + 1)) (wrap64 (x7_2 + 1))) = some (r1, r2) := by first | (rw [hy124]; with_reducible exact H) | (have H2_ := (Option.bind_some _ _).symm.trans H; rw [hy124]; with_reducible exact H2_) | (have H2_ := (Option.bind_some _ _).symm.trans H; with_reducible exact H2_) | with_reducible exact H | (rw [hy124]; exact H) | exact H
                       have Ny124 := Aside0.mk hy124
                       clear hy124
                       have H' := Aside0.mk H
                       clear H
                       obtain ⟨Ao31, co31, eo31⟩ := Kd.R_slice HO_5.out
                       subst eo31
                       have q32 : ((ji28) : Int) ≤ ((x5_2.length : Int) : Int) := of_decide_eq_true (by first | (with_reducible assumption) | assumption)
                       obtain ⟨i032, hi032, _, hsz32, _⟩ := info_parts info9
                       have hcut32 := cut_to (P := Tryz.prog) 23 9 .i64 Tryz.underlying23 hi032 Ao31 x5_2.length co31 (ji28) (of_decide_eq_true (by first | (with_reducible assumption) | assumption)) q32 (Kd.R_reads' HO_5.out).2.1
                       have hr32 := Kd.R_take (m := ((ji28) : Int).toNat) HO_5.out (by omega)
                       have hy32 : y124.length = ((ji28) : Int).toNat := (by rw [Ny124.out, List.length_take]; omega)
                       rw [← Ny124.out] at hr32
                       rw [← hy32] at hr32 hcut32
                       clear hy32 hi032 hsz32 HO_5
                       have HO126 := Aside0.mk hr32
                       clear hr32
                       replace q32 := eq_true q32
                       go_wp2
                       go_roundg kj22
                       case measure => have := HK1.out; have := HK2.out; have := HJ11.out; have := HJ19.out; have := HJ22.out; omega
                       case rel => exact ⟨(y124), ((wrap64 (x7_2 + 1))), (wrap64 (x7_2 + 1)), (by first | rfl | (simp; done) | (simp [*]; done)), (by first | rfl | (simp; done) | (simp [*]; done)), H', ⟨by have := HK1.out; have := HK2.out; have := HJ11.out; have := HJ19.out; have := HJ22.out; omega⟩, ⟨by (with_reducible repeat (first | apply Kd.R_alloc | apply Kd.R_drewN | apply Kd.R_drew)); exact HO126.out⟩, ⟨by repeat (first | (with_reducible first | exact HB.out | apply below_alloc | apply pw_below_drewN | apply below_drew1) | exact HB.out)⟩⟩
                      ·rw [if_neg c30] at H
                       exact absurd H (by simp)
                     ·rw [if_neg c29] at H
                      exact absurd H (by simp)
                    ·rw [if_neg c27] at H
                     have c27b0 : ((a0.extract (x6_2 : Int).toNat (x7_2 : Int).toNat).toList == ([46, 46] : List UInt8)) = false := beq_eq_false_iff_ne.mpr c27
                     have c27b1 : ((a0.extract (x6_2 : Int).toNat (x7_2 : Int).toNat).toList != ([46, 46] : List UInt8)) = true := bne_iff_ne.mpr c27
                     by_cases c33 : x5_2.length < 8796093022208
                     ·rw [if_pos c33] at H
                      have LMc33 := Aside0.mk c33
                      clear c33
                      obtain ⟨y127, hy127⟩ : ∃ y_ : List ByteArray, y_ = (x5_2 ++ [(a0.extract (x6_2 : Int).toNat (x7_2 : Int).toNat)]) := ⟨_, rfl⟩
                      replace H : (bellowsref03_Clean.l1 kj22 a0 y127 (wrap64 (x7_2 + 1)) (wrap64 (x7_2 + 1))) = some (r1, r2) := by first | (rw [hy127]; with_reducible exact H) | (have H2_ := (Option.bind_some _ _).symm.trans H; rw [hy127]; with_reducible exact H2_) | (have H2_ := (Option.bind_some _ _).symm.trans H; with_reducible exact H2_) | with_reducible exact H | (rw [hy127]; exact H) | exact H
                      have Ny127 := Aside0.mk hy127
                      clear hy127
                      have H' := Aside0.mk H
                      clear H
                      go_wp2_with (first | ((with_reducible refine gate_builtin (b := .append) (xs := #[.tmp 77, .tmp 79]) rfl ?_); (try (refine gate_guard (by rfl) ?_; dsimp only)); at_builtin; refine Kd.R_append Kd.string (w0 := w) w.heap.size rfl (.tmp 77) (.tmp 79) 23 9 (.string ⟨#[]⟩) 16 rfl Tryz.underlying23 info9 rfl (by decide) (by omega) u5 x5_2 (a0.extract (x6_2 : Int).toNat (x7_2 : Int).toNat) [.string (a0.extract (x6_2 : Int).toNat (x7_2 : Int).toNat)] (fun _ => True) (fun _ => False) rfl rfl ?aP (fun _ hk => hk.elim) ?aF ?aO ?aB ?aS ?aL ?_; (case aP => exact rfl); (case aB => exact (by repeat (first | (with_reducible first | exact HB.out | apply below_alloc | apply pw_below_drewN | apply below_drew1) | exact HB.out))); (case aF => exact (fun _ _ => trivial)); (case aO => exact (by (with_reducible repeat (first | apply Kd.R_alloc | apply Kd.R_drewN | apply Kd.R_drew)); exact HO_5.out)); (case aS => exact (below_size (by repeat (first | (with_reducible first | exact HB.out | apply below_alloc | apply pw_below_drewN | apply below_drew1) | exact HB.out)))); (case aL => have := LMc33.out; omega); intro v128 w34 ho hb hg hat; rw [← Ny127.out] at ho; have n0_ := Aside0.mk (hb); have n1_ := Aside0.mk (ho); clear HB; clear HO_5; have HB := n0_; have HO129 := n1_; clear n0_ n1_; clear ho hb hg hat))
                      go_roundg kj22
                      case measure => have := HK1.out; have := HK2.out; have := HJ11.out; have := HJ19.out; have := HJ22.out; omega
                      case rel => exact ⟨(y127), ((wrap64 (x7_2 + 1))), (wrap64 (x7_2 + 1)), (by first | rfl | (simp; done) | (simp [*]; done)), (by first | rfl | (simp; done) | (simp [*]; done)), H', ⟨by have := HK1.out; have := HK2.out; have := HJ11.out; have := HJ19.out; have := HJ22.out; omega⟩, ⟨by (with_reducible repeat (first | apply Kd.R_alloc | apply Kd.R_drewN | apply Kd.R_drew)); exact HO129.out⟩, ⟨by repeat (first | (with_reducible first | exact HB.out | apply below_alloc | apply pw_below_drewN | apply below_drew1) | exact HB.out)⟩⟩
                     ·rw [if_neg c33] at H
                      exact absurd H (by simp)
             ·rw [if_neg c19] at H
              exact absurd H (by simp)
            ·rw [if_neg c18] at H
             exact absurd H (by simp)
           ·rw [if_neg c17] at H
            exact absurd H (by simp)
       ·rw [if_neg c11] at H
        have c11b0 : decide (x7_2 ≤ (a0.size : Int)) = false := decide_eq_false c11
        clear c11
        have H' := Aside0.mk H
        clear H
        go_wp2
        go_loopg [9, 10] k2 (fun kq v9 v10 w' => ∃ (x9_3 : ByteArray) (x10_3 : Int), v9 = .string x9_3 ∧ v10 = .int .i64 x10_3 ∧ Aside0 (bellowsref03_Clean.l2 kq x5_2 x9_3 x10_3 = some (r1, r2)) ∧ Aside0 (kq ≤ k2) ∧ Aside0 (Kd.R Kd.string 9 w' w.heap.size (fun _ => True) u5 x5_2) ∧ Aside0 (Below w.heap.size w w'))
        case atStart => exact ⟨((⟨#[]⟩ : ByteArray)), (0), (by first | rfl | (simp; done) | (simp [*]; done)), (by first | rfl | (simp; done) | (simp [*]; done)), H', ⟨Nat.le_refl _⟩, ⟨by (with_reducible repeat (first | apply Kd.R_alloc | apply Kd.R_drewN | apply Kd.R_drew)); exact HO_5.out⟩, ⟨by repeat (first | (with_reducible first | exact HB.out | apply below_alloc | apply pw_below_drewN | apply below_drew1) | exact HB.out)⟩⟩
        case round =>
         clear H'
         try clear c1
         try clear p1
         try clear q1
         try clear hx1
         try clear c2
         try clear c2b0
         try clear c2b1
         try clear p2
         try clear c3
         try clear c3b0
         try clear q3
         try clear c4
         try clear c4b0
         try clear p5
         try clear q5
         try clear hx5
         try clear p6
         try clear c7
         try clear c8
         try clear c8b0
         try clear c8b1
         try clear c9
         try clear p9
         try clear q9
         try clear hx9
         try clear c10
         try clear c10b0
         try clear c10b1
         try clear c11
         try clear c11b0
         try clear c13
         try clear c13b0
         try clear c14
         try clear c14b0
         try clear p15
         try clear q15
         try clear hx15
         try clear c16
         try clear c17
         try clear c17b0
         try clear c17b1
         try clear c18
         try clear c18b0
         try clear c18b1
         try clear c19
         try clear c19b0
         try clear c19b1
         try clear c21
         try clear c21b0
         try clear c21b1
         try clear c22
         try clear c24
         try clear c24b0
         try clear c24b1
         try clear c26
         try clear c27
         try clear c27b0
         try clear c27b1
         try clear c29
         try clear c29b0
         try clear c29b1
         try clear c30
         try clear c30b0
         try clear c30b1
         try clear q32
         try clear c33
         try clear p1
         try clear p15
         try clear p2
         try clear p5
         try clear p6
         try clear p9
         try clear q1
         try clear q15
         try clear q32
         try clear q5
         try clear q9
         obtain ⟨x9_3, x10_3, rfl, rfl, HA, HK3, HO_5, HB⟩ := hrel
         cases gk with
         | zero => exact absurd HA.out (by simp [bellowsref03_Clean.l2])
         | succ k3 =>
          have H := HA.out
          clear HA
          simp only [bellowsref03_Clean.l2] at H
          by_cases c35 : x10_3 < (x5_2.length : Int)
          ·rw [if_pos c35] at H
           have c35b0 : decide (x10_3 < (x5_2.length : Int)) = true := decide_eq_true c35
           clear c35
           by_cases c36 : x10_3 > 0
           ·rw [if_pos c36] at H
            have c36b0 : decide (0 < x10_3) = true := decide_eq_true c36
            clear c36
            by_cases c37 : x9_3.size + 1 ≤ 9223372036854775807
            ·rw [if_pos c37] at H
             have c37b0 := eq_true c37
             have c37b1 : decide (x9_3.size + 1 ≤ 9223372036854775807) = true := decide_eq_true c37
             try have c37b2 : (9223372036854775807 < x9_3.size + 1) = False := eq_false (Nat.not_lt.2 c37)
             by_cases c38 : 0 ≤ x10_3
             ·rw [if_pos c38] at H
              have c38b0 : decide (0 ≤ x10_3) = true := decide_eq_true c38
              clear c38
              by_cases c39 : (x9_3 ++ (⟨#[47]⟩ : ByteArray)).size + (rdOf ByteArray.empty x5_2 x10_3).size ≤ 9223372036854775807
              ·rw [if_pos c39] at H
               have c39b0 := eq_true c39
               have c39b1 : decide ((x9_3 ++ (⟨#[47]⟩ : ByteArray)).size + (rdOf ByteArray.empty x5_2 x10_3).size ≤ 9223372036854775807) = true := decide_eq_true c39
               try have c39b2 : (9223372036854775807 < (x9_3 ++ (⟨#[47]⟩ : ByteArray)).size + (rdOf ByteArray.empty x5_2 x10_3).size) = False := eq_false (Nat.not_lt.2 c39)
               have H' := Aside0.mk H
               clear H
               obtain ⟨Ao40, co40, eo40⟩ := Kd.R_slice HO_5.out
               subst eo40
               have p130 : 0 ≤ (x10_3 : Int) := of_decide_eq_true (by first | (with_reducible assumption) | assumption)
               have q130 : x10_3 < (x5_2.length : Int) := of_decide_eq_true (by first | (with_reducible assumption) | assumption)
               obtain ⟨ad130, e130, hx130_0⟩ := Kd.at_string (Kd.R_reads' HO_5.out).2.2 x10_3 p130 q130
               cases e130
               replace p130 := eq_true p130
               replace q130 := eq_true q130
               go_wp2
               go_roundg k3
               case measure => have := HK1.out; have := HK2.out; have := HK3.out; omega
               case rel => exact ⟨((x9_3 ++ (⟨#[47]⟩ : ByteArray)) ++ (rdOf ByteArray.empty x5_2 x10_3)), (wrap64 (x10_3 + 1)), (by first | rfl | (simp; done) | (simp [*]; done)), (by first | rfl | (simp; done) | (simp [*]; done)), H', ⟨by have := HK1.out; have := HK2.out; have := HK3.out; omega⟩, ⟨by (with_reducible repeat (first | apply Kd.R_alloc | apply Kd.R_drewN | apply Kd.R_drew)); exact HO_5.out⟩, ⟨by repeat (first | (with_reducible first | exact HB.out | apply below_alloc | apply pw_below_drewN | apply below_drew1) | exact HB.out)⟩⟩
              ·rw [if_neg c39] at H
               exact absurd H (by simp)
             ·rw [if_neg c38] at H
              exact absurd H (by simp)
            ·rw [if_neg c37] at H
             exact absurd H (by simp)
           ·rw [if_neg c36] at H
            have c36b0 : decide (0 < x10_3) = false := decide_eq_false c36
            clear c36
            by_cases c41 : 0 ≤ x10_3
            ·rw [if_pos c41] at H
             have c41b0 : decide (0 ≤ x10_3) = true := decide_eq_true c41
             clear c41
             by_cases c42 : x9_3.size + (rdOf ByteArray.empty x5_2 x10_3).size ≤ 9223372036854775807
             ·rw [if_pos c42] at H
              have c42b0 := eq_true c42
              have c42b1 : decide (x9_3.size + (rdOf ByteArray.empty x5_2 x10_3).size ≤ 9223372036854775807) = true := decide_eq_true c42
              try have c42b2 : (9223372036854775807 < x9_3.size + (rdOf ByteArray.empty x5_2 x10_3).size) = False := eq_false (Nat.not_lt.2 c42)
              have H' := Aside0.mk H
              clear H
              obtain ⟨Ao43, co43, eo43⟩ := Kd.R_slice HO_5.out
              subst eo43
              have p131 : 0 ≤ (x10_3 : Int) := of_decide_eq_true (by first | (with_reducible assumption) | assumption)
              have q131 : x10_3 < (x5_2.length : Int) := of_decide_eq_true (by first | (with_reducible assumption) | assumption)
              obtain ⟨ad131, e131, hx131_0⟩ := Kd.at_string (Kd.R_reads' HO_5.out).2.2 x10_3 p131 q131
              cases e131
              replace p131 := eq_true p131
              replace q131 := eq_true q131
              go_wp2
              go_roundg k3
              case measure => have := HK1.out; have := HK2.out; have := HK3.out; omega
              case rel => exact ⟨(x9_3 ++ (rdOf ByteArray.empty x5_2 x10_3)), (wrap64 (x10_3 + 1)), (by first | rfl | (simp; done) | (simp [*]; done)), (by first | rfl | (simp; done) | (simp [*]; done)), H', ⟨by have := HK1.out; have := HK2.out; have := HK3.out; omega⟩, ⟨by (with_reducible repeat (first | apply Kd.R_alloc | apply Kd.R_drewN | apply Kd.R_drew)); exact HO_5.out⟩, ⟨by repeat (first | (with_reducible first | exact HB.out | apply below_alloc | apply pw_below_drewN | apply below_drew1) | exact HB.out)⟩⟩
             ·rw [if_neg c42] at H
              exact absurd H (by simp)
            ·rw [if_neg c41] at H
             exact absurd H (by simp)
          ·rw [if_neg c35] at H
           have c35b0 : decide (x10_3 < (x5_2.length : Int)) = false := decide_eq_false c35
           clear c35
           by_cases c44 : x9_3.toList = ([] : List UInt8)
           ·rw [if_pos c44] at H
            have c44b0 : (x9_3.toList == ([] : List UInt8)) = true := beq_iff_eq.mpr c44
            have c44b1 : (x9_3.toList != ([] : List UInt8)) = false := bne_eq_false_iff_eq.mpr c44
            clear c44
            simp only [Option.some.injEq, Prod.mk.injEq] at H
            obtain ⟨rfl, rfl⟩ := H
            obtain ⟨Ao45, co45, eo45⟩ := Kd.R_slice HO_5.out
            subst eo45
            go_wp2
            go_ret2
            exact ⟨by first | rfl | (simp [errW_none, errW_some] <;> rfl) | (simp [*, errW_none, errW_some] <;> rfl), by repeat (first | (with_reducible first | exact HB.out | apply below_alloc | apply pw_below_drewN | apply below_drew1) | exact HB.out)⟩
           ·rw [if_neg c44] at H
            have c44b0 : (x9_3.toList == ([] : List UInt8)) = false := beq_eq_false_iff_ne.mpr c44
            have c44b1 : (x9_3.toList != ([] : List UInt8)) = true := bne_iff_ne.mpr c44
            by_cases c46 : (x9_3.size : Int) > 100
            ·rw [if_pos c46] at H
             have c46b0 : decide (100 < (x9_3.size : Int)) = true := decide_eq_true c46
             have c46b1 : decide (100 < x9_3.size) = true := decide_eq_true (by omega)
             clear c46
             simp only [Option.some.injEq, Prod.mk.injEq] at H
             obtain ⟨rfl, rfl⟩ := H
             obtain ⟨Ao47, co47, eo47⟩ := Kd.R_slice HO_5.out
             subst eo47
             go_wp2
             go_ret2
             exact ⟨by first | rfl | (simp [errW_none, errW_some] <;> rfl) | (simp [*, errW_none, errW_some] <;> rfl), by repeat (first | (with_reducible first | exact HB.out | apply below_alloc | apply pw_below_drewN | apply below_drew1) | exact HB.out)⟩
            ·rw [if_neg c46] at H
             have c46b0 : decide (100 < (x9_3.size : Int)) = false := decide_eq_false c46
             have c46b1 : decide (100 < x9_3.size) = false := decide_eq_false (by omega)
             clear c46
             simp only [Option.some.injEq, Prod.mk.injEq] at H
             obtain ⟨rfl, rfl⟩ := H
             obtain ⟨Ao48, co48, eo48⟩ := Kd.R_slice HO_5.out
             subst eo48
             go_wp2
             go_ret2
             exact ⟨by first | rfl | (simp [errW_none, errW_some] <;> rfl) | (simp [*, errW_none, errW_some] <;> rfl), by repeat (first | (with_reducible first | exact HB.out | apply below_alloc | apply pw_below_drewN | apply below_drew1) | exact HB.out)⟩
end Go.Proofs.YtnegfigaiomehaaGreatDoor.P
end
section
namespace Go.Proofs.YtnegfigaiomehaaGreatDoor.P
open Go.RowKit Go.Proofs.YtnegfigaiomehaaGreatDoorW.PrintWords Go.Proofs.YtnegfigaiomehaaGreatDoorW.PrintLast Go.Proofs.YtnegfigaiomehaaGreatDoorW.PrintMore
attribute [local go_sem] max2_int min2_int max_two min_two max_three min_three max_four min_four
def bellowsref03_Right.f (k : Nat) (a0 : ByteArray) : Option (Bool) := (bellowsref03_Clean.f k a0).bind fun bt132 => (if bt132.2 = 0 then (some (bt132.1.toList == a0.toList)) else (some false))
theorem bellowsref03_Right.mono : ∀ a0 k, LeO (bellowsref03_Right.f k a0) (bellowsref03_Right.f (k + 1) a0) := by
 intro a0 k
 unfold bellowsref03_Right.f
 repeat' first
   | (with_reducible exact bellowsref03_Clean.mono _ _)
   | (with_reducible exact LeO.refl _)
   | (with_reducible exact LeO.none _)
   | (with_reducible refine LeO.ite ?_ ?_)
   | (with_reducible refine LeO.bind ?_ (fun _ => ?_))
   | exact bellowsref03_Clean.mono _ _
   | exact LeO.none _
   | refine LeO.ite ?_ ?_
   | refine LeO.bind ?_ (fun _ => ?_)
set_option maxHeartbeats 8000000 in
set_option maxRecDepth 100000 in
theorem bellowsref03_Right.calls (k : Nat) (a0 : ByteArray) (r : Bool) (w : World) (h : bellowsref03_Right.f k a0 = some r) :
  Calls Tryz.prog 35 #[.string a0] w fun e w' => e = .returned (.bool r) ∧ Below w.heap.size w w' := by
 have HB := Aside0.mk (Below.refl w.heap.size w)
 have H : ((bellowsref03_Clean.f k a0).bind fun bt132 => (if bt132.2 = 0 then (some (bt132.1.toList == a0.toList)) else (some false))) = some r := h
 clear h
 replace H := Option.bind_eq_some_iff.mp H
 obtain ⟨⟨t132, t133⟩, A20, H⟩ := H
 replace H : (if t133 = 0 then (some (t132.toList == a0.toList)) else (some false)) = some r := H
 have A2 := Aside0.mk A20
 clear A20
 by_cases c3 : t133 = 0
 ·rw [if_pos c3] at H
  have c3b0 : (t133 == 0) = true := beq_iff_eq.mpr c3
  have c3b1 : (t133 != 0) = false := bne_eq_false_iff_eq.mpr c3
  clear c3
  obtain rfl := Option.some.inj H
  go_enter Tryz.func35, Tryz.ntmps35
  go_wp2_with (first | ((with_reducible refine gate_callee (f := 70) rfl ?_); refine goesL_ (some 7) rfl rfl Tryz.func70 (by kernel_rfl) rfl #[.string a0] rfl (by (try simp only [List.map_toArray, List.map_cons, List.map_nil]); first | done | rfl | (simp only [List.length_drop, List.length_take]; rfl)) ?_; (with_reducible refine (bellowsref03_Clean.calls k a0 t132 t133 _ A2.out).mono ?_); rintro e w4 ⟨rfl, hb⟩; refine ⟨_, rfl, ?_⟩; have n0_ := Aside0.mk (below_step (by repeat (first | (with_reducible first | exact HB.out | apply below_alloc | apply pw_below_drewN | apply below_drew1) | exact HB.out)) hb); clear HB; have HB := n0_; clear n0_; (try clear hb); (try clear hb2); (try clear hk); (try clear hi)))
  go_ret
  exact ⟨by first | rfl | (simp [errW_none, errW_some] <;> rfl) | (simp [*, errW_none, errW_some] <;> rfl), by repeat (first | (with_reducible first | exact HB.out | apply below_alloc | apply pw_below_drewN | apply below_drew1) | exact HB.out)⟩
 ·rw [if_neg c3] at H
  have c3b0 : (t133 == 0) = false := beq_eq_false_iff_ne.mpr c3
  have c3b1 : (t133 != 0) = true := bne_iff_ne.mpr c3
  obtain rfl := Option.some.inj H
  go_enter Tryz.func35, Tryz.ntmps35
  go_wp2_with (first | ((with_reducible refine gate_callee (f := 70) rfl ?_); refine goesL_ (some 7) rfl rfl Tryz.func70 (by kernel_rfl) rfl #[.string a0] rfl (by (try simp only [List.map_toArray, List.map_cons, List.map_nil]); first | done | rfl | (simp only [List.length_drop, List.length_take]; rfl)) ?_; (with_reducible refine (bellowsref03_Clean.calls k a0 t132 t133 _ A2.out).mono ?_); rintro e w5 ⟨rfl, hb⟩; refine ⟨_, rfl, ?_⟩; have n0_ := Aside0.mk (below_step (by repeat (first | (with_reducible first | exact HB.out | apply below_alloc | apply pw_below_drewN | apply below_drew1) | exact HB.out)) hb); clear HB; have HB := n0_; clear n0_; (try clear hb); (try clear hb2); (try clear hk); (try clear hi)))
  go_ret
  exact ⟨by first | rfl | (simp [errW_none, errW_some] <;> rfl) | (simp [*, errW_none, errW_some] <;> rfl), by repeat (first | (with_reducible first | exact HB.out | apply below_alloc | apply pw_below_drewN | apply below_drew1) | exact HB.out)⟩
end Go.Proofs.YtnegfigaiomehaaGreatDoor.P
end
section
namespace Go.Proofs.YtnegfigaiomehaaGreatDoor.PTh
open Go.RowKit Go.Proofs.YtnegfigaiomehaaGreatDoorW.PrintWords Go.Proofs.YtnegfigaiomehaaGreatDoor.U Go.Proofs.YtnegfigaiomehaaGreatDoor.P Go.Proofs.YtnegfigaiomehaaGreatDoor.Rng
theorem plain_all : ((List.range 256).all fun n => bellowsref03_plain.f (n : Int) == some (plainR n)) = true := by decide +kernel
theorem plain_f (b : UInt8) : bellowsref03_plain.f (b.toNat : Int) = some (plainB b) := by
 have h := List.all_eq_true.1 plain_all b.toNat (List.mem_range.2 b.toNat_lt)
 exact beq_iff_eq.1 h
def fin (qs : List (List UInt8)) : ByteArray × Int := if joinP qs = [] then (B [], 5) else if 100 < (joinP qs).length then (B [], 3) else (B (joinP qs), 0)
theorem joinP_take (qs : List (List UInt8)) (i : Nat) : (joinP (qs.take i)).length ≤ (joinP qs).length := by
 by_cases h1 : qs.take i = []
 ·rw [h1]; exact Nat.zero_le _
 ·by_cases h2 : qs.drop i = []
  ·have := List.take_append_drop i qs
   rw [h2, List.append_nil] at this
   rw [this]; exact Nat.le_refl _
  ·have := joinP_append _ _ h1 h2
   rw [List.take_append_drop] at this
   rw [this, List.length_append]; omega
theorem ref_l2 (qs : List (List UInt8)) (hn : qs.length < 1000000) (hl : (joinP qs).length < 1000000) (d : Nat) : ∀ i : Nat, i + d = qs.length →
  Ev (fun k => bellowsref03_Clean.l2 k (qs.map B) (B (joinP (qs.take i))) (i : Int)) (fin qs) := by
 induction d with
 | zero =>
  intro i hi
  refine Ev.unroll ?_
  have h1 : ¬ (i : Int) < ((qs.map B).length : Int) := by rw [List.length_map]; omega
  have h2 : qs.take i = qs := List.take_of_length_le (by omega)
  simp only [bellowsref03_Clean.l2, if_neg h1, h2, toList_B, size_B]
  unfold fin
  by_cases h3 : joinP qs = []
  ·simp only [if_pos h3]; exact Ev.now _
  ·by_cases h4 : 100 < (joinP qs).length
   ·have h5 : ((joinP qs).length : Int) > 100 := by omega
    simp only [if_neg h3, if_pos h4, if_pos h5]; exact Ev.now _
   ·have h5 : ¬ ((joinP qs).length : Int) > 100 := by omega
    simp only [if_neg h3, if_neg h4, if_neg h5]; exact Ev.now _
 | succ d ih =>
  intro i hi
  refine Ev.unroll ?_
  have hlt : i < qs.length := by omega
  have h1 : (i : Int) < ((qs.map B).length : Int) := by rw [List.length_map]; omega
  have h0 : (0 : Int) ≤ (i : Int) := by omega
  have hr := ih (i + 1) (by omega)
  have hw := Aside0.mk (wrap_succ i (by omega))
  have hrd : rdOf ByteArray.empty (qs.map B) (i : Int) = B qs[i] := by rw [rdOf_B _ _ (by simpa using hlt)]; simp
  have htk : qs.take (i + 1) = qs.take i ++ [qs[i]] := by rw [List.take_add_one, List.getElem?_eq_getElem hlt]; rfl
  have hb1 := joinP_take qs i
  have hb2 := joinP_take qs (i + 1)
  by_cases hi0 : i = 0
  ·subst hi0
   have h2 : ¬ ((0 : Nat) : Int) > 0 := by omega
   have e1 : joinP (qs.take (0 + 1)) = qs[0] := by rw [htk]; simp [joinP_one]
   rw [e1] at hb2 hr
   have s1 : (B (joinP (qs.take 0))).size + (B qs[0]).size ≤ 9223372036854775807 := by rw [size_B, size_B]; omega
   have e2 : B (joinP (qs.take 0)) ++ B qs[0] = B qs[0] := by rw [B_append]; simp [joinP_nil]
   simp only [bellowsref03_Clean.l2, if_pos h1, if_neg h2, if_pos h0, hrd, if_pos s1, e2, hw.out]
   exact hr
  ·have h2 : (i : Int) > 0 := by omega
   have hne : qs.take i ≠ [] := by
    intro e
    have := congrArg List.length e
    rw [List.length_take, List.length_nil] at this
    omega
   have e1 : joinP (qs.take (i + 1)) = joinP (qs.take i) ++ 47 :: qs[i] := by rw [htk, joinP_snoc _ hne]
   rw [e1] at hb2 hr
   rw [List.length_append, List.length_cons] at hb2
   have e2 : (B (joinP (qs.take i)) ++ (⟨#[47]⟩ : ByteArray)) ++ B qs[i] = B (joinP (qs.take i) ++ 47 :: qs[i]) := by
    show (B _ ++ B [47]) ++ B _ = _
    rw [B_append, B_append]; simp
   have s1 : (B (joinP (qs.take i))).size + 1 ≤ 9223372036854775807 := by rw [size_B]; omega
   have s2 : (B (joinP (qs.take i)) ++ (⟨#[47]⟩ : ByteArray)).size + (B qs[i]).size ≤ 9223372036854775807 := by
    show (B (joinP (qs.take i)) ++ B [47]).size + (B qs[i]).size ≤ _
    rw [B_append, size_B, size_B, List.length_append, List.length_singleton]; omega
   simp only [bellowsref03_Clean.l2, if_pos h1, if_pos h2, if_pos h0, hrd, if_pos s1, if_pos s2, e2, hw.out]
   exact hr
def step1 (w : List UInt8) (ps : List (List UInt8)) : Option (List (List UInt8)) :=
 if w = [] ∨ w = [46] then some ps else if w = [46, 46] then (if ps = [] then none else some ps.dropLast) else some (ps ++ [w])
theorem foldP_step (w : List UInt8) (r ps : List (List UInt8)) : foldP (w :: r) ps = (step1 w ps).bind (foldP r) := by
 rw [foldP, step1]
 by_cases h1 : w = [] ∨ w = [46]
 ·rw [if_pos h1, if_pos h1]; rfl
 ·rw [if_neg h1, if_neg h1]
  by_cases h2 : w = [46, 46]
  ·rw [if_pos h2, if_pos h2]
   by_cases h3 : ps = []
   ·rw [if_pos h3, if_pos h3]; rfl
   ·rw [if_neg h3, if_neg h3]; rfl
  ·rw [if_neg h2, if_neg h2]; rfl
theorem step1_len {w : List UInt8} {ps qs : List (List UInt8)} (h : step1 w ps = some qs) : qs.length ≤ ps.length + 1 ∧ (joinP qs).length ≤ (joinP ps).length + 1 + w.length := by
 rw [step1] at h
 by_cases h1 : w = [] ∨ w = [46]
 ·rw [if_pos h1] at h; cases h; omega
 ·rw [if_neg h1] at h
  by_cases h2 : w = [46, 46]
  ·rw [if_pos h2] at h
   by_cases h3 : ps = []
   ·rw [if_pos h3] at h; cases h
   ·rw [if_neg h3] at h; cases h
    have := joinP_take ps (ps.length - 1)
    rw [← List.dropLast_eq_take] at this
    rw [List.length_dropLast]; omega
  ·rw [if_neg h2] at h; cases h
   by_cases h3 : ps = []
   ·subst h3; simp [joinP_one, joinP_nil]
   ·rw [joinP_snoc _ h3]; simp; omega
theorem ref_part (T p w r : List UInt8) (ps : List (List UInt8)) (R : ByteArray × Int) (hT : T = p ++ (w ++ r)) (hl : T.length < 100000) (hps : ps.length < 1000000)
  (h0 : step1 w ps = none → R = (B [], 5))
  (h1 : ∀ qs, step1 w ps = some qs → Ev (fun k => bellowsref03_Clean.l1 k (B T) (qs.map B) ((p.length + w.length + 1 : Nat) : Int) ((p.length + w.length + 1 : Nat) : Int)) R) :
  Ev (fun k => bellowsref03_Clean.j2 k (B T) (ps.map B) (p.length : Int) ((p.length + w.length : Nat) : Int) false) R := by
 refine Ev.unroll ?_
 have hTl : T.length = p.length + (w.length + r.length) := by rw [hT]; simp
 have a1 : (0 : Int) ≤ (p.length : Int) := by omega
 have a2 : (p.length : Int) ≤ ((p.length + w.length : Nat) : Int) := by omega
 have a3 : ((p.length + w.length : Nat) : Int) ≤ ((B T).size : Int) := by rw [size_B]; omega
 have hex : (B T).extract (p.length : Int).toNat ((p.length + w.length : Nat) : Int).toNat = B w := by
  rw [extract_B, Int.toNat_natCast, Int.toNat_natCast, hT, ← List.append_assoc, List.take_left' (by simp)]; simp
 have hw := Aside0.mk (show wrap64 (((p.length + w.length : Nat) : Int) + 1) = ((p.length + w.length + 1 : Nat) : Int) from wrap_succ _ (by omega))
 simp only [bellowsref03_Clean.j2, Bool.false_eq_true, if_false, if_pos a1, if_pos a2, if_pos a3, hex, hw.out, toList_B]
 by_cases c1 : w = []
 ·simp only [if_pos c1]
  refine Ev.unroll ?_
  simp only [bellowsref03_Clean.j3, if_true, hw.out]
  exact h1 ps (by rw [step1, if_pos (.inl c1)])
 ·simp only [if_neg c1]
  refine Ev.unroll ?_
  by_cases c2 : w = [46]
  ·have : (w == ([46] : List UInt8)) = true := beq_iff_eq.2 c2
   simp only [bellowsref03_Clean.j3, this, if_true, hw.out]
   exact h1 ps (by rw [step1, if_pos (.inr c2)])
  ·have : (w == ([46] : List UInt8)) = false := beq_eq_false_iff_ne.2 c2
   have c12 : ¬ (w = [] ∨ w = [46]) := by simp [c1, c2]
   simp only [bellowsref03_Clean.j3, this, Bool.false_eq_true, if_false, toList_B]
   by_cases c3 : w = [46, 46]
   ·simp only [if_pos c3]
    refine Ev.unroll ?_
    by_cases c4 : ps = []
    ·subst c4
     simp only [bellowsref03_Clean.j4, List.map_nil, List.length_nil]
     simp only [show (((0 : Nat) : Int) == 0) = true from rfl, if_true]
     have := h0 (by rw [step1, if_neg c12, if_pos c3, if_pos rfl])
     subst this
     exact Ev.now _
    ·have hpl : 0 < ps.length := List.length_pos_iff.2 c4
     have e0 : (((ps.map B).length : Int) == 0) = false := by rw [beq_eq_false_iff_ne, List.length_map]; omega
     have e1 : wrap64 (((ps.map B).length : Int) - 1) = ((ps.length - 1 : Nat) : Int) := by rw [List.length_map, wrap_id _ (by omega) (by omega)]; omega
     have e2 : (0 : Int) ≤ ((ps.length - 1 : Nat) : Int) := by omega
     have e3 : ((ps.length - 1 : Nat) : Int) ≤ ((ps.map B).length : Int) := by rw [List.length_map]; omega
     have e4 : (ps.map B).take ((ps.length - 1 : Nat) : Int).toNat = ps.dropLast.map B := by rw [Int.toNat_natCast, List.dropLast_eq_take, List.map_take]
     simp only [bellowsref03_Clean.j4, e0, Bool.false_eq_true, if_false, toList_B, if_pos c3, e1, if_pos e2, if_pos e3, e4, hw.out]
     exact h1 _ (by rw [step1, if_neg c12, if_pos c3, if_neg c4])
   ·simp only [if_neg c3]
    refine Ev.unroll ?_
    have e1 : (ps.map B).length < 8796093022208 := by rw [List.length_map]; omega
    simp only [bellowsref03_Clean.j4, Bool.false_eq_true, if_false, toList_B, if_neg c3, if_pos e1, hw.out]
    have := h1 (ps ++ [w]) (by rw [step1, if_neg c12, if_neg c3])
    rw [List.map_append] at this
    exact this
def Rof (o : Option (List (List UInt8))) : ByteArray × Int := match o with | none => (B [], 5) | some qs => fin qs
theorem ref_l1 (n : Nat) : ∀ (T p w s : List UInt8) (ps : List (List UInt8)), s.length = n → T = p ++ (w ++ s) → (47 : UInt8) ∉ w → T.length < 100000 → ps.length + s.length < 500000 →
  (joinP ps).length + w.length + s.length < 500000 →
  Ev (fun k => bellowsref03_Clean.l1 k (B T) (ps.map B) (p.length : Int) ((p.length + w.length : Nat) : Int)) (Rof (foldP (sp (w ++ s)) ps)) := by
 induction n with
 | zero =>
  intro T p w s ps hs hT hw hl hps hj
  obtain rfl := List.length_eq_zero_iff.1 hs
  simp only [List.length_nil, Nat.add_zero] at hps hj
  refine Ev.unroll ?_
  have hTl : T.length = p.length + w.length := by rw [hT]; simp
  have h1 : ((p.length + w.length : Nat) : Int) ≤ ((B T).size : Int) := by rw [size_B]; omega
  have h2 : ¬ ((p.length + w.length : Nat) : Int) < ((B T).size : Int) := by rw [size_B]; omega
  simp only [bellowsref03_Clean.l1, if_pos h1, if_neg h2]
  rw [List.append_nil, sp_none w hw, foldP_step]
  refine ref_part T p w [] ps _ hT hl (by omega) (fun h => by rw [h]; rfl) (fun qs h => ?_)
  have hq := step1_len h
  rw [h]
  refine Ev.unroll ?_
  have h3 : ¬ ((p.length + w.length + 1 : Nat) : Int) ≤ ((B T).size : Int) := by rw [size_B]; omega
  simp only [bellowsref03_Clean.l1, if_neg h3]
  have := ref_l2 qs (by omega) (by omega) qs.length 0 (by omega)
  exact this
 | succ n ih =>
  intro T p w s ps hs hT hw hl hps hj
  cases s with
  | nil => cases hs
  | cons b s =>
   simp only [List.length_cons] at hs hps hj
   refine Ev.unroll ?_
   have hTl : T.length = p.length + (w.length + (s.length + 1)) := by rw [hT]; simp
   have h1 : ((p.length + w.length : Nat) : Int) ≤ ((B T).size : Int) := by rw [size_B]; omega
   have h2 : ((p.length + w.length : Nat) : Int) < ((B T).size : Int) := by rw [size_B]; omega
   have h3 : (0 : Int) ≤ ((p.length + w.length : Nat) : Int) := by omega
   have hbt : bt (B T) ((p.length + w.length : Nat) : Int) = (b.toNat : Int) := by
    have := bt_mid (p ++ w) b s
    rw [List.length_append, List.append_assoc, ← hT] at this
    exact this
   simp only [bellowsref03_Clean.l1, if_pos h1, if_pos h2, if_pos h3, hbt]
   by_cases hb : b = 47
   ·subst hb
    have e1 : (((47 : UInt8).toNat : Int) != 47) = false := rfl
    rw [e1, sp_at w s hw, foldP_step]
    refine ref_part T p w (47 :: s) ps _ hT hl (by omega) (fun h => by rw [h]; rfl) (fun qs h => ?_)
    have hq := step1_len h
    rw [h]
    have := ih T (p ++ (w ++ [47])) [] s qs (by omega) (by rw [hT]; simp) (by simp) hl (by omega) (by simp; omega)
    simp only [List.length_append, List.length_singleton, List.length_nil, Nat.add_zero, List.nil_append] at this
    exact this
   ·have e1 : ((b.toNat : Int) != 47) = true := bne_iff_ne.2 (byte_ne (d := 47) hb)
    rw [e1]
    refine Ev.unroll ?_
    have hw2 := Aside0.mk (show wrap64 (((p.length + w.length : Nat) : Int) + 1) = ((p.length + w.length + 1 : Nat) : Int) from wrap_succ _ (by omega))
    simp only [bellowsref03_Clean.j2, if_true, hw2.out]
    have := ih T p (w ++ [b]) s ps (by omega) (by rw [hT]; simp) (by simp [hw, Ne.symm hb]) hl (by omega) (by rw [List.length_append, List.length_singleton]; omega)
    rw [List.length_append, List.length_singleton, List.append_assoc] at this
    exact this
theorem ref_l0 (n : Nat) (T : List UInt8) (hl : T.length < 100000) : ∀ (p s : List UInt8), s.length = n → T = p ++ s → (p ≠ [] → T.head? ≠ some 47) → p.all plainB = true →
  Ev (fun k => bellowsref03_Clean.l0 k (B T) (p.length : Int)) (if T.head? = some 47 ∨ T.all plainB = false then (B [], 5) else Rof (foldP (sp T) [])) := by
 induction n with
 | zero =>
  intro p s hs hT hh hp
  obtain rfl := List.length_eq_zero_iff.1 hs
  rw [List.append_nil] at hT
  subst hT
  refine Ev.unroll ?_
  have h1 : ¬ (T.length : Int) < ((B T).size : Int) := by rw [size_B]; omega
  have hh' : ¬ (T.head? = some 47 ∨ T.all plainB = false) := by
   rintro (h | h)
   ·cases T with
    | nil => cases h
    | cons b t => exact hh (by simp) h
   ·rw [hp] at h; cases h
  simp only [bellowsref03_Clean.l0, if_neg h1, if_neg hh']
  have := ref_l1 T.length T [] [] T [] rfl rfl (by simp) hl (by simp; omega) (by simp [joinP_nil]; omega)
  exact this
 | succ n ih =>
  intro p s hs hT hh hp
  cases s with
  | nil => cases hs
  | cons b s =>
   refine Ev.unroll ?_
   have hTl : T.length = p.length + (s.length + 1) := by rw [hT]; simp
   have h1 : (p.length : Int) < ((B T).size : Int) := by rw [size_B]; omega
   have h2 : (0 : Int) ≤ (p.length : Int) := by omega
   have hbt : bt (B T) (p.length : Int) = (b.toNat : Int) := by rw [hT]; exact bt_mid p b s
   have hw := Aside0.mk (show wrap64 ((p.length : Int) + 1) = ((p.length + 1 : Nat) : Int) from wrap_succ _ (by omega))
   simp only [bellowsref03_Clean.l0, if_pos h1, if_pos h2, hbt, plain_f, Option.bind_some, hw.out]
   by_cases hb : plainB b = true
   ·simp only [if_pos hb]
    have go : (T.head? ≠ some 47) → Ev (fun k => bellowsref03_Clean.l0 k (B T) ((p.length + 1 : Nat) : Int)) (if T.head? = some 47 ∨ T.all plainB = false then (B [], 5) else Rof (foldP (sp T) [])) := fun hd => by
     have := ih (p ++ [b]) s (by simpa using hs) (by rw [hT]; simp) (fun _ => hd) (by rw [List.all_append, hp]; simp [hb])
     rw [List.length_append, List.length_singleton] at this
     exact this
    by_cases hp0 : p = []
    ·subst hp0
     have hd : T.head? = some b := by rw [hT]; rfl
     simp only [List.length_nil]
     simp only [show ((0 : Nat) : Int) = 0 from rfl, if_true]
     by_cases hb47 : b = 47
     ·subst hb47
      simp only [show ((47 : UInt8).toNat : Int) = 47 from rfl, if_true, if_pos (Or.inl hd)]
      exact Ev.now _
     ·simp only [if_neg (show ¬ (b.toNat : Int) = 47 from byte_ne (d := 47) hb47)]
      have := go (by rw [hd]; simpa using hb47)
      simpa using this
    ·have h3 : ¬ (p.length : Int) = 0 := by
      have := List.length_pos_iff.2 hp0
      omega
     simp only [if_neg h3]
     exact go (hh hp0)
   ·simp only [if_neg hb]
    have : T.all plainB = false := by
     rw [hT, List.all_append, List.all_cons]
     simp [hb]
    rw [if_pos (.inr this)]
    exact Ev.now _
theorem ref_Clean (l : List UInt8) : Ev (fun k => bellowsref03_Clean.f k (B l)) (B (cleanL l).1, (cleanL l).2) := by
 by_cases h : ((B l).size : Int) > 1000
 ·have h' : 1000 < l.length := by rw [size_B] at h; omega
  simp only [bellowsref03_Clean.f, if_pos h, cleanL, if_pos h']
  exact Ev.now _
 ·have h' : ¬ 1000 < l.length := by rw [size_B] at h; omega
  simp only [bellowsref03_Clean.f, if_neg h]
  have := ref_l0 l.length l (by omega) [] l rfl rfl (by simp) rfl
  refine Ev.eqn this ?_
  rw [cleanL, if_neg h']
  by_cases h2 : l.head? = some 47 ∨ l.all plainB = false
  ·rw [if_pos h2, if_pos h2]
  ·rw [if_neg h2, if_neg h2]
   show Rof (foldP (splitK 47 0 l) []) = _
   cases foldP (splitK 47 0 l) [] with
   | none => rfl
   | some ps =>
    simp only [Rof, fin]
    split
    ·rfl
    ·split <;> rfl
theorem ref_Right (l : List UInt8) : Ev (fun k => bellowsref03_Right.f k (B l)) (decide (cleanL l = (l, 0))) := by
 simp only [bellowsref03_Right.f]
 refine Ev.bind (ref_Clean l) ?_
 simp only [toList_B]
 by_cases h : (cleanL l).2 = 0
 ·rw [if_pos h]
  refine Ev.eqn (Ev.now _) ?_
  rw [Bool.eq_iff_iff, beq_iff_eq, decide_eq_true_iff]
  exact ⟨fun e => Prod.ext e h, fun e => by rw [e]⟩
 ·rw [if_neg h]
  refine Ev.eqn (Ev.now _) ?_
  symm
  rw [decide_eq_false_iff_not]
  intro e; rw [e] at h; exact h rfl
end Go.Proofs.YtnegfigaiomehaaGreatDoor.PTh
end
section
namespace Go.Proofs.YtnegfigaiomehaaGreatDoor.Tp
open Go.RowKit Go.Lib Go.Shelf Go.Maps Go.Proofs.YtnegfigaiomehaaGreatDoorW.PrintWords Go.Proofs.YtnegfigaiomehaaGreatDoorW.PrintLast Go.Proofs.YtnegfigaiomehaaGreatDoorW.PrintMore Go.Proofs.YtnegfigaiomehaaGreatDoor.U Go.Proofs.YtnegfigaiomehaaGreatDoor.P Go.Proofs.YtnegfigaiomehaaGreatDoor.PTh Go.Proofs.YtnegfigaiomehaaGreatDoor.MapV Go.Proofs.YtnegfigaiomehaaGreatDoor.Ck
def SomeB (w : World) (e : Ending) (w' : World) : Prop := (∃ b, e = .returned (.bool b)) ∧ Below w.heap.size w w'
def SomeS (n : Nat) (w : World) (e : Ending) (w' : World) : Prop := (∃ s : ByteArray, s.size ≤ n ∧ e = .returned (.string s)) ∧ Below w.heap.size w w'
abbrev SR := S51
abbrev KR := k51
def toR (e : EdgeL) : SR := ⟨e.outs.map B, e.ins.map B, e.imp.map B, e.ord.map B, B e.cmd, B e.dep⟩
theorem edgeR_at {w : World} {A : Option Addr} {es : List EdgeL} {n : Nat} (hn : es.length = n) (h : Kd.C KR w A n (es.map toR)) (i : Nat) (hi : i < es.length) : ∃ ad A0 c0 A1 c1 A2 c2 A3 c3, A = some ad ∧
  w.cell? (ad.add (i * 6)) = some (.slice A0 es[i].outs.length c0) ∧ w.cell? ⟨(ad.add (i * 6)).block, (ad.add (i * 6)).off + 1, none⟩ = some (.slice A1 es[i].ins.length c1) ∧ w.cell? ⟨(ad.add (i * 6)).block, (ad.add (i * 6)).off + 2, none⟩ = some (.slice A2 es[i].imp.length c2) ∧ w.cell? ⟨(ad.add (i * 6)).block, (ad.add (i * 6)).off + 3, none⟩ = some (.slice A3 es[i].ord.length c3) ∧
  w.cell? ⟨(ad.add (i * 6)).block, (ad.add (i * 6)).off + 4, none⟩ = some (.string (B es[i].cmd)) ∧ w.cell? ⟨(ad.add (i * 6)).block, (ad.add (i * 6)).off + 5, none⟩ = some (.string (B es[i].dep)) ∧
  Kd.C Kd.string w A0 es[i].outs.length (es[i].outs.map B) ∧ Kd.C Kd.string w A1 es[i].ins.length (es[i].ins.map B) ∧ Kd.C Kd.string w A2 es[i].imp.length (es[i].imp.map B) ∧ Kd.C Kd.string w A3 es[i].ord.length (es[i].ord.map B) := by
 subst hn
 have hlen : (es.map toR).length = es.length := List.length_map ..
 obtain ⟨ad, A0, c0, A1, c1, A2, c2, A3, c3, rfl, k0, k1, k2, k3, k4, k5, l0, g0, l1, g1, l2, g2, l3, g3⟩ := at_T51 h (i : Int) (by omega) (by omega)
 have hx : rd_T51 (es.map toR) (i : Int) = toR es[i] := by
  show (es.map toR).getD (i : Int).toNat _ = _
  rw [Int.toNat_natCast, List.getD_eq_getElem?_getD, List.getElem?_map, List.getElem?_eq_getElem hi]; rfl
 rw [Int.toNat_natCast] at k0 k1 k2 k3 k4 k5
 rw [hx] at k0 k1 k2 k3 k4 k5 l0 g0 l1 g1 l2 g2 l3 g3
 simp only [toR, List.length_map] at k0 k1 k2 k3 k4 k5 l0 g0 l1 g1 l2 g2 l3 g3
 exact ⟨ad, A0, c0, A1, c1, A2, c2, A3, c3, rfl, k0, k1, k2, k3, k4, k5, g0, g1, g2, g3⟩
theorem Right03_weak (l : Txt) (w : World) : Calls Tryz.prog 35 #[.string (B l)] w (SomeB w) := by
 obtain ⟨k, hk⟩ := Ev.rounds (ref_Right l)
 exact (bellowsref03_Right.calls k (B l) _ w hk).mono (fun e w' h => ⟨⟨_, h.1⟩, h.2⟩)
set_option maxRecDepth 100000 in
set_option maxHeartbeats 4000000 in
theorem paths_weak (A : Option Addr) (c : Nat) (l : List Txt) (w : World) (h : Kd.C Kd.string w A l.length (l.map B)) (hn : l.length ≤ 1000000) : Calls Tryz.prog 34 #[.slice A l.length c] w (SomeB w) := by
 obtain ⟨n, hN⟩ : ∃ n, l.length = n := ⟨_, rfl⟩
 have hNH := Lib.hid hN
 have hCH := Lib.hid h
 rw [hN] at hn ⊢
 clear hN h
 go_enter Tryz.func34, Tryz.ntmps34
 go_wp2_with fail
 go_loopg [3] n (fun gk s3 wr => ∃ i : Nat, s3 = .int .i64 (i : Int) ∧ i + gk = n ∧ Hid (Below w.heap.size w wr))
 case atStart => exact ⟨0, rfl, Nat.zero_add _, Below.refl _ _⟩
 case round =>
  obtain ⟨i, rfl, hik, hB⟩ := hrel
  cases gk with
  | zero =>
   obtain rfl : i = n := by omega
   have hlt : decide ((i : Int) < (i : Int)) = false := by simp
   go_wp2_with fail
   go_ret
   exact ⟨⟨_, rfl⟩, hB.out⟩
  | succ gk =>
   have hi : i < l.length := by rw [hNH.out]; omega
   have hlt : decide ((i : Int) < (n : Int)) = true := by rw [decide_eq_true_iff]; omega
   have i1 : (0 : Int) ≤ (i : Int) := by omega
   have i2 : (i : Int) < (n : Int) := by omega
   obtain ⟨ad, hAd, k0⟩ := text_at hCH.out i hi
   subst hAd
   replace k0 := below_cell hB.out k0
   generalize l[i] = t at *
   have hR := Lib.hid (Right03_weak t wr)
   go_wp2_with fail
   refine hR.out.mono ?_
   rintro e w1 ⟨⟨b, rfl⟩, hb⟩
   have hB1 := Lib.hid (hB.out.trans (hb.mono hB.out.size))
   clear hb k0
   cases b with
   | false =>
    go_wp2_with fail
    go_ret
    exact ⟨⟨_, rfl⟩, hB1.out⟩
   | true =>
    go_wp2_with fail
    go_roundg gk
    case measure => omega
    case rel => exact ⟨i + 1, by first | rfl | simp, by omega, hB1⟩
set_option maxRecDepth 100000 in
set_option maxHeartbeats 4000000 in
theorem In_weak (A : Option Addr) (c : Nat) (l : List Txt) (f : Txt) (w : World) (h : Kd.C Kd.string w A l.length (l.map B)) (hn : l.length ≤ 1000000) : Calls Tryz.prog 39 #[.slice A l.length c, .string (B f)] w (SomeB w) := by
 obtain ⟨n, hN⟩ : ∃ n, l.length = n := ⟨_, rfl⟩
 have hNH := Lib.hid hN
 have hCH := Lib.hid h
 rw [hN] at hn ⊢
 clear hN h
 go_enter Tryz.func39, Tryz.ntmps39
 go_wp2_with fail
 go_loopg [5] n (fun gk s5 wr => ∃ i : Nat, s5 = .int .i64 (i : Int) ∧ i + gk = n ∧ w = wr)
 case atStart => exact ⟨0, rfl, Nat.zero_add _, rfl⟩
 case round =>
  obtain ⟨i, rfl, hik, rfl⟩ := hrel
  cases gk with
  | zero =>
   obtain rfl : i = n := by omega
   have hlt : decide ((i : Int) < (i : Int)) = false := by simp
   go_wp2_with fail
   go_ret
   exact ⟨⟨_, rfl⟩, Below.refl _ _⟩
  | succ gk =>
   have hi : i < l.length := by rw [hNH.out]; omega
   have hlt : decide ((i : Int) < (n : Int)) = true := by rw [decide_eq_true_iff]; omega
   have i1 : (0 : Int) ≤ (i : Int) := by omega
   have i2 : (i : Int) < (n : Int) := by omega
   obtain ⟨ad, hAd, k0⟩ := text_at hCH.out i hi
   subst hAd
   generalize l[i] = t at *
   cases hb : (t == f) with
   | true =>
    go_wp2_with fail
    go_ret
    exact ⟨⟨_, rfl⟩, Below.refl _ _⟩
   | false =>
    go_wp2_with fail
    go_roundg gk
    case measure => omega
    case rel => exact ⟨i + 1, by first | rfl | simp, by omega, rfl⟩
set_option maxRecDepth 100000 in
set_option maxHeartbeats 4000000 in
theorem Maker_weak (A A1 : Option Addr) (c n1 c1 : Nat) (es : List EdgeL) (f : Txt) (w : World) (h : Kd.C KR w A es.length (es.map toR)) (hn : es.length ≤ 1000000) (ho : ∀ e ∈ es, e.outs.length ≤ 1000000) :
  Calls Tryz.prog 12 #[.agg #[.slice A es.length c, .slice A1 n1 c1], .string (B f)] w fun e w' => (∃ k : Int, e = .returned (.int .i64 k)) ∧ Below w.heap.size w w' := by
 obtain ⟨n, hN⟩ : ∃ n, es.length = n := ⟨_, rfl⟩
 have hNH := Lib.hid hN
 have hCH := Lib.hid h
 rw [hN] at hn ⊢
 clear hN h
 have hoH := Lib.hid ho
 clear ho
 have hbx : Hid (Below w.heap.size w (w.alloc (.cells #[.slice A n c, .slice A1 n1 c1] 25))) := (Below.refl _ _).alloc (Nat.le_refl _) _
 have hx := Lib.hid (heap_alloc_new w (.cells #[.slice A n c, .slice A1 n1 c1] 25))
 go_enter Tryz.func12, Tryz.ntmps12
 go_wp2_with fail
 go_loopg [5] n (fun gk s5 wr => ∃ i : Nat, s5 = .int .i64 (i : Int) ∧ i + gk = n ∧ Hid (Below (w.alloc (.cells #[.slice A n c, .slice A1 n1 c1] 25)).heap.size (w.alloc (.cells #[.slice A n c, .slice A1 n1 c1] 25)) wr))
 case atStart => exact ⟨0, rfl, Nat.zero_add _, Below.refl _ _⟩
 case round =>
  obtain ⟨i, rfl, hik, hB0⟩ := hrel
  have hB : Hid (Below w.heap.size w wr) := Lib.hid (hbx.out.trans (hB0.out.mono hbx.out.size))
  have x0 := (cell_of_heap (j := 0) (below_blk hB0.out hx.out)).trans rfl
  cases gk with
  | zero =>
   obtain rfl : i = n := by omega
   have hlt : decide ((i : Int) < (i : Int)) = false := by simp
   go_wp2_with fail
   go_ret
   exact ⟨⟨_, rfl⟩, hB.out⟩
  | succ gk =>
   have hi : i < es.length := by rw [hNH.out]; omega
   have hlt : decide ((i : Int) < (n : Int)) = true := by rw [decide_eq_true_iff]; omega
   have i1 : (0 : Int) ≤ (i : Int) := by omega
   have i2 : (i : Int) < (n : Int) := by omega
   obtain ⟨ad, a0, d0, a1, d1, a2, d2, a3, d3, hAd, k0, _, _, _, _, _, g0, _⟩ := edgeR_at rfl hCH.out i hi
   subst hAd
   replace k0 := below_cell hB.out k0
   have hI := Lib.hid (In_weak a0 d0 es[i].outs f wr (Kd.C_below g0 hB.out) (hoH.out _ (List.getElem_mem hi)))
   generalize es[i].outs = outs at *
   obtain ⟨m, hm⟩ : ∃ m, outs.length = m := ⟨_, rfl⟩
   rw [hm] at k0 hI
   clear hm g0
   go_wp2_with fail
   refine hI.out.mono ?_
   rintro e w1 ⟨⟨b, rfl⟩, hb⟩
   have hB1 := Lib.hid (hB.out.trans (hb.mono hB.out.size))
   have hB2 := Lib.hid (hB0.out.trans (hb.mono hB0.out.size))
   clear hb k0 x0
   cases b with
   | true =>
    go_wp2_with fail
    go_ret
    exact ⟨⟨_, rfl⟩, hB1.out⟩
   | false =>
    go_wp2_with fail
    go_roundg gk
    case measure => omega
    case rel => exact ⟨i + 1, by first | rfl | simp, by omega, hB2⟩
set_option maxRecDepth 100000 in
set_option maxHeartbeats 4000000 in
theorem Own16_weak (f : Txt) (w : World) : Calls Tryz.prog 13 #[.string (B f)] w (SomeB w) := by
 obtain ⟨s, hs⟩ : ∃ s, B f = s := ⟨_, rfl⟩
 rw [hs]
 clear hs
 go_enter Tryz.func13, Tryz.ntmps13
 go_wp2_with fail
 all_goals (go_ret; exact ⟨⟨_, rfl⟩, Below.refl _ _⟩)
end Go.Proofs.YtnegfigaiomehaaGreatDoor.Tp
end
section
namespace Go.Proofs.YtnegfigaiomehaaGreatDoor.Tp
open Go.RowKit Go.Lib Go.Shelf Go.Maps Go.Proofs.YtnegfigaiomehaaGreatDoorW.PrintWords Go.Proofs.YtnegfigaiomehaaGreatDoorW.PrintLast Go.Proofs.YtnegfigaiomehaaGreatDoorW.PrintMore Go.Proofs.YtnegfigaiomehaaGreatDoor.U Go.Proofs.YtnegfigaiomehaaGreatDoor.P Go.Proofs.YtnegfigaiomehaaGreatDoor.PTh Go.Proofs.YtnegfigaiomehaaGreatDoor.MapV Go.Proofs.YtnegfigaiomehaaGreatDoor.Ck
structure SizedR (es : List EdgeL) (defs : List Txt) : Prop where
  n : es.length ≤ 30
  d : defs.length ≤ 20
  e : ∀ e ∈ es, e.outs.length ≤ 10 ∧ e.ins.length ≤ 10 ∧ e.imp.length ≤ 10 ∧ e.ord.length ≤ 10 ∧ e.cmd.length ≤ 300 ∧ e.dep.length ≤ 200
  x : ∀ e ∈ es, ∀ f, f ∈ e.outs ∨ f ∈ needsL e → f.length ≤ 200
  dx : ∀ t ∈ defs, t.length ≤ 200
set_option maxRecDepth 100000 in
set_option maxHeartbeats 16000000 in
theorem Right12_weak (A A1 : Option Addr) (c c1 : Nat) (es : List EdgeL) (defs : List Txt) (w : World) (h : Kd.C KR w A es.length (es.map toR)) (h1 : Kd.C Kd.string w A1 defs.length (defs.map B)) (hS : SizedR es defs) :
    Calls Tryz.prog 10 #[.agg #[.slice A es.length c, .slice A1 defs.length c1]] w (SomeB w) := by
  have hn := hS.n
  obtain ⟨n, hN⟩ : ∃ n, es.length = n := ⟨_, rfl⟩
  have hNH := Lib.hid hN
  have hCH := Lib.hid h
  have hSH := Lib.hid hS
  obtain ⟨w0, hw0⟩ : ∃ x, w.alloc (.cells #[.slice A n c, .slice A1 defs.length c1] 25) = x := ⟨_, rfl⟩
  have hbx : Below w.heap.size w w0 := by rw [← hw0]; exact (Below.refl _ _).alloc (Nat.le_refl _) _
  have hx := heap_alloc_new w (.cells #[.slice A n c, .slice A1 defs.length c1] 25)
  rw [hw0] at hx
  have hw0H := Lib.hid hw0
  have hP := Lib.hid (paths_weak A1 c1 defs w0 (Kd.C_below h1 hbx) (by have := hS.d; omega))
  rw [hN] at hn ⊢
  obtain ⟨q, hq⟩ : ∃ x, w.heap.size = x := ⟨_, rfl⟩
  rw [hq] at hx
  have hbxH := Lib.hid hbx
  have hxH := Lib.hid hx
  have hqH := Lib.hid hq
  have hgt : decide ((n : Int) > 200) = false := by rw [decide_eq_false_iff_not]; omega
  have hgt2 : decide ((200 : Int) < (n : Int)) = false := by rw [decide_eq_false_iff_not]; omega
  have x1 := (cell_of_heap (j := 1) hx).trans rfl
  have x0 := (cell_of_heap (j := 0) hx).trans rfl
  clear hN h h1 hS hbx hx hw0 hq
  go_enter Tryz.func10, Tryz.ntmps10
  go_upto_region 1 with (fail)
  rw [hw0H.out, hqH.out]
  clear hw0H
  go_wp2_with fail
  refine hP.out.mono ?_
  rintro e w1 ⟨⟨b, rfl⟩, hb⟩
  have hB1 := Lib.hid (hbxH.out.trans (hb.mono hbxH.out.size))
  have hx1 := Lib.hid (below_blk hb hxH.out)
  clear hb x0 x1 hP hbxH hxH
  cases b with
  | false =>
    go_wp2_with fail
    go_ret
    exact ⟨⟨_, rfl⟩, hB1.out⟩
  | true =>
    have x0 := (cell_of_heap (j := 0) hx1.out).trans rfl
    go_wp2_with fail
    clear x0
    go_loopg [3] n (fun gk s3 wr => ∃ i : Nat, s3 = .int .i64 (i : Int) ∧ i + gk = n ∧ Hid (Below w1.heap.size w1 wr))
    case atStart => exact ⟨0, rfl, Nat.zero_add _, Below.refl _ _⟩
    case round =>
      obtain ⟨i, rfl, hik, hB0⟩ := hrel
      have hB : Hid (Below w.heap.size w wr) := Lib.hid (hB1.out.trans (hB0.out.mono hB1.out.size))
      have x0 := (cell_of_heap (j := 0) (below_blk hB0.out hx1.out)).trans rfl
      cases gk with
      | zero =>
        obtain rfl : i = n := by omega
        have hlt : decide ((i : Int) < (i : Int)) = false := by simp
        go_wp2_with fail
        go_ret
        exact ⟨⟨_, rfl⟩, hB.out⟩
      | succ gk =>
        have hi : i < es.length := by rw [hNH.out]; omega
        have hlt : decide ((i : Int) < (n : Int)) = true := by rw [decide_eq_true_iff]; omega
        have i1 : (0 : Int) ≤ (i : Int) := by omega
        have i2 : (i : Int) < (n : Int) := by omega
        obtain ⟨ad, a0, d0, a1, d1, a2, d2, a3, d3, hAd, k0, k1, k2, k3, k4, k5, g0, g1, g2, g3⟩ := edgeR_at rfl hCH.out i hi
        subst hAd
        replace k0 := below_cell hB.out k0
        replace k1 := below_cell hB.out k1
        replace k2 := below_cell hB.out k2
        replace k3 := below_cell hB.out k3
        replace k4 := below_cell hB.out k4
        replace k5 := below_cell hB.out k5
        have hse := hSH.out.e es[i] (List.getElem_mem hi)
        generalize es[i] = e at *
        obtain ⟨wa, hwa⟩ : ∃ x, wr.alloc (.cells #[.slice a0 e.outs.length d0, .slice a1 e.ins.length d1, .slice a2 e.imp.length d2, .slice a3 e.ord.length d3, .string (B e.cmd), .string (B e.dep)] 51) = x := ⟨_, rfl⟩
        have hba : Below wr.heap.size wr wa := by rw [← hwa]; exact (Below.refl _ _).alloc (Nat.le_refl _) _
        have hxa := heap_alloc_new wr (.cells #[.slice a0 e.outs.length d0, .slice a1 e.ins.length d1, .slice a2 e.imp.length d2, .slice a3 e.ord.length d3, .string (B e.cmd), .string (B e.dep)] 51)
        rw [hwa] at hxa
        obtain ⟨p, hp⟩ : ∃ x, wr.heap.size = x := ⟨_, rfl⟩
        rw [hp] at hxa
        have hxa0 := Lib.hid hxa
        have hBa0 := Lib.hid (hB0.out.trans (hba.mono hB0.out.size))
        have hwaH := Lib.hid hwa
        have hpH := Lib.hid hp
        have hP0 := Lib.hid (fun W (hW : Below w.heap.size w W) => paths_weak a0 d0 e.outs W (Kd.C_below g0 hW) (by omega))
        have hP1 := Lib.hid (fun W (hW : Below w.heap.size w W) => paths_weak a1 d1 e.ins W (Kd.C_below g1 hW) (by omega))
        have hP2 := Lib.hid (fun W (hW : Below w.heap.size w W) => paths_weak a2 d2 e.imp W (Kd.C_below g2 hW) (by omega))
        have hP3 := Lib.hid (fun W (hW : Below w.heap.size w W) => paths_weak a3 d3 e.ord W (Kd.C_below g3 hW) (by omega))
        have hR5 := Lib.hid (fun W => Right03_weak e.dep W)
        have hcl : (B e.cmd).size ≤ 300 := by rw [size_B]; omega
        obtain ⟨n0, hn0⟩ : ∃ x, e.outs.length = x := ⟨_, rfl⟩
        obtain ⟨n1, hn1⟩ : ∃ x, e.ins.length = x := ⟨_, rfl⟩
        obtain ⟨n2, hn2⟩ : ∃ x, e.imp.length = x := ⟨_, rfl⟩
        obtain ⟨n3, hn3⟩ : ∃ x, e.ord.length = x := ⟨_, rfl⟩
        rw [hn0] at hxa0 hP0 hwaH k0
        rw [hn1] at hxa0 hP1 hwaH k1
        rw [hn2] at hxa0 hP2 hwaH k2
        rw [hn3] at hxa0 hP3 hwaH k3
        generalize B e.cmd = sc at *
        generalize B e.dep = sd at *
        clear hn0 hn1 hn2 hn3 hse g0 g1 g2 g3 hba hxa hwa hp hB
        go_upto_region 7 with (fail)
        rw [hwaH.out, hpH.out]
        clear hwaH hpH k0 k1 k2 k3 k4 k5 x0
        have hBw0 : Hid (Below w.heap.size w wa) := Lib.hid (hB1.out.trans (hBa0.out.mono hB1.out.size))
        have y0 := (cell_of_heap (j := 0) hxa0.out).trans rfl
        have y1 := (cell_of_heap (j := 1) hxa0.out).trans rfl
        have y2 := (cell_of_heap (j := 2) hxa0.out).trans rfl
        have y3 := (cell_of_heap (j := 3) hxa0.out).trans rfl
        have y4 := (cell_of_heap (j := 4) hxa0.out).trans rfl
        have y5 := (cell_of_heap (j := 5) hxa0.out).trans rfl
        by_cases hz : n0 = 0
        · subst hz
          go_wp2_with fail
          go_ret
          exact ⟨⟨_, rfl⟩, hBw0.out⟩
        have z1 : decide ((n0 : Int) = 0) = false := by rw [decide_eq_false_iff_not]; omega
        have z2 : ((n0 : Int) == 0) = false := by rw [beq_eq_false_iff_ne]; omega
        have z3 : (n0 == 0) = false := by rw [beq_eq_false_iff_ne]; exact hz
        go_wp2_with fail
        refine (hP0.out _ hBw0.out).mono ?_
        rintro x w2 ⟨⟨b, rfl⟩, hb⟩
        have hBa1 := Lib.hid (hBa0.out.trans (hb.mono hBa0.out.size))
        have hBw1 := Lib.hid (hBw0.out.trans (hb.mono hBw0.out.size))
        have hxa1 := Lib.hid (below_blk hb hxa0.out)
        clear hb y0 y1 y2 y3 y4 y5 hBa0 hBw0 hxa0 hP0
        cases b with
        | false =>
          go_wp2_with fail
          go_ret
          exact ⟨⟨_, rfl⟩, hBw1.out⟩
        | true =>
          have y0 := (cell_of_heap (j := 0) hxa1.out).trans rfl
          have y1 := (cell_of_heap (j := 1) hxa1.out).trans rfl
          have y2 := (cell_of_heap (j := 2) hxa1.out).trans rfl
          have y3 := (cell_of_heap (j := 3) hxa1.out).trans rfl
          have y4 := (cell_of_heap (j := 4) hxa1.out).trans rfl
          have y5 := (cell_of_heap (j := 5) hxa1.out).trans rfl
          go_wp2_with fail
          refine (hP1.out _ hBw1.out).mono ?_
          rintro x w3 ⟨⟨b, rfl⟩, hb⟩
          have hBa2 := Lib.hid (hBa1.out.trans (hb.mono hBa1.out.size))
          have hBw2 := Lib.hid (hBw1.out.trans (hb.mono hBw1.out.size))
          have hxa2 := Lib.hid (below_blk hb hxa1.out)
          clear hb y0 y1 y2 y3 y4 y5 hBa1 hBw1 hxa1 hP1
          cases b with
          | false =>
            go_wp2_with fail
            go_ret
            exact ⟨⟨_, rfl⟩, hBw2.out⟩
          | true =>
            have y0 := (cell_of_heap (j := 0) hxa2.out).trans rfl
            have y1 := (cell_of_heap (j := 1) hxa2.out).trans rfl
            have y2 := (cell_of_heap (j := 2) hxa2.out).trans rfl
            have y3 := (cell_of_heap (j := 3) hxa2.out).trans rfl
            have y4 := (cell_of_heap (j := 4) hxa2.out).trans rfl
            have y5 := (cell_of_heap (j := 5) hxa2.out).trans rfl
            go_wp2_with fail
            refine (hP2.out _ hBw2.out).mono ?_
            rintro x w4 ⟨⟨b, rfl⟩, hb⟩
            have hBa3 := Lib.hid (hBa2.out.trans (hb.mono hBa2.out.size))
            have hBw3 := Lib.hid (hBw2.out.trans (hb.mono hBw2.out.size))
            have hxa3 := Lib.hid (below_blk hb hxa2.out)
            clear hb y0 y1 y2 y3 y4 y5 hBa2 hBw2 hxa2 hP2
            cases b with
            | false =>
              go_wp2_with fail
              go_ret
              exact ⟨⟨_, rfl⟩, hBw3.out⟩
            | true =>
              have y0 := (cell_of_heap (j := 0) hxa3.out).trans rfl
              have y1 := (cell_of_heap (j := 1) hxa3.out).trans rfl
              have y2 := (cell_of_heap (j := 2) hxa3.out).trans rfl
              have y3 := (cell_of_heap (j := 3) hxa3.out).trans rfl
              have y4 := (cell_of_heap (j := 4) hxa3.out).trans rfl
              have y5 := (cell_of_heap (j := 5) hxa3.out).trans rfl
              go_wp2_with fail
              refine (hP3.out _ hBw3.out).mono ?_
              rintro x w5 ⟨⟨b, rfl⟩, hb⟩
              have hBa4 := Lib.hid (hBa3.out.trans (hb.mono hBa3.out.size))
              have hBw4 := Lib.hid (hBw3.out.trans (hb.mono hBw3.out.size))
              have hxa4 := Lib.hid (below_blk hb hxa3.out)
              clear hb y0 y1 y2 y3 y4 y5 hBa3 hBw3 hxa3 hP3
              cases b with
              | false =>
                go_wp2_with fail
                go_ret
                exact ⟨⟨_, rfl⟩, hBw4.out⟩
              | true =>
                have y0 := (cell_of_heap (j := 0) hxa4.out).trans rfl
                have y1 := (cell_of_heap (j := 1) hxa4.out).trans rfl
                have y2 := (cell_of_heap (j := 2) hxa4.out).trans rfl
                have y3 := (cell_of_heap (j := 3) hxa4.out).trans rfl
                have y4 := (cell_of_heap (j := 4) hxa4.out).trans rfl
                have y5 := (cell_of_heap (j := 5) hxa4.out).trans rfl
                cases hce : sc.toList.isEmpty with
                | true =>
                  go_wp2_with fail
                  go_ret
                  exact ⟨⟨_, rfl⟩, hBw4.out⟩
                | false =>
                  cases hde : sd.toList.isEmpty with
                  | true =>
                    go_wp2_with fail
                    obtain ⟨gi, rfl⟩ : ∃ g, g = gk := ⟨_, rfl⟩
                    obtain ⟨m, hm⟩ : ∃ x, sc.size = x := ⟨_, rfl⟩
                    have hmH := Lib.hid hm
                    have hml : m ≤ 300 := by omega
                    go_loopg [5] m (fun gj s5 wj => ∃ j : Nat, s5 = .int .i64 (j : Int) ∧ j + gj = m ∧ w5 = wj)
                    case atStart => exact ⟨0, rfl, Nat.zero_add _, rfl⟩
                    case round =>
                      obtain ⟨j, rfl, hjk, rfl⟩ := hrel
                      cases gk with
                      | zero =>
                        obtain rfl : j = m := by omega
                        have hlt2 : decide ((j : Int) < (j : Int)) = false := by simp
                        go_wp2_with fail
                        go_roundg gi
                        case measure => omega
                        case rel => exact ⟨i + 1, by first | rfl | simp, by omega, hBa4⟩
                      | succ gj =>
                        have hlt2 : decide ((j : Int) < (m : Int)) = true := by rw [decide_eq_true_iff]; omega
                        have j1 : (0 : Int) ≤ (j : Int) := by omega
                        have j2 : (j : Int) < (m : Int) := by omega
                        go_wp2_with fail
                        all_goals first
                          | (go_ret; exact ⟨⟨_, rfl⟩, hBw4.out⟩)
                          | (go_roundg gj
                             case measure => omega
                             case rel => exact ⟨j + 1, by first | rfl | simp, by omega, rfl⟩)
                  | false =>
                    go_wp2_with fail
                    refine (hR5.out _).mono ?_
                    rintro x w6 ⟨⟨b, rfl⟩, hb⟩
                    have hBa5 := Lib.hid (hBa4.out.trans (hb.mono hBa4.out.size))
                    have hBw5 := Lib.hid (hBw4.out.trans (hb.mono hBw4.out.size))
                    have hxa5 := Lib.hid (below_blk hb hxa4.out)
                    clear hb y0 y1 y2 y3 y4 y5 hBa4 hBw4 hxa4
                    have y4 := (cell_of_heap (j := 4) hxa5.out).trans rfl
                    cases b with
                    | false =>
                      go_wp2_with fail
                      go_ret
                      exact ⟨⟨_, rfl⟩, hBw5.out⟩
                    | true =>
                      go_wp2_with fail
                      obtain ⟨gi, rfl⟩ : ∃ g, g = gk := ⟨_, rfl⟩
                      obtain ⟨m, hm⟩ : ∃ x, sc.size = x := ⟨_, rfl⟩
                      have hmH := Lib.hid hm
                      have hml : m ≤ 300 := by omega
                      go_loopg [5] m (fun gj s5 wj => ∃ j : Nat, s5 = .int .i64 (j : Int) ∧ j + gj = m ∧ w6 = wj)
                      case atStart => exact ⟨0, rfl, Nat.zero_add _, rfl⟩
                      case round =>
                        obtain ⟨j, rfl, hjk, rfl⟩ := hrel
                        cases gk with
                        | zero =>
                          obtain rfl : j = m := by omega
                          have hlt2 : decide ((j : Int) < (j : Int)) = false := by simp
                          go_wp2_with fail
                          go_roundg gi
                          case measure => omega
                          case rel => exact ⟨i + 1, by first | rfl | simp, by omega, hBa5⟩
                        | succ gj =>
                          have hlt2 : decide ((j : Int) < (m : Int)) = true := by rw [decide_eq_true_iff]; omega
                          have j1 : (0 : Int) ≤ (j : Int) := by omega
                          have j2 : (j : Int) < (m : Int) := by omega
                          go_wp2_with fail
                          all_goals first
                            | (go_ret; exact ⟨⟨_, rfl⟩, hBw5.out⟩)
                            | (go_roundg gj
                               case measure => omega
                               case rel => exact ⟨j + 1, by first | rfl | simp, by omega, rfl⟩)
end Go.Proofs.YtnegfigaiomehaaGreatDoor.Tp
end
section
namespace Go.Proofs.YtnegfigaiomehaaGreatDoor.Tp
open Go.RowKit Go.Lib Go.Shelf Go.Maps Go.Proofs.YtnegfigaiomehaaGreatDoorW.PrintWords Go.Proofs.YtnegfigaiomehaaGreatDoorW.PrintLast Go.Proofs.YtnegfigaiomehaaGreatDoorW.PrintMore Go.Proofs.YtnegfigaiomehaaGreatDoor.U Go.Proofs.YtnegfigaiomehaaGreatDoor.P Go.Proofs.YtnegfigaiomehaaGreatDoor.PTh Go.Proofs.YtnegfigaiomehaaGreatDoor.MapV Go.Proofs.YtnegfigaiomehaaGreatDoor.Ck
theorem joins (a b : ByteArray) (h : a.size + b.size ≤ 9223372036854775807) : (9223372036854775807 < a.size + b.size) = False ∧ (a.size + b.size ≤ 9223372036854775807) = True ∧ decide (a.size + b.size ≤ 9223372036854775807) = true ∧ (9223372036854775807 < (a ++ b).size) = False ∧ ((a ++ b).size ≤ 9223372036854775807) = True :=
 ⟨eq_false (by omega), eq_true h, decide_eq_true h, eq_false (by rw [ByteArray.size_append]; omega), eq_true (by rw [ByteArray.size_append]; exact h)⟩
set_option maxRecDepth 100000 in
set_option maxHeartbeats 4000000 in
theorem Escape_weak (s : ByteArray) (w : World) (hs : s.size ≤ 1000) : Calls Tryz.prog 37 #[.string s] w (SomeS (2 * s.size) w) := by
 obtain ⟨n, hN⟩ : ∃ n, s.size = n := ⟨_, rfl⟩
 have hNH := Lib.hid hN
 rw [hN] at hs ⊢
 go_enter Tryz.func37, Tryz.ntmps37
 go_wp2_with fail
 go_loopg [3, 4] n (fun gk s3 s4 wr => ∃ (i : Nat) (x : ByteArray), s4 = .int .i64 (i : Int) ∧ i + gk = n ∧ s3 = .string x ∧ x.size ≤ 2 * i ∧ w = wr)
 case atStart => exact ⟨0, ⟨#[]⟩, rfl, Nat.zero_add _, rfl, by decide, rfl⟩
 case round =>
  obtain ⟨i, x, rfl, hik, rfl, hx, rfl⟩ := hrel
  cases gk with
  | zero =>
   obtain rfl : i = n := by omega
   have hlt : decide ((i : Int) < (i : Int)) = false := by simp
   go_wp2_with fail
   go_ret
   exact ⟨⟨x, hx, rfl⟩, Below.refl _ _⟩
  | succ gk =>
   have hlt : decide ((i : Int) < (n : Int)) = true := by rw [decide_eq_true_iff]; omega
   have i1 : (0 : Int) ≤ (i : Int) := by omega
   have i2 : (i : Int) < (n : Int) := by omega
   obtain ⟨d1, d2, d3, d4, d5⟩ := joins x ⟨#[36]⟩ (by have : (⟨#[36]⟩ : ByteArray).size = 1 := rfl; omega)
   go_upto_region 5 with (fail)
   go_cut [3, 32] (fun s3 s32 wx => ∃ b, s32 = .bool b ∧ s3 = .string x ∧ w = wx)
   case first =>
    go_wp2_with fail
    all_goals (go_meet; exact ⟨_, rfl, rfl, rfl⟩)
   case rest =>
    obtain ⟨b, rfl, rfl, rfl⟩ := hcut
    have i3 : (i : Int) + 1 ≤ (n : Int) := by omega
    have i4 : (i : Int) ≤ (i : Int) + 1 := by omega
    have hsl : (s.extract i (i + 1)).size ≤ 1 := by rw [ByteArray.size_extract]; omega
    obtain ⟨e1, e2, e3, e4, e5⟩ := joins x (s.extract i (i + 1)) (by omega)
    have h36 : (⟨#[36]⟩ : ByteArray).size = 1 := rfl
    obtain ⟨f1, f2, f3, f4, f5⟩ := joins (x ++ ⟨#[36]⟩) (s.extract i (i + 1)) (by rw [ByteArray.size_append]; omega)
    cases b with
    | true =>
     go_wp2_with fail
     go_roundg gk
     case measure => omega
     case rel => exact ⟨i + 1, _, by first | rfl | simp, by omega, rfl, by rw [ByteArray.size_append, ByteArray.size_append]; omega, rfl⟩
    | false =>
     go_wp2_with fail
     go_roundg gk
     case measure => omega
     case rel => exact ⟨i + 1, _, by first | rfl | simp, by omega, rfl, by rw [ByteArray.size_append]; omega, rfl⟩
set_option maxRecDepth 100000 in
set_option maxHeartbeats 4000000 in
theorem digit_weak (n : Nat) (w : World) (hn : n < 10) : Calls Tryz.prog 36 #[.int .i64 (n : Int)] w (SomeS 1 w) := by
 have h1 : decide ((n : Int) < 10) = true := by rw [decide_eq_true_iff]; omega
 have i1 : (0 : Int) ≤ (n : Int) := by omega
 have i2 : (n : Int) + 1 ≤ 10 := by omega
 have i3 : (n : Int) ≤ (n : Int) + 1 := by omega
 go_enter Tryz.func36, Tryz.ntmps36
 go_wp2_with fail
 go_ret
 exact ⟨⟨_, by rw [ByteArray.size_extract]; omega, rfl⟩, Below.refl _ _⟩
set_option maxRecDepth 100000 in
set_option maxHeartbeats 4000000 in
theorem Digits_weak (n : Nat) (w : World) (hn : n < 100) : Calls Tryz.prog 36 #[.int .i64 (n : Int)] w (SomeS 2 w) := by
 by_cases h10 : n < 10
 ·exact (digit_weak n w h10).mono (fun e w' ⟨⟨s, h1, h2⟩, h3⟩ => ⟨⟨s, by omega, h2⟩, h3⟩)
 ·have h1 : decide ((n : Int) < 10) = false := by rw [decide_eq_false_iff_not]; omega
  obtain ⟨q, hq⟩ : ∃ q, n / 10 = q := ⟨_, rfl⟩
  obtain ⟨r, hr⟩ : ∃ r, n % 10 = r := ⟨_, rfl⟩
  have t1 : Int.tdiv (n : Int) 10 = (q : Int) := by rw [← hq]; rfl
  have t2 : Int.tmod (n : Int) 10 = (r : Int) := by rw [← hr]; rfl
  have hD := Lib.hid (fun W => digit_weak q W (by omega))
  have i1 : (0 : Int) ≤ (r : Int) := by omega
  have i2 : (r : Int) + 1 ≤ 10 := by omega
  have i3 : (r : Int) ≤ (r : Int) + 1 := by omega
  have hql : q < 10 := by omega
  have hrl : r < 10 := by omega
  have w1 : IntKind.i64.wrap (q : Int) = (q : Int) := by simp [IntKind.wrap, IntKind.bits, IntKind.signed]; omega
  have w2 : IntKind.i64.wrap ((r : Int) + 1) = (r : Int) + 1 := by simp [IntKind.wrap, IntKind.bits, IntKind.signed]; omega
  clear hq hr
  go_enter Tryz.func36, Tryz.ntmps36
  go_wp2_with fail
  refine RegP.region (fun _ => True) 2 [(0, 0), (0, 1), (0, 3), (0, 4), (0, 5), (0, 6), (0, 7), (0, 8), (3, 2), (0, 9), (0, 10)] (by kernel_rfl) (by kernel_rfl) (by rfl) (by kernel_rfl) trivial ?_
  repeat ((first | refine RegP.pu ?_ | refine RegP.he ?_ | refine RegP.sk ?_); try simp only [Act.put, pA,pB,pC])
  refine RegP.laq (fun K hK => ?_)
  go_simp
  refine (hD.out _).mono ?_
  rintro x w1 ⟨⟨y, hy, rfl⟩, hb⟩
  have hB1 : Hid (Below w.heap.size w w1) := Lib.hid ((Below.refl w.heap.size w).drew.trans (hb.mono (Nat.le_refl _)))
  have hsl : ((⟨#[48, 49, 50, 51, 52, 53, 54, 55, 56, 57]⟩ : ByteArray).extract r (r + 1)).size ≤ 1 := by rw [ByteArray.size_extract]; omega
  generalize (⟨#[48, 49, 50, 51, 52, 53, 54, 55, 56, 57]⟩ : ByteArray).extract r (r + 1) = z at *
  obtain ⟨d1, d2, d3, d4, d5⟩ := joins y z (by omega)
  clear hb
  refine hK.out _ _ ?_
  clear hK K
  try simp only [Act.put, pA,pB,pC]
  repeat ((first | refine RegP.pu ?_ | refine RegP.he ?_ | refine RegP.sk ?_); try simp only [Act.put, pA,pB,pC])
  refine RegP.done1 ?_
  try dsimp only
  go_wp2_with fail
  go_ret
  exact ⟨⟨_, by rw [ByteArray.size_append]; omega, rfl⟩, hB1.out⟩
set_option maxRecDepth 100000 in
set_option maxHeartbeats 4000000 in
theorem row_weak (A : Option Addr) (c : Nat) (l : List Txt) (w : World) (h : Kd.C Kd.string w A l.length (l.map B)) (hn : l.length ≤ 100) (hx : ∀ t ∈ l, t.length ≤ 1000) : Calls Tryz.prog 38 #[.slice A l.length c] w (SomeS 300000 w) := by
 obtain ⟨n, hN⟩ : ∃ n, l.length = n := ⟨_, rfl⟩
 have hNH := Lib.hid hN
 have hCH := Lib.hid h
 have hxH := Lib.hid hx
 rw [hN] at hn ⊢
 clear hN h hx
 go_enter Tryz.func38, Tryz.ntmps38
 go_wp2_with fail
 go_loopg [3, 4] n (fun gk s3 s4 wr => ∃ (i : Nat) (x : ByteArray), s4 = .int .i64 (i : Int) ∧ i + gk = n ∧ s3 = .string x ∧ x.size ≤ 2001 * i ∧ Hid (Below w.heap.size w wr))
 case atStart => exact ⟨0, ⟨#[]⟩, rfl, Nat.zero_add _, rfl, by decide, Below.refl _ _⟩
 case round =>
  obtain ⟨i, x, rfl, hik, rfl, hxs, hB⟩ := hrel
  cases gk with
  | zero =>
   obtain rfl : i = n := by omega
   have hlt : decide ((i : Int) < (i : Int)) = false := by simp
   go_wp2_with fail
   go_ret
   exact ⟨⟨x, by omega, rfl⟩, hB.out⟩
  | succ gk =>
   have hi : i < l.length := by rw [hNH.out]; omega
   have hlt : decide ((i : Int) < (n : Int)) = true := by rw [decide_eq_true_iff]; omega
   have i1 : (0 : Int) ≤ (i : Int) := by omega
   have i2 : (i : Int) < (n : Int) := by omega
   obtain ⟨ad, hAd, k0⟩ := text_at hCH.out i hi
   subst hAd
   replace k0 := below_cell hB.out k0
   have hl := hxH.out l[i] (List.getElem_mem hi)
   generalize l[i] = t at *
   have hE := Lib.hid (Escape_weak (B t) wr (by rw [size_B]; omega))
   have hst : (B t).size ≤ 1000 := by rw [size_B]; omega
   generalize B t = st at *
   go_wp2_with fail
   refine hE.out.mono ?_
   rintro e w1 ⟨⟨y, hy, rfl⟩, hb⟩
   have hB1 := Lib.hid (hB.out.trans (hb.mono hB.out.size))
   have h32 : (⟨#[32]⟩ : ByteArray).size = 1 := rfl
   obtain ⟨d1, d2, d3, d4, d5⟩ := joins ⟨#[32]⟩ y (by omega)
   obtain ⟨f1, f2, f3, f4, f5⟩ := joins x (⟨#[32]⟩ ++ y) (by rw [ByteArray.size_append]; omega)
   have c5b : (9223372036854775807 < 1 + y.size) = False := eq_false (by omega)
   clear hb k0 hE
   go_wp2_with fail
   go_roundg gk
   case measure => omega
   case rel => exact ⟨i + 1, _, by first | rfl | simp, by omega, rfl, by rw [ByteArray.size_append, ByteArray.size_append]; omega, hB1⟩
end Go.Proofs.YtnegfigaiomehaaGreatDoor.Tp
end
section
namespace Go.Proofs.YtnegfigaiomehaaGreatDoor.Tp
open Go.RowKit Go.Lib Go.Shelf Go.Maps Go.Proofs.YtnegfigaiomehaaGreatDoorW.PrintWords Go.Proofs.YtnegfigaiomehaaGreatDoorW.PrintLast Go.Proofs.YtnegfigaiomehaaGreatDoorW.PrintMore Go.Proofs.YtnegfigaiomehaaGreatDoor.U Go.Proofs.YtnegfigaiomehaaGreatDoor.P Go.Proofs.YtnegfigaiomehaaGreatDoor.PTh Go.Proofs.YtnegfigaiomehaaGreatDoor.MapV Go.Proofs.YtnegfigaiomehaaGreatDoor.Ck
theorem fit3 (n : Nat) (h : n ≤ 9223372036854775807) : (9223372036854775807 < n) = False ∧ (n ≤ 9223372036854775807) = True ∧ decide (n ≤ 9223372036854775807) = true := ⟨eq_false (by omega), eq_true h, decide_eq_true h⟩
set_option maxRecDepth 100000 in
set_option maxHeartbeats 16000000 in
theorem Print_weak (A A1 : Option Addr) (c c1 : Nat) (es : List EdgeL) (defs : List Txt) (w : World) (h : Kd.C KR w A es.length (es.map toR)) (h1 : Kd.C Kd.string w A1 defs.length (defs.map B)) (hS : SizedR es defs) :
  Calls Tryz.prog 11 #[.agg #[.slice A es.length c, .slice A1 defs.length c1]] w (SomeS 1000000000 w) := by
 have hn := hS.n
 obtain ⟨n, hN⟩ : ∃ n, es.length = n := ⟨_, rfl⟩
 obtain ⟨nd, hnd⟩ : ∃ n, defs.length = n := ⟨_, rfl⟩
 have hNH := Lib.hid hN
 have hCH := Lib.hid h
 have hSH := Lib.hid hS
 obtain ⟨w0, hw0⟩ : ∃ x, w.alloc (.cells #[.slice A n c, .slice A1 nd c1] 25) = x := ⟨_, rfl⟩
 have hbx : Below w.heap.size w w0 := by rw [← hw0]; exact (Below.refl _ _).alloc (Nat.le_refl _) _
 have hx := heap_alloc_new w (.cells #[.slice A n c, .slice A1 nd c1] 25)
 rw [hw0] at hx
 have hw0H := Lib.hid hw0
 have hRd := Lib.hid (fun W (hW : Below w.heap.size w W) => row_weak A1 c1 defs W (Kd.C_below h1 hW) (by have := hS.d; omega) (fun t ht => by have := hS.dx t ht; omega))
 rw [hN] at hn ⊢
 rw [hnd] at hRd ⊢
 obtain ⟨q, hq⟩ : ∃ x, w.heap.size = x := ⟨_, rfl⟩
 rw [hq] at hx
 have hbxH := Lib.hid hbx
 have hxH := Lib.hid hx
 have hqH := Lib.hid hq
 clear hN h h1 hS hbx hx hw0 hq hnd
 go_enter Tryz.func11, Tryz.ntmps11
 go_upto_region 1 with (fail)
 rw [hw0H.out, hqH.out]
 clear hw0H
 go_wp2_with fail
 go_loopg [3, 4] n (fun gk s3 s4 wr => ∃ (i : Nat) (x : ByteArray), s4 = .int .i64 (i : Int) ∧ i + gk = n ∧ s3 = .string x ∧ x.size ≤ 10000000 * i ∧ Hid (Below w0.heap.size w0 wr))
 case atStart => exact ⟨0, ⟨#[]⟩, rfl, Nat.zero_add _, rfl, by decide, Below.refl _ _⟩
 case round =>
  obtain ⟨i, x, rfl, hik, rfl, hxs, hB0⟩ := hrel
  have hB : Hid (Below w.heap.size w wr) := Lib.hid (hbxH.out.trans (hB0.out.mono hbxH.out.size))
  have hxr := Lib.hid (below_blk hB0.out hxH.out)
  have x0 := (cell_of_heap (j := 0) hxr.out).trans rfl
  cases gk with
  | zero =>
   obtain rfl : i = n := by omega
   have hlt : decide ((i : Int) < (i : Int)) = false := by simp
   have x1 := (cell_of_heap (j := 1) hxr.out).trans rfl
   go_upto_region 15 with (fail)
   go_cut [78] (fun s78 wx => ∃ b, s78 = .bool b ∧ wr = wx)
   case first =>
    go_wp2_with fail
    all_goals (go_meet; exact ⟨_, rfl, rfl⟩)
   case rest =>
    obtain ⟨b, rfl, rfl⟩ := hcut
    cases b with
    | false =>
     go_wp2_with fail
     go_ret
     exact ⟨⟨x, by omega, rfl⟩, hB.out⟩
    | true =>
     have x1 := (cell_of_heap (j := 1) hxr.out).trans rfl
     go_wp2_with fail
     refine (hRd.out _ hB.out).mono ?_
     rintro e w1 ⟨⟨y, hy, rfl⟩, hb⟩
     have hB1 := Lib.hid (hB.out.trans (hb.mono hB.out.size))
     obtain ⟨Ka1, Ka2, Ka3⟩ := fit3 (7 + y.size) (by have Ldef : (⟨#[100, 101, 102, 97, 117, 108, 116]⟩ : ByteArray).size = 7 := rfl; (try simp only [ByteArray.size_append]); omega)
     obtain ⟨Ka4, Ka5, Ka6⟩ := fit3 (7 + y.size) (by omega)
     have Ka7 := (joins ((⟨#[100, 101, 102, 97, 117, 108, 116]⟩ : ByteArray)) (y) (by have Ldef : (⟨#[100, 101, 102, 97, 117, 108, 116]⟩ : ByteArray).size = 7 := rfl; (try simp only [ByteArray.size_append]); omega)).2.2.2.1
     have Ka8 := (joins ((⟨#[100, 101, 102, 97, 117, 108, 116]⟩ : ByteArray)) (y) (by have Ldef : (⟨#[100, 101, 102, 97, 117, 108, 116]⟩ : ByteArray).size = 7 := rfl; (try simp only [ByteArray.size_append]); omega)).2.2.2.2
     obtain ⟨Kb1, Kb2, Kb3⟩ := fit3 (((⟨#[100, 101, 102, 97, 117, 108, 116]⟩ : ByteArray) ++ y).size + 1) (by have Lnl : (⟨#[10]⟩ : ByteArray).size = 1 := rfl; have Ldef : (⟨#[100, 101, 102, 97, 117, 108, 116]⟩ : ByteArray).size = 7 := rfl; (try simp only [ByteArray.size_append]); omega)
     obtain ⟨Kb4, Kb5, Kb6⟩ := fit3 (7 + y.size + 1) (by omega)
     have Kb7 := (joins (((⟨#[100, 101, 102, 97, 117, 108, 116]⟩ : ByteArray) ++ y)) ((⟨#[10]⟩ : ByteArray)) (by have Lnl : (⟨#[10]⟩ : ByteArray).size = 1 := rfl; have Ldef : (⟨#[100, 101, 102, 97, 117, 108, 116]⟩ : ByteArray).size = 7 := rfl; (try simp only [ByteArray.size_append]); omega)).2.2.2.1
     have Kb8 := (joins (((⟨#[100, 101, 102, 97, 117, 108, 116]⟩ : ByteArray) ++ y)) ((⟨#[10]⟩ : ByteArray)) (by have Lnl : (⟨#[10]⟩ : ByteArray).size = 1 := rfl; have Ldef : (⟨#[100, 101, 102, 97, 117, 108, 116]⟩ : ByteArray).size = 7 := rfl; (try simp only [ByteArray.size_append]); omega)).2.2.2.2
     obtain ⟨Kc1, Kc2, Kc3⟩ := fit3 (x.size + ((⟨#[100, 101, 102, 97, 117, 108, 116]⟩ : ByteArray) ++ y ++ (⟨#[10]⟩ : ByteArray)).size) (by have Lnl : (⟨#[10]⟩ : ByteArray).size = 1 := rfl; have Ldef : (⟨#[100, 101, 102, 97, 117, 108, 116]⟩ : ByteArray).size = 7 := rfl; (try simp only [ByteArray.size_append]); omega)
     obtain ⟨Kc4, Kc5, Kc6⟩ := fit3 (x.size + (7 + y.size + 1)) (by omega)
     have Kc7 := (joins (x) (((⟨#[100, 101, 102, 97, 117, 108, 116]⟩ : ByteArray) ++ y ++ (⟨#[10]⟩ : ByteArray))) (by have Lnl : (⟨#[10]⟩ : ByteArray).size = 1 := rfl; have Ldef : (⟨#[100, 101, 102, 97, 117, 108, 116]⟩ : ByteArray).size = 7 := rfl; (try simp only [ByteArray.size_append]); omega)).2.2.2.1
     have Kc8 := (joins (x) (((⟨#[100, 101, 102, 97, 117, 108, 116]⟩ : ByteArray) ++ y ++ (⟨#[10]⟩ : ByteArray))) (by have Lnl : (⟨#[10]⟩ : ByteArray).size = 1 := rfl; have Ldef : (⟨#[100, 101, 102, 97, 117, 108, 116]⟩ : ByteArray).size = 7 := rfl; (try simp only [ByteArray.size_append]); omega)).2.2.2.2
     clear hb
     go_wp2_with fail
     go_ret
     exact ⟨⟨_, by have Lnl : (⟨#[10]⟩ : ByteArray).size = 1 := rfl; have Ldef : (⟨#[100, 101, 102, 97, 117, 108, 116]⟩ : ByteArray).size = 7 := rfl; rw [ByteArray.size_append, ByteArray.size_append, ByteArray.size_append]; omega, rfl⟩, hB1.out⟩
  | succ gk =>
   have hi : i < es.length := by rw [hNH.out]; omega
   have hlt : decide ((i : Int) < (n : Int)) = true := by rw [decide_eq_true_iff]; omega
   have i1 : (0 : Int) ≤ (i : Int) := by omega
   have i2 : (i : Int) < (n : Int) := by omega
   obtain ⟨ad, a0, d0, a1, d1, a2, d2, a3, d3, hAd, k0, k1, k2, k3, k4, k5, g0, g1, g2, g3⟩ := edgeR_at rfl hCH.out i hi
   subst hAd
   replace k0 := below_cell hB.out k0
   replace k1 := below_cell hB.out k1
   replace k2 := below_cell hB.out k2
   replace k3 := below_cell hB.out k3
   replace k4 := below_cell hB.out k4
   replace k5 := below_cell hB.out k5
   have hse := hSH.out.e es[i] (List.getElem_mem hi)
   have hsx := hSH.out.x es[i] (List.getElem_mem hi)
   have hD := Lib.hid (fun W => Digits_weak i W (by omega))
   generalize es[i] = e at *
   obtain ⟨wa, hwa⟩ : ∃ x, wr.alloc (.cells #[.slice a0 e.outs.length d0, .slice a1 e.ins.length d1, .slice a2 e.imp.length d2, .slice a3 e.ord.length d3, .string (B e.cmd), .string (B e.dep)] 51) = x := ⟨_, rfl⟩
   have hba : Below wr.heap.size wr wa := by rw [← hwa]; exact (Below.refl _ _).alloc (Nat.le_refl _) _
   have hxa := heap_alloc_new wr (.cells #[.slice a0 e.outs.length d0, .slice a1 e.ins.length d1, .slice a2 e.imp.length d2, .slice a3 e.ord.length d3, .string (B e.cmd), .string (B e.dep)] 51)
   rw [hwa] at hxa
   obtain ⟨p, hp⟩ : ∃ x, wr.heap.size = x := ⟨_, rfl⟩
   rw [hp] at hxa
   have hxa0 := Lib.hid hxa
   have hBa := Lib.hid (hB0.out.trans (hba.mono hB0.out.size))
   have hBw := Lib.hid (hB.out.trans (hba.mono hB.out.size))
   have hwaH := Lib.hid hwa
   have hpH := Lib.hid hp
   have hP0 := Lib.hid (fun W (hW : Below w.heap.size w W) => row_weak a0 d0 e.outs W (Kd.C_below g0 hW) (by omega) (fun t ht => by have := hsx t (.inl ht); omega))
   have hP1 := Lib.hid (fun W (hW : Below w.heap.size w W) => row_weak a1 d1 e.ins W (Kd.C_below g1 hW) (by omega) (fun t ht => by have := hsx t (.inr (by simp [needsL, ht])); omega))
   have hP2 := Lib.hid (fun W (hW : Below w.heap.size w W) => row_weak a2 d2 e.imp W (Kd.C_below g2 hW) (by omega) (fun t ht => by have := hsx t (.inr (by simp [needsL, ht])); omega))
   have hP3 := Lib.hid (fun W (hW : Below w.heap.size w W) => row_weak a3 d3 e.ord W (Kd.C_below g3 hW) (by omega) (fun t ht => by have := hsx t (.inr (by simp [needsL, ht])); omega))
   have hcl : (B e.cmd).size ≤ 1000 := by rw [size_B]; omega
   have hdl : (B e.dep).size ≤ 1000 := by rw [size_B]; omega
   have hEc := Lib.hid (fun W => Escape_weak (B e.cmd) W hcl)
   have hEd := Lib.hid (fun W => Escape_weak (B e.dep) W hdl)
   obtain ⟨n0, hn0⟩ : ∃ x, e.outs.length = x := ⟨_, rfl⟩
   obtain ⟨n1, hn1⟩ : ∃ x, e.ins.length = x := ⟨_, rfl⟩
   obtain ⟨n2, hn2⟩ : ∃ x, e.imp.length = x := ⟨_, rfl⟩
   obtain ⟨n3, hn3⟩ : ∃ x, e.ord.length = x := ⟨_, rfl⟩
   rw [hn0] at hxa0 hP0 hwaH k0
   rw [hn1] at hxa0 hP1 hwaH k1
   rw [hn2] at hxa0 hP2 hwaH k2
   rw [hn3] at hxa0 hP3 hwaH k3
   generalize B e.cmd = sc at *
   generalize B e.dep = sd at *
   clear hn0 hn1 hn2 hn3 hse hsx g0 g1 g2 g3 hba hxa hwa hp hB hB0
   go_upto_region 6 with (fail)
   rw [hwaH.out, hpH.out]
   clear hwaH hpH k0 k1 k2 k3 k4 k5 x0 hlt hxr
   have hSS : Hid (∀ W' : World, W'.heap[p]? = some (.cells #[.slice a0 n0 d0, .slice a1 n1 d1, .slice a2 n2 d2, .slice a3 n3 d3, .string sc, .string sd] 51 (0, 0)) → (fun w' => w'.cell? ⟨p, 0, none⟩ = some (.slice a0 n0 d0) ∧ w'.cell? ⟨p, 1, none⟩ = some (.slice a1 n1 d1) ∧ w'.cell? ⟨p, 2, none⟩ = some (.slice a2 n2 d2) ∧ w'.cell? ⟨p, 3, none⟩ = some (.slice a3 n3 d3) ∧ w'.cell? ⟨p, 4, none⟩ = some (.string sc) ∧ w'.cell? ⟨p, 5, none⟩ = some (.string sd)) W') := Lib.hid (fun W' h2 => ⟨(cell_of_heap (j := 0) h2).trans rfl, (cell_of_heap (j := 1) h2).trans rfl, (cell_of_heap (j := 2) h2).trans rfl, (cell_of_heap (j := 3) h2).trans rfl, (cell_of_heap (j := 4) h2).trans rfl, (cell_of_heap (j := 5) h2).trans rfl⟩)
   have hxd : Hid (wa.drew.heap[p]? = some (.cells #[.slice a0 n0 d0, .slice a1 n1 d1, .slice a2 n2 d2, .slice a3 n3 d3, .string sc, .string sd] 51 (0, 0))) := Lib.hid (below_blk (Below.refl wa.heap.size wa).drew hxa0.out)
   have hBad : Hid (Below w0.heap.size w0 wa.drew) := Lib.hid hBa.out.drew
   have hBwd : Hid (Below w.heap.size w wa.drew) := Lib.hid hBw.out.drew
   refine RegP.region (fun w' => w'.cell? ⟨p, 0, none⟩ = some (.slice a0 n0 d0) ∧ w'.cell? ⟨p, 1, none⟩ = some (.slice a1 n1 d1) ∧ w'.cell? ⟨p, 2, none⟩ = some (.slice a2 n2 d2) ∧ w'.cell? ⟨p, 3, none⟩ = some (.slice a3 n3 d3) ∧ w'.cell? ⟨p, 4, none⟩ = some (.string sc) ∧ w'.cell? ⟨p, 5, none⟩ = some (.string sd)) 7 [(0, 0), (0, 1), (0, 5), (1, 6), (2, 2), (0, 3), (0, 4), (3, 7), (0, 8), (0, 9), (0, 10), (0, 11)] (by kernel_rfl) (by kernel_rfl) (by rfl) (by kernel_rfl) (by exact hSS.out _ hxd.out) ?_
   repeat ((first | refine RegP.pu ?_ | refine RegP.he ?_ | refine RegP.sk ?_); try simp only [Act.put, pA,pB,pC])
   refine RegP.evq (fun K hK => ?_)
   go_simp
   refine (hD.out _).mono ?_
   rintro x2 w2 ⟨⟨yD, hyD, rfl⟩, hb⟩
   have hBa2 := Lib.hid (hBad.out.trans (hb.mono hBad.out.size))
   have hBw2 := Lib.hid (hBwd.out.trans (hb.mono hBwd.out.size))
   have hxa2 := Lib.hid (below_blk hb hxd.out)
   clear hb
   obtain ⟨Ja1, Ja2, Ja3⟩ := fit3 (6 + yD.size) (by have Lrule : (⟨#[114, 117, 108, 101, 32, 114]⟩ : ByteArray).size = 6 := rfl; (try simp only [ByteArray.size_append]); omega)
   obtain ⟨Ja4, Ja5, Ja6⟩ := fit3 (6 + yD.size) (by omega)
   have Ja7 := (joins ((⟨#[114, 117, 108, 101, 32, 114]⟩ : ByteArray)) (yD) (by have Lrule : (⟨#[114, 117, 108, 101, 32, 114]⟩ : ByteArray).size = 6 := rfl; (try simp only [ByteArray.size_append]); omega)).2.2.2.1
   have Ja8 := (joins ((⟨#[114, 117, 108, 101, 32, 114]⟩ : ByteArray)) (yD) (by have Lrule : (⟨#[114, 117, 108, 101, 32, 114]⟩ : ByteArray).size = 6 := rfl; (try simp only [ByteArray.size_append]); omega)).2.2.2.2
   obtain ⟨Jb1, Jb2, Jb3⟩ := fit3 (((⟨#[114, 117, 108, 101, 32, 114]⟩ : ByteArray) ++ yD).size + 13) (by have Lrule : (⟨#[114, 117, 108, 101, 32, 114]⟩ : ByteArray).size = 6 := rfl; have Lcmd : (⟨#[10, 32, 32, 99, 111, 109, 109, 97, 110, 100, 32, 61, 32]⟩ : ByteArray).size = 13 := rfl; (try simp only [ByteArray.size_append]); omega)
   obtain ⟨Jb4, Jb5, Jb6⟩ := fit3 (6 + yD.size + 13) (by omega)
   have Jb7 := (joins (((⟨#[114, 117, 108, 101, 32, 114]⟩ : ByteArray) ++ yD)) ((⟨#[10, 32, 32, 99, 111, 109, 109, 97, 110, 100, 32, 61, 32]⟩ : ByteArray)) (by have Lrule : (⟨#[114, 117, 108, 101, 32, 114]⟩ : ByteArray).size = 6 := rfl; have Lcmd : (⟨#[10, 32, 32, 99, 111, 109, 109, 97, 110, 100, 32, 61, 32]⟩ : ByteArray).size = 13 := rfl; (try simp only [ByteArray.size_append]); omega)).2.2.2.1
   have Jb8 := (joins (((⟨#[114, 117, 108, 101, 32, 114]⟩ : ByteArray) ++ yD)) ((⟨#[10, 32, 32, 99, 111, 109, 109, 97, 110, 100, 32, 61, 32]⟩ : ByteArray)) (by have Lrule : (⟨#[114, 117, 108, 101, 32, 114]⟩ : ByteArray).size = 6 := rfl; have Lcmd : (⟨#[10, 32, 32, 99, 111, 109, 109, 97, 110, 100, 32, 61, 32]⟩ : ByteArray).size = 13 := rfl; (try simp only [ByteArray.size_append]); omega)).2.2.2.2
   refine hK.out _ _ ?_ (fun hHeld => ?_)
   ·(try dsimp only); exact hSS.out _ hxa2.out
   clear hK K
   try simp only [Act.put, pA,pB,pC]
   repeat ((first | refine RegP.pu ?_ | refine RegP.he ?_ | refine RegP.sk ?_); try simp only [Act.put, pA,pB,pC])
   refine RegP.laq (fun K hK => ?_)
   go_simp
   refine (hEc.out _).mono ?_
   rintro x3 w3 ⟨⟨yE, hyE, rfl⟩, hb⟩
   have hBa3 := Lib.hid (hBa2.out.trans (hb.mono hBa2.out.size))
   have hBw3 := Lib.hid (hBw2.out.trans (hb.mono hBw2.out.size))
   have hxa3 := Lib.hid (below_blk hb hxa2.out)
   clear hb
   obtain ⟨Jc1, Jc2, Jc3⟩ := fit3 (((⟨#[114, 117, 108, 101, 32, 114]⟩ : ByteArray) ++ yD ++ (⟨#[10, 32, 32, 99, 111, 109, 109, 97, 110, 100, 32, 61, 32]⟩ : ByteArray)).size + yE.size) (by have Lrule : (⟨#[114, 117, 108, 101, 32, 114]⟩ : ByteArray).size = 6 := rfl; have Lcmd : (⟨#[10, 32, 32, 99, 111, 109, 109, 97, 110, 100, 32, 61, 32]⟩ : ByteArray).size = 13 := rfl; (try simp only [ByteArray.size_append]); omega)
   obtain ⟨Jc4, Jc5, Jc6⟩ := fit3 (6 + yD.size + 13 + yE.size) (by omega)
   have Jc7 := (joins (((⟨#[114, 117, 108, 101, 32, 114]⟩ : ByteArray) ++ yD ++ (⟨#[10, 32, 32, 99, 111, 109, 109, 97, 110, 100, 32, 61, 32]⟩ : ByteArray))) (yE) (by have Lrule : (⟨#[114, 117, 108, 101, 32, 114]⟩ : ByteArray).size = 6 := rfl; have Lcmd : (⟨#[10, 32, 32, 99, 111, 109, 109, 97, 110, 100, 32, 61, 32]⟩ : ByteArray).size = 13 := rfl; (try simp only [ByteArray.size_append]); omega)).2.2.2.1
   have Jc8 := (joins (((⟨#[114, 117, 108, 101, 32, 114]⟩ : ByteArray) ++ yD ++ (⟨#[10, 32, 32, 99, 111, 109, 109, 97, 110, 100, 32, 61, 32]⟩ : ByteArray))) (yE) (by have Lrule : (⟨#[114, 117, 108, 101, 32, 114]⟩ : ByteArray).size = 6 := rfl; have Lcmd : (⟨#[10, 32, 32, 99, 111, 109, 109, 97, 110, 100, 32, 61, 32]⟩ : ByteArray).size = 13 := rfl; (try simp only [ByteArray.size_append]); omega)).2.2.2.2
   obtain ⟨Jd1, Jd2, Jd3⟩ := fit3 (((⟨#[114, 117, 108, 101, 32, 114]⟩ : ByteArray) ++ yD ++ (⟨#[10, 32, 32, 99, 111, 109, 109, 97, 110, 100, 32, 61, 32]⟩ : ByteArray) ++ yE).size + 1) (by have Lrule : (⟨#[114, 117, 108, 101, 32, 114]⟩ : ByteArray).size = 6 := rfl; have Lcmd : (⟨#[10, 32, 32, 99, 111, 109, 109, 97, 110, 100, 32, 61, 32]⟩ : ByteArray).size = 13 := rfl; have Lnl : (⟨#[10]⟩ : ByteArray).size = 1 := rfl; (try simp only [ByteArray.size_append]); omega)
   obtain ⟨Jd4, Jd5, Jd6⟩ := fit3 (6 + yD.size + 13 + yE.size + 1) (by omega)
   have Jd7 := (joins (((⟨#[114, 117, 108, 101, 32, 114]⟩ : ByteArray) ++ yD ++ (⟨#[10, 32, 32, 99, 111, 109, 109, 97, 110, 100, 32, 61, 32]⟩ : ByteArray) ++ yE)) ((⟨#[10]⟩ : ByteArray)) (by have Lrule : (⟨#[114, 117, 108, 101, 32, 114]⟩ : ByteArray).size = 6 := rfl; have Lcmd : (⟨#[10, 32, 32, 99, 111, 109, 109, 97, 110, 100, 32, 61, 32]⟩ : ByteArray).size = 13 := rfl; have Lnl : (⟨#[10]⟩ : ByteArray).size = 1 := rfl; (try simp only [ByteArray.size_append]); omega)).2.2.2.1
   have Jd8 := (joins (((⟨#[114, 117, 108, 101, 32, 114]⟩ : ByteArray) ++ yD ++ (⟨#[10, 32, 32, 99, 111, 109, 109, 97, 110, 100, 32, 61, 32]⟩ : ByteArray) ++ yE)) ((⟨#[10]⟩ : ByteArray)) (by have Lrule : (⟨#[114, 117, 108, 101, 32, 114]⟩ : ByteArray).size = 6 := rfl; have Lcmd : (⟨#[10, 32, 32, 99, 111, 109, 109, 97, 110, 100, 32, 61, 32]⟩ : ByteArray).size = 13 := rfl; have Lnl : (⟨#[10]⟩ : ByteArray).size = 1 := rfl; (try simp only [ByteArray.size_append]); omega)).2.2.2.2
   obtain ⟨Je1, Je2, Je3⟩ := fit3 (x.size + ((⟨#[114, 117, 108, 101, 32, 114]⟩ : ByteArray) ++ yD ++ (⟨#[10, 32, 32, 99, 111, 109, 109, 97, 110, 100, 32, 61, 32]⟩ : ByteArray) ++ yE ++ (⟨#[10]⟩ : ByteArray)).size) (by have Lrule : (⟨#[114, 117, 108, 101, 32, 114]⟩ : ByteArray).size = 6 := rfl; have Lcmd : (⟨#[10, 32, 32, 99, 111, 109, 109, 97, 110, 100, 32, 61, 32]⟩ : ByteArray).size = 13 := rfl; have Lnl : (⟨#[10]⟩ : ByteArray).size = 1 := rfl; (try simp only [ByteArray.size_append]); omega)
   obtain ⟨Je4, Je5, Je6⟩ := fit3 (x.size + (6 + yD.size + 13 + yE.size + 1)) (by omega)
   have Je7 := (joins (x) (((⟨#[114, 117, 108, 101, 32, 114]⟩ : ByteArray) ++ yD ++ (⟨#[10, 32, 32, 99, 111, 109, 109, 97, 110, 100, 32, 61, 32]⟩ : ByteArray) ++ yE ++ (⟨#[10]⟩ : ByteArray))) (by have Lrule : (⟨#[114, 117, 108, 101, 32, 114]⟩ : ByteArray).size = 6 := rfl; have Lcmd : (⟨#[10, 32, 32, 99, 111, 109, 109, 97, 110, 100, 32, 61, 32]⟩ : ByteArray).size = 13 := rfl; have Lnl : (⟨#[10]⟩ : ByteArray).size = 1 := rfl; (try simp only [ByteArray.size_append]); omega)).2.2.2.1
   have Je8 := (joins (x) (((⟨#[114, 117, 108, 101, 32, 114]⟩ : ByteArray) ++ yD ++ (⟨#[10, 32, 32, 99, 111, 109, 109, 97, 110, 100, 32, 61, 32]⟩ : ByteArray) ++ yE ++ (⟨#[10]⟩ : ByteArray))) (by have Lrule : (⟨#[114, 117, 108, 101, 32, 114]⟩ : ByteArray).size = 6 := rfl; have Lcmd : (⟨#[10, 32, 32, 99, 111, 109, 109, 97, 110, 100, 32, 61, 32]⟩ : ByteArray).size = 13 := rfl; have Lnl : (⟨#[10]⟩ : ByteArray).size = 1 := rfl; (try simp only [ByteArray.size_append]); omega)).2.2.2.2
   refine hK.out _ _ ?_
   clear hK K
   try simp only [Act.put, pA,pB,pC]
   repeat ((first | refine RegP.pu ?_ | refine RegP.he ?_ | refine RegP.sk ?_); try simp only [Act.put, pA,pB,pC])
   refine RegP.done1 ?_
   try dsimp only
   have hx6 : (x ++ ((⟨#[114, 117, 108, 101, 32, 114]⟩ : ByteArray) ++ yD ++ (⟨#[10, 32, 32, 99, 111, 109, 109, 97, 110, 100, 32, 61, 32]⟩ : ByteArray) ++ yE ++ (⟨#[10]⟩ : ByteArray))).size ≤ 10000000 * i + 1000000 := by have Lrule : (⟨#[114, 117, 108, 101, 32, 114]⟩ : ByteArray).size = 6 := rfl; have Lcmd : (⟨#[10, 32, 32, 99, 111, 109, 109, 97, 110, 100, 32, 61, 32]⟩ : ByteArray).size = 13 := rfl; have Lnl : (⟨#[10]⟩ : ByteArray).size = 1 := rfl; simp only [ByteArray.size_append]; omega
   generalize x ++ ((⟨#[114, 117, 108, 101, 32, 114]⟩ : ByteArray) ++ yD ++ (⟨#[10, 32, 32, 99, 111, 109, 109, 97, 110, 100, 32, 61, 32]⟩ : ByteArray) ++ yE ++ (⟨#[10]⟩ : ByteArray)) = x6 at *
   clear Ja1 Ja2 Ja3 Ja4 Ja5 Ja6 Ja7 Ja8 Jb1 Jb2 Jb3 Jb4 Jb5 Jb6 Jb7 Jb8 Jc1 Jc2 Jc3 Jc4 Jc5 Jc6 Jc7 Jc8 Jd1 Jd2 Jd3 Jd4 Jd5 Jd6 Jd7 Jd8 Je1 Je2 Je3 Je4 Je5 Je6 Je7 Je8 hyD hyE hxs hBad hBwd hBa2 hBw2 hxa2 hxd
   have y5 := (cell_of_heap (j := 5) hxa3.out).trans rfl
   go_upto_region 7 with (fail)
   go_cut [31] (fun sb wx => ∃ b, sb = .bool b ∧ w3 = wx)
   case first =>
    go_wp2_with fail
    all_goals (go_meet; exact ⟨_, rfl, rfl⟩)
   case rest =>
    obtain ⟨b, rfl, rfl⟩ := hcut
    go_upto_if 31 with (fail)
    go_cut [3] (fun s3 wx => ∃ y : ByteArray, s3 = .string y ∧ y.size ≤ 10000000 * i + 2000000 ∧ Hid (Below w3.heap.size w3 wx))
    case first =>
     cases b with
     | false =>
      go_wp2_with fail
      go_meet
      exact ⟨x6, rfl, by omega, Below.refl _ _⟩
     | true =>
      go_wp2_with fail
      refine (hEd.out _).mono ?_
      rintro e wq ⟨⟨y, hy, rfl⟩, hb⟩
      have hbH := Lib.hid hb
      clear hb
      obtain ⟨Ja1, Ja2, Ja3⟩ := fit3 (12 + y.size) (by have Ldep : (⟨#[32, 32, 100, 101, 112, 102, 105, 108, 101, 32, 61, 32]⟩ : ByteArray).size = 12 := rfl; (try simp only [ByteArray.size_append]); omega)
      obtain ⟨Ja4, Ja5, Ja6⟩ := fit3 (12 + y.size) (by omega)
      have Ja7 := (joins ((⟨#[32, 32, 100, 101, 112, 102, 105, 108, 101, 32, 61, 32]⟩ : ByteArray)) (y) (by have Ldep : (⟨#[32, 32, 100, 101, 112, 102, 105, 108, 101, 32, 61, 32]⟩ : ByteArray).size = 12 := rfl; (try simp only [ByteArray.size_append]); omega)).2.2.2.1
      have Ja8 := (joins ((⟨#[32, 32, 100, 101, 112, 102, 105, 108, 101, 32, 61, 32]⟩ : ByteArray)) (y) (by have Ldep : (⟨#[32, 32, 100, 101, 112, 102, 105, 108, 101, 32, 61, 32]⟩ : ByteArray).size = 12 := rfl; (try simp only [ByteArray.size_append]); omega)).2.2.2.2
      obtain ⟨Jb1, Jb2, Jb3⟩ := fit3 (((⟨#[32, 32, 100, 101, 112, 102, 105, 108, 101, 32, 61, 32]⟩ : ByteArray) ++ y).size + 1) (by have Lnl : (⟨#[10]⟩ : ByteArray).size = 1 := rfl; have Ldep : (⟨#[32, 32, 100, 101, 112, 102, 105, 108, 101, 32, 61, 32]⟩ : ByteArray).size = 12 := rfl; (try simp only [ByteArray.size_append]); omega)
      obtain ⟨Jb4, Jb5, Jb6⟩ := fit3 (12 + y.size + 1) (by omega)
      have Jb7 := (joins (((⟨#[32, 32, 100, 101, 112, 102, 105, 108, 101, 32, 61, 32]⟩ : ByteArray) ++ y)) ((⟨#[10]⟩ : ByteArray)) (by have Lnl : (⟨#[10]⟩ : ByteArray).size = 1 := rfl; have Ldep : (⟨#[32, 32, 100, 101, 112, 102, 105, 108, 101, 32, 61, 32]⟩ : ByteArray).size = 12 := rfl; (try simp only [ByteArray.size_append]); omega)).2.2.2.1
      have Jb8 := (joins (((⟨#[32, 32, 100, 101, 112, 102, 105, 108, 101, 32, 61, 32]⟩ : ByteArray) ++ y)) ((⟨#[10]⟩ : ByteArray)) (by have Lnl : (⟨#[10]⟩ : ByteArray).size = 1 := rfl; have Ldep : (⟨#[32, 32, 100, 101, 112, 102, 105, 108, 101, 32, 61, 32]⟩ : ByteArray).size = 12 := rfl; (try simp only [ByteArray.size_append]); omega)).2.2.2.2
      obtain ⟨Jc1, Jc2, Jc3⟩ := fit3 (x6.size + ((⟨#[32, 32, 100, 101, 112, 102, 105, 108, 101, 32, 61, 32]⟩ : ByteArray) ++ y ++ (⟨#[10]⟩ : ByteArray)).size) (by have Lnl : (⟨#[10]⟩ : ByteArray).size = 1 := rfl; have Ldep : (⟨#[32, 32, 100, 101, 112, 102, 105, 108, 101, 32, 61, 32]⟩ : ByteArray).size = 12 := rfl; (try simp only [ByteArray.size_append]); omega)
      obtain ⟨Jc4, Jc5, Jc6⟩ := fit3 (x6.size + (12 + y.size + 1)) (by omega)
      have Jc7 := (joins (x6) (((⟨#[32, 32, 100, 101, 112, 102, 105, 108, 101, 32, 61, 32]⟩ : ByteArray) ++ y ++ (⟨#[10]⟩ : ByteArray))) (by have Lnl : (⟨#[10]⟩ : ByteArray).size = 1 := rfl; have Ldep : (⟨#[32, 32, 100, 101, 112, 102, 105, 108, 101, 32, 61, 32]⟩ : ByteArray).size = 12 := rfl; (try simp only [ByteArray.size_append]); omega)).2.2.2.1
      have Jc8 := (joins (x6) (((⟨#[32, 32, 100, 101, 112, 102, 105, 108, 101, 32, 61, 32]⟩ : ByteArray) ++ y ++ (⟨#[10]⟩ : ByteArray))) (by have Lnl : (⟨#[10]⟩ : ByteArray).size = 1 := rfl; have Ldep : (⟨#[32, 32, 100, 101, 112, 102, 105, 108, 101, 32, 61, 32]⟩ : ByteArray).size = 12 := rfl; (try simp only [ByteArray.size_append]); omega)).2.2.2.2
      go_wp2_with fail
      go_meet
      exact ⟨x6 ++ ((⟨#[32, 32, 100, 101, 112, 102, 105, 108, 101, 32, 61, 32]⟩ : ByteArray) ++ y ++ (⟨#[10]⟩ : ByteArray)), rfl, by have Lnl : (⟨#[10]⟩ : ByteArray).size = 1 := rfl; have Ldep : (⟨#[32, 32, 100, 101, 112, 102, 105, 108, 101, 32, 61, 32]⟩ : ByteArray).size = 12 := rfl; simp only [ByteArray.size_append]; omega, hbH.out⟩
    case rest =>
     obtain ⟨x7, rfl, hx7, hbc⟩ := hcut
     have hb := hbc.out
     obtain ⟨w4, rfl⟩ : ∃ x, x = wc := ⟨_, rfl⟩
     have hBa4 := Lib.hid (hBa3.out.trans (hb.mono hBa3.out.size))
     have hBw4 := Lib.hid (hBw3.out.trans (hb.mono hBw3.out.size))
     have hxa4 := Lib.hid (below_blk hb hxa3.out)
     clear hb
     clear hbc
     go_upto_region 9 with (fail)
     have hxd : Hid (w4.drew.heap[p]? = some (.cells #[.slice a0 n0 d0, .slice a1 n1 d1, .slice a2 n2 d2, .slice a3 n3 d3, .string sc, .string sd] 51 (0, 0))) := Lib.hid (below_blk (Below.refl w4.heap.size w4).drew hxa4.out)
     have hBad : Hid (Below w0.heap.size w0 w4.drew) := Lib.hid hBa4.out.drew
     have hBwd : Hid (Below w.heap.size w w4.drew) := Lib.hid hBw4.out.drew
     refine RegP.regionH (fun w' => w'.cell? ⟨p, 0, none⟩ = some (.slice a0 n0 d0) ∧ w'.cell? ⟨p, 1, none⟩ = some (.slice a1 n1 d1) ∧ w'.cell? ⟨p, 2, none⟩ = some (.slice a2 n2 d2) ∧ w'.cell? ⟨p, 3, none⟩ = some (.slice a3 n3 d3) ∧ w'.cell? ⟨p, 4, none⟩ = some (.string sc) ∧ w'.cell? ⟨p, 5, none⟩ = some (.string sd)) [(0, 0), (0, 1), (1, 2), (0, 6), (0, 9), (1, 10), (2, 3), (0, 4), (0, 5), (2, 7), (0, 8), (2, 11), (0, 12), (0, 13), (0, 14)] (by kernel_rfl) (by kernel_rfl) (by rfl) (by kernel_rfl) (by exact hSS.out _ hxd.out) ?_
     repeat ((first | refine RegP.pu ?_ | refine RegP.he ?_ | refine RegP.sk ?_); try simp only [Act.put, pA,pB,pC])
     refine RegP.evq (fun K hK => ?_)
     go_simp
     refine (hP0.out _ hBwd.out).mono ?_
     rintro x9 w5 ⟨⟨yO, hyO, rfl⟩, hb⟩
     have hBa5 := Lib.hid (hBad.out.trans (hb.mono hBad.out.size))
     have hBw5 := Lib.hid (hBwd.out.trans (hb.mono hBwd.out.size))
     have hxa5 := Lib.hid (below_blk hb hxd.out)
     clear hb
     obtain ⟨Ja1, Ja2, Ja3⟩ := fit3 (5 + yO.size) (by have Lbuild : (⟨#[98, 117, 105, 108, 100]⟩ : ByteArray).size = 5 := rfl; (try simp only [ByteArray.size_append]); omega)
     obtain ⟨Ja4, Ja5, Ja6⟩ := fit3 (5 + yO.size) (by omega)
     have Ja7 := (joins ((⟨#[98, 117, 105, 108, 100]⟩ : ByteArray)) (yO) (by have Lbuild : (⟨#[98, 117, 105, 108, 100]⟩ : ByteArray).size = 5 := rfl; (try simp only [ByteArray.size_append]); omega)).2.2.2.1
     have Ja8 := (joins ((⟨#[98, 117, 105, 108, 100]⟩ : ByteArray)) (yO) (by have Lbuild : (⟨#[98, 117, 105, 108, 100]⟩ : ByteArray).size = 5 := rfl; (try simp only [ByteArray.size_append]); omega)).2.2.2.2
     obtain ⟨Jb1, Jb2, Jb3⟩ := fit3 (((⟨#[98, 117, 105, 108, 100]⟩ : ByteArray) ++ yO).size + 3) (by have Lbuild : (⟨#[98, 117, 105, 108, 100]⟩ : ByteArray).size = 5 := rfl; have Lcol : (⟨#[58, 32, 114]⟩ : ByteArray).size = 3 := rfl; (try simp only [ByteArray.size_append]); omega)
     obtain ⟨Jb4, Jb5, Jb6⟩ := fit3 (5 + yO.size + 3) (by omega)
     have Jb7 := (joins (((⟨#[98, 117, 105, 108, 100]⟩ : ByteArray) ++ yO)) ((⟨#[58, 32, 114]⟩ : ByteArray)) (by have Lbuild : (⟨#[98, 117, 105, 108, 100]⟩ : ByteArray).size = 5 := rfl; have Lcol : (⟨#[58, 32, 114]⟩ : ByteArray).size = 3 := rfl; (try simp only [ByteArray.size_append]); omega)).2.2.2.1
     have Jb8 := (joins (((⟨#[98, 117, 105, 108, 100]⟩ : ByteArray) ++ yO)) ((⟨#[58, 32, 114]⟩ : ByteArray)) (by have Lbuild : (⟨#[98, 117, 105, 108, 100]⟩ : ByteArray).size = 5 := rfl; have Lcol : (⟨#[58, 32, 114]⟩ : ByteArray).size = 3 := rfl; (try simp only [ByteArray.size_append]); omega)).2.2.2.2
     refine hK.out _ _ ?_ (fun hHeld => ?_)
     ·(try dsimp only); exact hSS.out _ hxa5.out
     clear hK K
     try simp only [Act.put, pA,pB,pC]
     repeat ((first | refine RegP.pu ?_ | refine RegP.he ?_ | refine RegP.sk ?_); try simp only [Act.put, pA,pB,pC])
     refine RegP.evq (fun K hK => ?_)
     go_simp
     refine (hD.out _).mono ?_
     rintro x9 w6 ⟨⟨yD, hyD, rfl⟩, hb⟩
     have hBa6 := Lib.hid (hBa5.out.trans (hb.mono hBa5.out.size))
     have hBw6 := Lib.hid (hBw5.out.trans (hb.mono hBw5.out.size))
     have hxa6 := Lib.hid (below_blk hb hxa5.out)
     clear hb
     obtain ⟨Jc1, Jc2, Jc3⟩ := fit3 (((⟨#[98, 117, 105, 108, 100]⟩ : ByteArray) ++ yO ++ (⟨#[58, 32, 114]⟩ : ByteArray)).size + yD.size) (by have Lbuild : (⟨#[98, 117, 105, 108, 100]⟩ : ByteArray).size = 5 := rfl; have Lcol : (⟨#[58, 32, 114]⟩ : ByteArray).size = 3 := rfl; (try simp only [ByteArray.size_append]); omega)
     obtain ⟨Jc4, Jc5, Jc6⟩ := fit3 (5 + yO.size + 3 + yD.size) (by omega)
     have Jc7 := (joins (((⟨#[98, 117, 105, 108, 100]⟩ : ByteArray) ++ yO ++ (⟨#[58, 32, 114]⟩ : ByteArray))) (yD) (by have Lbuild : (⟨#[98, 117, 105, 108, 100]⟩ : ByteArray).size = 5 := rfl; have Lcol : (⟨#[58, 32, 114]⟩ : ByteArray).size = 3 := rfl; (try simp only [ByteArray.size_append]); omega)).2.2.2.1
     have Jc8 := (joins (((⟨#[98, 117, 105, 108, 100]⟩ : ByteArray) ++ yO ++ (⟨#[58, 32, 114]⟩ : ByteArray))) (yD) (by have Lbuild : (⟨#[98, 117, 105, 108, 100]⟩ : ByteArray).size = 5 := rfl; have Lcol : (⟨#[58, 32, 114]⟩ : ByteArray).size = 3 := rfl; (try simp only [ByteArray.size_append]); omega)).2.2.2.2
     refine hK.out _ _ ?_ (fun hHeld => ?_)
     ·(try dsimp only); exact hSS.out _ hxa6.out
     clear hK K
     try simp only [Act.put, pA,pB,pC]
     repeat ((first | refine RegP.pu ?_ | refine RegP.he ?_ | refine RegP.sk ?_); try simp only [Act.put, pA,pB,pC])
     refine RegP.evq (fun K hK => ?_)
     go_simp
     refine (hP1.out _ hBw6.out).mono ?_
     rintro x9 w7 ⟨⟨yI, hyI, rfl⟩, hb⟩
     have hBa7 := Lib.hid (hBa6.out.trans (hb.mono hBa6.out.size))
     have hBw7 := Lib.hid (hBw6.out.trans (hb.mono hBw6.out.size))
     have hxa7 := Lib.hid (below_blk hb hxa6.out)
     clear hb
     obtain ⟨Jd1, Jd2, Jd3⟩ := fit3 (((⟨#[98, 117, 105, 108, 100]⟩ : ByteArray) ++ yO ++ (⟨#[58, 32, 114]⟩ : ByteArray) ++ yD).size + yI.size) (by have Lbuild : (⟨#[98, 117, 105, 108, 100]⟩ : ByteArray).size = 5 := rfl; have Lcol : (⟨#[58, 32, 114]⟩ : ByteArray).size = 3 := rfl; (try simp only [ByteArray.size_append]); omega)
     obtain ⟨Jd4, Jd5, Jd6⟩ := fit3 (5 + yO.size + 3 + yD.size + yI.size) (by omega)
     have Jd7 := (joins (((⟨#[98, 117, 105, 108, 100]⟩ : ByteArray) ++ yO ++ (⟨#[58, 32, 114]⟩ : ByteArray) ++ yD)) (yI) (by have Lbuild : (⟨#[98, 117, 105, 108, 100]⟩ : ByteArray).size = 5 := rfl; have Lcol : (⟨#[58, 32, 114]⟩ : ByteArray).size = 3 := rfl; (try simp only [ByteArray.size_append]); omega)).2.2.2.1
     have Jd8 := (joins (((⟨#[98, 117, 105, 108, 100]⟩ : ByteArray) ++ yO ++ (⟨#[58, 32, 114]⟩ : ByteArray) ++ yD)) (yI) (by have Lbuild : (⟨#[98, 117, 105, 108, 100]⟩ : ByteArray).size = 5 := rfl; have Lcol : (⟨#[58, 32, 114]⟩ : ByteArray).size = 3 := rfl; (try simp only [ByteArray.size_append]); omega)).2.2.2.2
     obtain ⟨Je1, Je2, Je3⟩ := fit3 (x7.size + ((⟨#[98, 117, 105, 108, 100]⟩ : ByteArray) ++ yO ++ (⟨#[58, 32, 114]⟩ : ByteArray) ++ yD ++ yI).size) (by have Lbuild : (⟨#[98, 117, 105, 108, 100]⟩ : ByteArray).size = 5 := rfl; have Lcol : (⟨#[58, 32, 114]⟩ : ByteArray).size = 3 := rfl; (try simp only [ByteArray.size_append]); omega)
     obtain ⟨Je4, Je5, Je6⟩ := fit3 (x7.size + (5 + yO.size + 3 + yD.size + yI.size)) (by omega)
     have Je7 := (joins (x7) (((⟨#[98, 117, 105, 108, 100]⟩ : ByteArray) ++ yO ++ (⟨#[58, 32, 114]⟩ : ByteArray) ++ yD ++ yI)) (by have Lbuild : (⟨#[98, 117, 105, 108, 100]⟩ : ByteArray).size = 5 := rfl; have Lcol : (⟨#[58, 32, 114]⟩ : ByteArray).size = 3 := rfl; (try simp only [ByteArray.size_append]); omega)).2.2.2.1
     have Je8 := (joins (x7) (((⟨#[98, 117, 105, 108, 100]⟩ : ByteArray) ++ yO ++ (⟨#[58, 32, 114]⟩ : ByteArray) ++ yD ++ yI)) (by have Lbuild : (⟨#[98, 117, 105, 108, 100]⟩ : ByteArray).size = 5 := rfl; have Lcol : (⟨#[58, 32, 114]⟩ : ByteArray).size = 3 := rfl; (try simp only [ByteArray.size_append]); omega)).2.2.2.2
     refine hK.out _ _ ?_ (fun hHeld => ?_)
     ·(try dsimp only); exact hSS.out _ hxa7.out
     clear hK K
     try simp only [Act.put, pA,pB,pC]
     repeat ((first | refine RegP.pu ?_ | refine RegP.he ?_ | refine RegP.sk ?_); try simp only [Act.put, pA,pB,pC])
     refine RegP.done1 ?_
     try dsimp only
     have hx9 : (x7 ++ ((⟨#[98, 117, 105, 108, 100]⟩ : ByteArray) ++ yO ++ (⟨#[58, 32, 114]⟩ : ByteArray) ++ yD ++ yI)).size ≤ 10000000 * i + 4000000 := by have Lbuild : (⟨#[98, 117, 105, 108, 100]⟩ : ByteArray).size = 5 := rfl; have Lcol : (⟨#[58, 32, 114]⟩ : ByteArray).size = 3 := rfl; simp only [ByteArray.size_append]; omega
     generalize x7 ++ ((⟨#[98, 117, 105, 108, 100]⟩ : ByteArray) ++ yO ++ (⟨#[58, 32, 114]⟩ : ByteArray) ++ yD ++ yI) = x9 at *
     clear Ja1 Ja2 Ja3 Ja4 Ja5 Ja6 Ja7 Ja8 Jb1 Jb2 Jb3 Jb4 Jb5 Jb6 Jb7 Jb8 Jc1 Jc2 Jc3 Jc4 Jc5 Jc6 Jc7 Jc8 Jd1 Jd2 Jd3 Jd4 Jd5 Jd6 Jd7 Jd8 Je1 Je2 Je3 Je4 Je5 Je6 Je7 Je8 hyO hyD hyI hx7 hBad hBwd hBa5 hBw5 hxa5 hBa6 hBw6 hxa6 hxd
     have y2 := (cell_of_heap (j := 2) hxa7.out).trans rfl
     go_upto_region 10 with (fail)
     go_cut [56] (fun sb wx => ∃ b, sb = .bool b ∧ w7 = wx)
     case first =>
      go_wp2_with fail
      all_goals (go_meet; exact ⟨_, rfl, rfl⟩)
     case rest =>
      obtain ⟨b, rfl, rfl⟩ := hcut
      have y2 := (cell_of_heap (j := 2) hxa7.out).trans rfl
      go_upto_if 56 with (fail)
      go_cut [3] (fun s3 wx => ∃ y : ByteArray, s3 = .string y ∧ y.size ≤ 10000000 * i + 5000000 ∧ Hid (Below w7.heap.size w7 wx))
      case first =>
       cases b with
       | false =>
        go_wp2_with fail
        go_meet
        exact ⟨x9, rfl, by omega, Below.refl _ _⟩
       | true =>
        go_wp2_with fail
        refine (hP2.out _ hBw7.out).mono ?_
        rintro e wq ⟨⟨y, hy, rfl⟩, hb⟩
        have hbH := Lib.hid hb
        clear hb
        obtain ⟨Ja1, Ja2, Ja3⟩ := fit3 (2 + y.size) (by have Lbar : (⟨#[32, 124]⟩ : ByteArray).size = 2 := rfl; (try simp only [ByteArray.size_append]); omega)
        obtain ⟨Ja4, Ja5, Ja6⟩ := fit3 (2 + y.size) (by omega)
        have Ja7 := (joins ((⟨#[32, 124]⟩ : ByteArray)) (y) (by have Lbar : (⟨#[32, 124]⟩ : ByteArray).size = 2 := rfl; (try simp only [ByteArray.size_append]); omega)).2.2.2.1
        have Ja8 := (joins ((⟨#[32, 124]⟩ : ByteArray)) (y) (by have Lbar : (⟨#[32, 124]⟩ : ByteArray).size = 2 := rfl; (try simp only [ByteArray.size_append]); omega)).2.2.2.2
        obtain ⟨Jb1, Jb2, Jb3⟩ := fit3 (x9.size + ((⟨#[32, 124]⟩ : ByteArray) ++ y).size) (by have Lbar : (⟨#[32, 124]⟩ : ByteArray).size = 2 := rfl; (try simp only [ByteArray.size_append]); omega)
        obtain ⟨Jb4, Jb5, Jb6⟩ := fit3 (x9.size + (2 + y.size)) (by omega)
        have Jb7 := (joins (x9) (((⟨#[32, 124]⟩ : ByteArray) ++ y)) (by have Lbar : (⟨#[32, 124]⟩ : ByteArray).size = 2 := rfl; (try simp only [ByteArray.size_append]); omega)).2.2.2.1
        have Jb8 := (joins (x9) (((⟨#[32, 124]⟩ : ByteArray) ++ y)) (by have Lbar : (⟨#[32, 124]⟩ : ByteArray).size = 2 := rfl; (try simp only [ByteArray.size_append]); omega)).2.2.2.2
        go_wp2_with fail
        go_meet
        exact ⟨x9 ++ ((⟨#[32, 124]⟩ : ByteArray) ++ y), rfl, by have Lbar : (⟨#[32, 124]⟩ : ByteArray).size = 2 := rfl; simp only [ByteArray.size_append]; omega, hbH.out⟩
      case rest =>
       obtain ⟨x10, rfl, hx10, hbc⟩ := hcut
       have hb := hbc.out
       obtain ⟨w8, rfl⟩ : ∃ x, x = wc := ⟨_, rfl⟩
       have hBa8 := Lib.hid (hBa7.out.trans (hb.mono hBa7.out.size))
       have hBw8 := Lib.hid (hBw7.out.trans (hb.mono hBw7.out.size))
       have hxa8 := Lib.hid (below_blk hb hxa7.out)
       clear hb
       clear hbc
       have y3 := (cell_of_heap (j := 3) hxa8.out).trans rfl
       go_upto_region 12 with (fail)
       go_cut [66] (fun sb wx => ∃ b, sb = .bool b ∧ w8 = wx)
       case first =>
        go_wp2_with fail
        all_goals (go_meet; exact ⟨_, rfl, rfl⟩)
       case rest =>
        obtain ⟨b, rfl, rfl⟩ := hcut
        have y3 := (cell_of_heap (j := 3) hxa8.out).trans rfl
        go_upto_if 66 with (fail)
        go_cut [3] (fun s3 wx => ∃ y : ByteArray, s3 = .string y ∧ y.size ≤ 10000000 * i + 6000000 ∧ Hid (Below w8.heap.size w8 wx))
        case first =>
         cases b with
         | false =>
          go_wp2_with fail
          go_meet
          exact ⟨x10, rfl, by omega, Below.refl _ _⟩
         | true =>
          go_wp2_with fail
          refine (hP3.out _ hBw8.out).mono ?_
          rintro e wq ⟨⟨y, hy, rfl⟩, hb⟩
          have hbH := Lib.hid hb
          clear hb
          obtain ⟨Ja1, Ja2, Ja3⟩ := fit3 (3 + y.size) (by have Lbars : (⟨#[32, 124, 124]⟩ : ByteArray).size = 3 := rfl; (try simp only [ByteArray.size_append]); omega)
          obtain ⟨Ja4, Ja5, Ja6⟩ := fit3 (3 + y.size) (by omega)
          have Ja7 := (joins ((⟨#[32, 124, 124]⟩ : ByteArray)) (y) (by have Lbars : (⟨#[32, 124, 124]⟩ : ByteArray).size = 3 := rfl; (try simp only [ByteArray.size_append]); omega)).2.2.2.1
          have Ja8 := (joins ((⟨#[32, 124, 124]⟩ : ByteArray)) (y) (by have Lbars : (⟨#[32, 124, 124]⟩ : ByteArray).size = 3 := rfl; (try simp only [ByteArray.size_append]); omega)).2.2.2.2
          obtain ⟨Jb1, Jb2, Jb3⟩ := fit3 (x10.size + ((⟨#[32, 124, 124]⟩ : ByteArray) ++ y).size) (by have Lbars : (⟨#[32, 124, 124]⟩ : ByteArray).size = 3 := rfl; (try simp only [ByteArray.size_append]); omega)
          obtain ⟨Jb4, Jb5, Jb6⟩ := fit3 (x10.size + (3 + y.size)) (by omega)
          have Jb7 := (joins (x10) (((⟨#[32, 124, 124]⟩ : ByteArray) ++ y)) (by have Lbars : (⟨#[32, 124, 124]⟩ : ByteArray).size = 3 := rfl; (try simp only [ByteArray.size_append]); omega)).2.2.2.1
          have Jb8 := (joins (x10) (((⟨#[32, 124, 124]⟩ : ByteArray) ++ y)) (by have Lbars : (⟨#[32, 124, 124]⟩ : ByteArray).size = 3 := rfl; (try simp only [ByteArray.size_append]); omega)).2.2.2.2
          go_wp2_with fail
          go_meet
          exact ⟨x10 ++ ((⟨#[32, 124, 124]⟩ : ByteArray) ++ y), rfl, by have Lbars : (⟨#[32, 124, 124]⟩ : ByteArray).size = 3 := rfl; simp only [ByteArray.size_append]; omega, hbH.out⟩
        case rest =>
         obtain ⟨x11, rfl, hx11, hbc⟩ := hcut
         have hb := hbc.out
         obtain ⟨w9, rfl⟩ : ∃ x, x = wc := ⟨_, rfl⟩
         have hBa9 := Lib.hid (hBa8.out.trans (hb.mono hBa8.out.size))
         have hBw9 := Lib.hid (hBw8.out.trans (hb.mono hBw8.out.size))
         have hxa9 := Lib.hid (below_blk hb hxa8.out)
         clear hb
         clear hbc
         obtain ⟨Ja1, Ja2, Ja3⟩ := fit3 (x11.size + 1) (by have Lnl : (⟨#[10]⟩ : ByteArray).size = 1 := rfl; (try simp only [ByteArray.size_append]); omega)
         obtain ⟨Ja4, Ja5, Ja6⟩ := fit3 (x11.size + 1) (by omega)
         have Ja7 := (joins (x11) ((⟨#[10]⟩ : ByteArray)) (by have Lnl : (⟨#[10]⟩ : ByteArray).size = 1 := rfl; (try simp only [ByteArray.size_append]); omega)).2.2.2.1
         have Ja8 := (joins (x11) ((⟨#[10]⟩ : ByteArray)) (by have Lnl : (⟨#[10]⟩ : ByteArray).size = 1 := rfl; (try simp only [ByteArray.size_append]); omega)).2.2.2.2
         go_wp2_with fail
         go_roundg gk
         case measure => omega
         case rel => exact ⟨i + 1, _, by first | rfl | simp, by omega, rfl, by have Lnl : (⟨#[10]⟩ : ByteArray).size = 1 := rfl; simp only [ByteArray.size_append]; omega, hBa9⟩
end Go.Proofs.YtnegfigaiomehaaGreatDoor.Tp
end
section
namespace Go.Proofs.YtnegfigaiomehaaGreatDoor.Tp
open Go.RowKit Go.Lib Go.Shelf Go.Maps Go.Proofs.YtnegfigaiomehaaGreatDoorW.PrintWords Go.Proofs.YtnegfigaiomehaaGreatDoorW.PrintLast Go.Proofs.YtnegfigaiomehaaGreatDoorW.PrintMore Go.Proofs.YtnegfigaiomehaaGreatDoor.U Go.Proofs.YtnegfigaiomehaaGreatDoor.P Go.Proofs.YtnegfigaiomehaaGreatDoor.PTh Go.Proofs.YtnegfigaiomehaaGreatDoor.MapV Go.Proofs.YtnegfigaiomehaaGreatDoor.Ck
def namesR (e : EdgeL) : List Txt := e.outs ++ e.ins ++ e.imp ++ e.ord
def allR (es : List EdgeL) (defs : List Txt) : List Txt := defs ++ es.flatMap namesR
def SmallE (e : EdgeL) : Prop := e.outs.length ≤ 10 ∧ e.ins.length ≤ 10 ∧ e.imp.length ≤ 10 ∧ e.ord.length ≤ 10 ∧ e.cmd.length ≤ 300 ∧ e.dep.length ≤ 200
theorem allR_take (es : List EdgeL) (defs : List Txt) (i : Nat) (h : i < es.length) : allR (es.take (i + 1)) defs = allR (es.take i) defs ++ namesR es[i] := by
 unfold allR
 rw [List.take_succ_eq_append_getElem h, List.flatMap_append, List.append_assoc]; simp
theorem allR_len (es : List EdgeL) (defs : List Txt) (h : ∀ e ∈ es, SmallE e) : (allR es defs).length ≤ defs.length + 40 * es.length := by
 unfold allR
 rw [List.length_append]
 have key : ∀ l : List EdgeL, (∀ e ∈ l, SmallE e) → (l.flatMap namesR).length ≤ 40 * l.length := by
  intro l
  induction l with
  | nil => intro _; simp
  | cons e l ih =>
   intro h
   have h1 := ih (fun e he => h e (by simp [he]))
   obtain ⟨h2, h3, h4, h5, _⟩ := h e (by simp)
   have h6 : (namesR e).length ≤ 40 := by unfold namesR; simp only [List.length_append]; omega
   rw [List.flatMap_cons, List.length_append, List.length_cons]
   omega
 have := key es h
 omega
theorem sizedR_of {es : List EdgeL} {defs : List Txt} (h1 : es.length ≤ 30) (h2 : defs.length ≤ 20) (h3 : ∀ e ∈ es, SmallE e) (h4 : ∀ t ∈ allR es defs, t.length ≤ 200) : SizedR es defs := by
 refine ⟨h1, h2, h3, fun e he f hf => h4 f ?_, fun t ht => h4 t (List.mem_append_left _ ht)⟩
 refine List.mem_append_right _ (List.mem_flatMap.2 ⟨e, he, ?_⟩)
 unfold namesR needsL at *
 simp only [List.mem_append] at *
 rcases hf with h | (h | h) | h
 ·exact .inl (.inl (.inl h))
 ·exact .inl (.inl (.inr h))
 ·exact .inl (.inr h)
 ·exact .inr h
def FewIs (es : List EdgeL) (defs : List Txt) (w : World) (e : Ending) (w' : World) : Prop := (∃ b, e = .returned (.bool b) ∧ (b = true → SizedR es defs)) ∧ Below w.heap.size w w'
theorem FewIs.no {es : List EdgeL} {defs : List Txt} {w w' : World} (h : Below w.heap.size w w') : FewIs es defs w (.returned (.bool false)) w' := ⟨⟨false, rfl, fun h => by cases h⟩, h⟩
theorem str_reads {w : World} {A : Option Addr} {n : Nat} {l : List Txt} (h : Kd.C Kd.string w A n (l.map B)) : ReadsRow (fun (x : ByteArray) cs => cs = [.string x]) Kd.string.sz w A n (l.map B) := ReadsRow.imp_ h (Below.refl _ _) (fun _ _ h => h)
set_option maxRecDepth 100000 in
set_option maxHeartbeats 16000000 in
theorem few_any (A A1 : Option Addr) (c c1 : Nat) (es : List EdgeL) (defs : List Txt) (w : World) (h : Kd.C KR w A es.length (es.map toR)) (h1 : Kd.C Kd.string w A1 defs.length (defs.map B)) :
  Calls Tryz.prog 9 #[.agg #[.slice A es.length c, .slice A1 defs.length c1]] w (FewIs es defs w) := by
 obtain ⟨n, hN⟩ : ∃ n, es.length = n := ⟨_, rfl⟩
 obtain ⟨nd, hnd⟩ : ∃ n, defs.length = n := ⟨_, rfl⟩
 have hNH := Lib.hid hN
 have hndH := Lib.hid hnd
 have hCH := Lib.hid h
 obtain ⟨w0, hw0⟩ : ∃ x, w.alloc (.cells #[.slice A n c, .slice A1 nd c1] 25) = x := ⟨_, rfl⟩
 have hbx : Below w.heap.size w w0 := by rw [← hw0]; exact (Below.refl _ _).alloc (Nat.le_refl _) _
 have hx := heap_alloc_new w (.cells #[.slice A n c, .slice A1 nd c1] 25)
 rw [hw0] at hx
 have hw0H := Lib.hid hw0
 rw [hnd] at h1
 have hCdH := Lib.hid h1
 rw [hN, hnd]
 obtain ⟨q, hq⟩ : ∃ x, w.heap.size = x := ⟨_, rfl⟩
 rw [hq] at hx
 have hbxH := Lib.hid hbx
 have hxH := Lib.hid hx
 have hqH := Lib.hid hq
 have x0 := (cell_of_heap (j := 0) hx).trans rfl
 have x1 := (cell_of_heap (j := 1) hx).trans rfl
 clear hN h h1 hbx hx hw0 hq hnd
 go_enter Tryz.func9, Tryz.ntmps9
 go_upto_region 1 with (fail)
 rw [hw0H.out, hqH.out]
 clear hw0H
 by_cases hn : n ≤ 30
 case neg =>
  have hgt : decide ((n : Int) > 30) = true := by rw [decide_eq_true_iff]; omega
  have hgt2 : decide ((30 : Int) < (n : Int)) = true := by rw [decide_eq_true_iff]; omega
  go_wp2_with fail
  go_ret
  exact FewIs.no hbxH.out
 case pos =>
 have hgt : decide ((n : Int) > 30) = false := by rw [decide_eq_false_iff_not]; omega
 have hgt2 : decide ((30 : Int) < (n : Int)) = false := by rw [decide_eq_false_iff_not]; omega
 by_cases hd : nd ≤ 20
 case neg =>
  have hgt3 : decide ((nd : Int) > 20) = true := by rw [decide_eq_true_iff]; omega
  have hgt4 : decide ((20 : Int) < (nd : Int)) = true := by rw [decide_eq_true_iff]; omega
  go_wp2_with fail
  go_ret
  exact FewIs.no hbxH.out
 case pos =>
 have hgt3 : decide ((nd : Int) > 20) = false := by rw [decide_eq_false_iff_not]; omega
 have hgt4 : decide ((20 : Int) < (nd : Int)) = false := by rw [decide_eq_false_iff_not]; omega
 have hB1 : Hid (Below w0.heap.size w0 (w0.alloc (.cells #[] 9))) := Lib.hid ((Below.refl _ w0).alloc (Nat.le_refl _) _)
 have hBw1 := Lib.hid (hbxH.out.trans (hB1.out.mono hbxH.out.size))
 have hC1 := Lib.hid (str_reads (Kd.C_below hCdH.out hBw1.out))
 have hO1 : Hid (Kd.R Kd.string 9 (w0.alloc (.cells #[] 9)) w0.heap.size (fun _ => True) (.slice (some ⟨w0.heap.size, 0, none⟩) 0 0) []) := Lib.hid ⟨fun _ _ => trivial, [], World.ownsRow_made w0 #[] 0 (Nat.le_refl _) (Nat.zero_le _) rfl, Reps.none _ _⟩
 have x1' := (cell_of_heap (j := 1) (below_blk hB1.out hxH.out)).trans rfl
 have hbd0 : (([] : List ByteArray).length + nd) * 16 ≤ 140737488355328 := by simp; omega
 go_wp2_with (at_builtin; go_loud (refine Kd.R_append_rows Kd.string (Rr := fun (x : ByteArray) cs => cs = [.string x]) (w0 := w0) w0.heap.size rfl _ _ 23 9 (.string ⟨#[]⟩) 16 rfl Tryz.underlying23 infoTxt rfl (by decide) (by decide) _ [] (defs.map B) A1 nd c1 (fun _ => True) (fun _ => False) rfl rfl hO1.out hC1.out (fun _ _ h => h) (fun _ h => h.elim) (fun _ _ => trivial) hB1.out (by simp) hbd0 ?_))
 intro v1 w1 hR1 hb1 _ _
 have hR1H : Hid (Kd.R Kd.string 9 w1 w0.heap.size (fun _ => True) v1 ((allR (es.take 0) defs).map B)) := by
  have : allR (es.take 0) defs = defs := by simp [allR]
  rw [this]; exact Lib.hid hR1
 have hb1H := Lib.hid hb1
 clear hR1 hb1 hB1 hBw1 hC1 hO1 x0 x1 x1' hgt hgt2 hgt3 hgt4
 go_wp2_with fail
 go_loopg [3, 4] n (fun gk s3 s4 wr => ∃ i : Nat, s4 = .int .i64 (i : Int) ∧ i + gk = n ∧ Hid (∀ e ∈ es.take i, SmallE e) ∧ Hid (Kd.R Kd.string 9 wr w0.heap.size (fun _ => True) s3 ((allR (es.take i) defs).map B)) ∧ Hid (Below w0.heap.size w0 wr))
 case atStart => exact ⟨0, rfl, Nat.zero_add _, Lib.hid (fun e he => by simp at he), hR1H, hb1H⟩
 case round =>
  obtain ⟨i, rfl, hik, hSm, hR, hB0⟩ := hrel
  clear hR1H hb1H
  have hB : Hid (Below w.heap.size w wr) := Lib.hid (hbxH.out.trans (hB0.out.mono hbxH.out.size))
  have hxr := Lib.hid (below_blk hB0.out hxH.out)
  have x0 := (cell_of_heap (j := 0) hxr.out).trans rfl
  obtain ⟨A3, c3, rfl⟩ := Kd.R_slice hR.out
  obtain ⟨nl, hnl⟩ : ∃ x, ((allR (es.take i) defs).map B).length = x := ⟨_, rfl⟩
  have hnlH := Lib.hid hnl
  rw [hnl] at hR ⊢
  have hll : nl ≤ 1220 := by
   have h1 := allR_len (es.take i) defs hSm.out
   rw [List.length_take] at h1
   rw [List.length_map] at hnl
   have h2 := hndH.out
   omega
  clear hnl
  obtain ⟨go, rfl⟩ : ∃ g, g = gk := ⟨_, rfl⟩
  cases go with
  | zero =>
   obtain rfl : i = n := by omega
   have hlt : decide ((i : Int) < (i : Int)) = false := by simp
   have hes : Hid (es.take i = es) := Lib.hid (List.take_of_length_le (by rw [hNH.out]; exact Nat.le_refl _))
   rw [hes.out] at hR hSm hnlH
   obtain ⟨A', c', he', _, hCl⟩ := Kd.R_reads hR.out
   injection he' with e1 e2 e3
   rw [← e1, ← e2] at hCl
   have hClH := Lib.hid hCl
   clear hCl e1 e2 e3
   go_wp2_with fail
   go_loopg [6] nl (fun gj s6 wj => ∃ j : Nat, s6 = .int .i64 (j : Int) ∧ j + gj = nl ∧ Hid (∀ k (hk : k < (allR es defs).length), k < j → (allR es defs)[k].length ≤ 200) ∧ wr = wj)
   case atStart => exact ⟨0, rfl, Nat.zero_add _, Lib.hid (fun k _ h => absurd h (Nat.not_lt_zero _)), rfl⟩
   case round =>
    obtain ⟨j, rfl, hjk, hX, rfl⟩ := hrel
    have hlen : (allR es defs).length = nl := by have := hnlH.out; rw [List.length_map] at this; exact this
    cases gk with
    | zero =>
     obtain rfl : j = nl := by omega
     have hlt2 : decide ((j : Int) < (j : Int)) = false := by simp
     have hfin : Hid (SizedR es defs) := Lib.hid (sizedR_of (by rw [hNH.out]; exact hn) (by rw [hndH.out]; exact hd) hSm.out (fun t ht => by
      obtain ⟨k, hk, rfl⟩ := List.mem_iff_getElem.1 ht
      exact hX.out k hk (by rw [← hlen]; exact hk)))
     clear hlen
     go_wp2_with fail
     go_ret
     exact ⟨⟨true, rfl, fun _ => hfin.out⟩, hB.out⟩
    | succ gj =>
     have hj : j < (allR es defs).length := by rw [hlen]; omega
     have hlt2 : decide ((j : Int) < (nl : Int)) = true := by rw [decide_eq_true_iff]; omega
     have j1 : (0 : Int) ≤ (j : Int) := by omega
     have j2 : (j : Int) < (nl : Int) := by omega
     obtain ⟨ad, hAd, k0⟩ := text_at (by have := hClH.out; rw [← hlen] at this; exact this) j hj
     subst hAd
     have hXn : Hid ((allR es defs)[j].length ≤ 200 → ∀ k (hk : k < (allR es defs).length), k < j + 1 → (allR es defs)[k].length ≤ 200) := Lib.hid (fun h k hk hkj => by
      rcases Nat.lt_or_ge k j with h1 | h1
      ·exact hX.out k hk h1
      ·have : k = j := by omega
       subst this; exact h)
     obtain ⟨m, hm⟩ : ∃ m, (B (allR es defs)[j]).size = m := ⟨_, rfl⟩
     have hm2 : (allR es defs)[j].length = m := by rw [← size_B]; exact hm
     rw [hm2] at hXn
     generalize B (allR es defs)[j] = st at *
     clear hlen hm2
     by_cases hmb : m ≤ 200
     ·have hg : decide ((m : Int) > 200) = false := by rw [decide_eq_false_iff_not]; omega
      have hg2 : decide ((200 : Int) < (m : Int)) = false := by rw [decide_eq_false_iff_not]; omega
      have hXm := Lib.hid (hXn.out hmb)
      go_wp2_with fail
      go_roundg gj
      case measure => omega
      case rel => exact ⟨j + 1, by first | rfl | simp, by omega, hXm, rfl⟩
     ·have hg : decide ((m : Int) > 200) = true := by rw [decide_eq_true_iff]; omega
      have hg2 : decide ((200 : Int) < (m : Int)) = true := by rw [decide_eq_true_iff]; omega
      go_wp2_with fail
      go_ret
      exact FewIs.no hB.out
  | succ go =>
   have hi : i < es.length := by rw [hNH.out]; omega
   have hlt : decide ((i : Int) < (n : Int)) = true := by rw [decide_eq_true_iff]; omega
   have i1 : (0 : Int) ≤ (i : Int) := by omega
   have i2 : (i : Int) < (n : Int) := by omega
   obtain ⟨ad, a0, d0, a1, d1, a2, d2, a3, d3, hAd, k0, k1, k2, k3, k4, k5, g0, g1, g2, g3⟩ := edgeR_at rfl hCH.out i hi
   subst hAd
   replace k0 := below_cell hB.out k0
   replace k1 := below_cell hB.out k1
   replace k2 := below_cell hB.out k2
   replace k3 := below_cell hB.out k3
   replace k4 := below_cell hB.out k4
   replace k5 := below_cell hB.out k5
   have htk := Lib.hid (allR_take es defs i hi)
   have hSn : Hid (SmallE es[i] → ∀ e ∈ es.take (i + 1), SmallE e) := Lib.hid (fun h e he => by
    rw [List.take_succ_eq_append_getElem hi] at he
    rcases List.mem_append.1 he with h1 | h1
    ·exact hSm.out e h1
    ·rw [List.mem_singleton.1 h1]; exact h)
   generalize es[i] = e at *
   obtain ⟨wa, hwa⟩ : ∃ x, wr.alloc (.cells #[.slice a0 e.outs.length d0, .slice a1 e.ins.length d1, .slice a2 e.imp.length d2, .slice a3 e.ord.length d3, .string (B e.cmd), .string (B e.dep)] 51) = x := ⟨_, rfl⟩
   have hba : Below wr.heap.size wr wa := by rw [← hwa]; exact (Below.refl _ _).alloc (Nat.le_refl _) _
   have hxa := heap_alloc_new wr (.cells #[.slice a0 e.outs.length d0, .slice a1 e.ins.length d1, .slice a2 e.imp.length d2, .slice a3 e.ord.length d3, .string (B e.cmd), .string (B e.dep)] 51)
   rw [hwa] at hxa
   obtain ⟨p, hp⟩ : ∃ x, wr.heap.size = x := ⟨_, rfl⟩
   rw [hp] at hxa
   have hxa0 := Lib.hid hxa
   have hBa := Lib.hid (hB0.out.trans (hba.mono hB0.out.size))
   have hBw := Lib.hid (hB.out.trans (hba.mono hB.out.size))
   have hRa := Lib.hid (Kd.R_below hR.out hba)
   have hrow : Hid (∀ b, (Value.slice A3 nl c3).ownBlock = some b → b < p) := Lib.hid (fun b hb => by rw [← hp]; exact ((Kd.R_bound hR.out).1 b hb).2.2.1)
   have hwaH := Lib.hid hwa
   have hpH := Lib.hid hp
   have hG0 := Lib.hid g0
   have hG1 := Lib.hid g1
   have hG2 := Lib.hid g2
   have hG3 := Lib.hid g3
   obtain ⟨m4, hm4⟩ : ∃ x, (B e.cmd).size = x := ⟨_, rfl⟩
   obtain ⟨m5, hm5⟩ : ∃ x, (B e.dep).size = x := ⟨_, rfl⟩
   have hsm : Hid (e.outs.length ≤ 10 → e.ins.length ≤ 10 → e.imp.length ≤ 10 → e.ord.length ≤ 10 → m4 ≤ 300 → m5 ≤ 200 → SmallE e) := Lib.hid (fun h0 h1 h2 h3 h4 h5 => ⟨h0, h1, h2, h3, by rw [← size_B]; omega, by rw [← size_B]; omega⟩)
   obtain ⟨n0, hn0⟩ : ∃ x, e.outs.length = x := ⟨_, rfl⟩
   obtain ⟨n1, hn1⟩ : ∃ x, e.ins.length = x := ⟨_, rfl⟩
   obtain ⟨n2, hn2⟩ : ∃ x, e.imp.length = x := ⟨_, rfl⟩
   obtain ⟨n3, hn3⟩ : ∃ x, e.ord.length = x := ⟨_, rfl⟩
   rw [hn0] at hxa0 hwaH k0 hG0
   rw [hn1] at hxa0 hwaH k1 hG1
   rw [hn2] at hxa0 hwaH k2 hG2
   rw [hn3] at hxa0 hwaH k3 hG3
   rw [hn0, hn1, hn2, hn3] at hsm
   generalize B e.cmd = sc at *
   generalize B e.dep = sd at *
   clear hn0 hn1 hn2 hn3 g0 g1 g2 g3 hba hxa hwa hp hB hB0 hR
   go_upto_region 8 with (fail)
   rw [hwaH.out, hpH.out]
   clear hwaH hpH k0 k1 k2 k3 k4 k5 x0 hlt hxr
   have y0 := (cell_of_heap (j := 0) hxa0.out).trans rfl
   have y1 := (cell_of_heap (j := 1) hxa0.out).trans rfl
   have y2 := (cell_of_heap (j := 2) hxa0.out).trans rfl
   have y3 := (cell_of_heap (j := 3) hxa0.out).trans rfl
   have y4 := (cell_of_heap (j := 4) hxa0.out).trans rfl
   have y5 := (cell_of_heap (j := 5) hxa0.out).trans rfl
   by_cases hc0 : n0 ≤ 10
   case neg =>
    have hg : decide ((n0 : Int) > 10) = true := by rw [decide_eq_true_iff]; omega
    have hg2 : decide ((10 : Int) < (n0 : Int)) = true := by rw [decide_eq_true_iff]; omega
    go_wp2_with fail
    go_ret
    exact FewIs.no hBw.out
   case pos =>
   have hg0 : decide ((n0 : Int) > 10) = false := by rw [decide_eq_false_iff_not]; omega
   have hh0 : decide ((10 : Int) < (n0 : Int)) = false := by rw [decide_eq_false_iff_not]; omega
   by_cases hc1 : n1 ≤ 10
   case neg =>
    have hg : decide ((n1 : Int) > 10) = true := by rw [decide_eq_true_iff]; omega
    have hg2 : decide ((10 : Int) < (n1 : Int)) = true := by rw [decide_eq_true_iff]; omega
    go_wp2_with fail
    go_ret
    exact FewIs.no hBw.out
   case pos =>
   have hg1 : decide ((n1 : Int) > 10) = false := by rw [decide_eq_false_iff_not]; omega
   have hh1 : decide ((10 : Int) < (n1 : Int)) = false := by rw [decide_eq_false_iff_not]; omega
   by_cases hc2 : n2 ≤ 10
   case neg =>
    have hg : decide ((n2 : Int) > 10) = true := by rw [decide_eq_true_iff]; omega
    have hg2 : decide ((10 : Int) < (n2 : Int)) = true := by rw [decide_eq_true_iff]; omega
    go_wp2_with fail
    go_ret
    exact FewIs.no hBw.out
   case pos =>
   have hg2 : decide ((n2 : Int) > 10) = false := by rw [decide_eq_false_iff_not]; omega
   have hh2 : decide ((10 : Int) < (n2 : Int)) = false := by rw [decide_eq_false_iff_not]; omega
   by_cases hc3 : n3 ≤ 10
   case neg =>
    have hg : decide ((n3 : Int) > 10) = true := by rw [decide_eq_true_iff]; omega
    have hg2 : decide ((10 : Int) < (n3 : Int)) = true := by rw [decide_eq_true_iff]; omega
    go_wp2_with fail
    go_ret
    exact FewIs.no hBw.out
   case pos =>
   have hg3 : decide ((n3 : Int) > 10) = false := by rw [decide_eq_false_iff_not]; omega
   have hh3 : decide ((10 : Int) < (n3 : Int)) = false := by rw [decide_eq_false_iff_not]; omega
   by_cases hc4 : m4 ≤ 300
   case neg =>
    have hg : decide ((m4 : Int) > 300) = true := by rw [decide_eq_true_iff]; omega
    have hg2 : decide ((300 : Int) < (m4 : Int)) = true := by rw [decide_eq_true_iff]; omega
    go_wp2_with fail
    go_ret
    exact FewIs.no hBw.out
   case pos =>
   have hg4 : decide ((m4 : Int) > 300) = false := by rw [decide_eq_false_iff_not]; omega
   have hh4 : decide ((300 : Int) < (m4 : Int)) = false := by rw [decide_eq_false_iff_not]; omega
   by_cases hc5 : m5 ≤ 200
   case neg =>
    have hg : decide ((m5 : Int) > 200) = true := by rw [decide_eq_true_iff]; omega
    have hg2 : decide ((200 : Int) < (m5 : Int)) = true := by rw [decide_eq_true_iff]; omega
    go_wp2_with fail
    go_ret
    exact FewIs.no hBw.out
   case pos =>
   have hg5 : decide ((m5 : Int) > 200) = false := by rw [decide_eq_false_iff_not]; omega
   have hh5 : decide ((200 : Int) < (m5 : Int)) = false := by rw [decide_eq_false_iff_not]; omega
   have hSe := Lib.hid (hSn.out (hsm.out hc0 hc1 hc2 hc3 hc4 hc5))
   go_upto_region 10 with (fail)
   clear y0 y1 y2 y3 y4 y5 hg0 hg1 hg2 hg3 hg4 hg5 hh0 hh1 hh2 hh3 hh4 hh5 hsm hSn hm4 hm5
   have hSS : Hid (∀ W' : World, W'.heap[p]? = some (.cells #[.slice a0 n0 d0, .slice a1 n1 d1, .slice a2 n2 d2, .slice a3 n3 d3, .string sc, .string sd] 51 (0, 0)) → (fun w' => w'.cell? ⟨p, 0, none⟩ = some (.slice a0 n0 d0) ∧ w'.cell? ⟨p, 1, none⟩ = some (.slice a1 n1 d1) ∧ w'.cell? ⟨p, 2, none⟩ = some (.slice a2 n2 d2) ∧ w'.cell? ⟨p, 3, none⟩ = some (.slice a3 n3 d3)) W') := Lib.hid (fun W' h2 => ⟨(cell_of_heap (j := 0) h2).trans rfl, (cell_of_heap (j := 1) h2).trans rfl, (cell_of_heap (j := 2) h2).trans rfl, (cell_of_heap (j := 3) h2).trans rfl⟩)
   have hx_0 : Hid (wa.drew.heap[p]? = some (.cells #[.slice a0 n0 d0, .slice a1 n1 d1, .slice a2 n2 d2, .slice a3 n3 d3, .string sc, .string sd] 51 (0, 0))) := Lib.hid (below_blk (Below.refl wa.heap.size wa).drew hxa0.out)
   have hB_0 : Hid (Below w0.heap.size w0 wa.drew) := Lib.hid hBa.out.drew
   have hR_0 : Hid (Kd.R Kd.string 9 wa.drew w0.heap.size (fun _ => True) (.slice A3 nl c3) ((allR (es.take i) defs).map B)) := Lib.hid (Kd.R_below hRa.out (Below.refl _ _).drew)
   have hr_0 : Hid (∀ b, (Value.slice A3 nl c3).ownBlock = some b → b ≠ p) := Lib.hid (fun b hb => by have := hrow.out b hb; omega)
   have hp0 : Hid (p < wa.heap.size) := Lib.hid (lt_blk hxa0.out)
   have hw0w : Hid (Below w.heap.size w w0) := hbxH
   have hl_0 : ((allR (es.take i) defs).map B).length ≤ 1220 := by rw [hnlH.out]; omega
   refine RegP.regionH (fun w' => w'.cell? ⟨p, 0, none⟩ = some (.slice a0 n0 d0) ∧ w'.cell? ⟨p, 1, none⟩ = some (.slice a1 n1 d1) ∧ w'.cell? ⟨p, 2, none⟩ = some (.slice a2 n2 d2) ∧ w'.cell? ⟨p, 3, none⟩ = some (.slice a3 n3 d3)) [(0, 0), (0, 1), (1, 2), (0, 4), (1, 5), (0, 7), (1, 8), (0, 10), (1, 11), (2, 3), (2, 6), (2, 9), (2, 12), (0, 13)] (by kernel_rfl) (by kernel_rfl) (by rfl) (by kernel_rfl) (by exact hSS.out _ hx_0.out) ?_
   repeat ((first | refine RegP.pu ?_ | refine RegP.he ?_ | refine RegP.sk ?_); try simp only [Act.put, pA,pB,pC])
   refine RegP.evq (fun K hK => ?_)
   have hC0 := Lib.hid (str_reads (Kd.C_below hG0.out (hw0w.out.trans (hB_0.out.mono hw0w.out.size))))
   refine Kd.R_append_rows_step Kd.string (Rr := fun (x : ByteArray) cs => cs = [.string x]) (w0 := w0) w0.heap.size (by rfl) _ _ 23 9 (.string ⟨#[]⟩) 16 rfl Tryz.underlying23 infoTxt rfl (by decide) (by decide) (.slice A3 nl c3) ((allR (es.take i) defs).map B) (e.outs.map B) a0 n0 d0 (fun _ => True) (fun _ => False) rfl rfl hR_0.out hC0.out (fun _ _ h => h) (fun _ h => h.elim) (fun _ _ => trivial) hB_0.out hB_0.out.size (by omega) ?_
   intro v2 w2 hR hb hg hat
   have hR_1 := Lib.hid hR
   have hB_1 := Lib.hid hb
   have hlw_0 : Hid (p < wa.drew.heap.size) := Lib.hid (by have := lt_blk hx_0.out; exact this)
   have hx_1 := Lib.hid ((hg.block p hlw_0.out (fun e => hr_0.out _ e.symm rfl)).trans hx_0.out)
   have hr_1 : Hid (∀ b, v2.ownBlock = some b → b ≠ p) := Lib.hid (fun b hb => by
    rcases hat with e1 | ⟨b2, e1, h2⟩
    ·exact hr_0.out b (by rw [← e1]; exact hb)
    ·rw [e1] at hb; injection hb with hb; have := hlw_0.out; omega)
   have hl_1 : ((allR (es.take i) defs).map B ++ e.outs.map B).length ≤ 1230 := by have h9 := hG0.out.1; rw [List.length_append]; omega
   clear hR hb hg hat
   refine hK.out _ _ ?_ (fun hHeld => ?_)
   ·(try dsimp only); exact hSS.out _ hx_1.out
   clear hK K
   try simp only [Act.put, pA,pB,pC]
   refine RegP.evq (fun K hK => ?_)
   have hC1 := Lib.hid (str_reads (Kd.C_below hG1.out (hw0w.out.trans (hB_1.out.mono hw0w.out.size))))
   refine Kd.R_append_rows_step Kd.string (Rr := fun (x : ByteArray) cs => cs = [.string x]) (w0 := w0) w0.heap.size (by rfl) _ _ 23 9 (.string ⟨#[]⟩) 16 rfl Tryz.underlying23 infoTxt rfl (by decide) (by decide) v2 ((allR (es.take i) defs).map B ++ e.outs.map B) (e.ins.map B) a1 n1 d1 (fun _ => True) (fun _ => False) rfl rfl hR_1.out hC1.out (fun _ _ h => h) (fun _ h => h.elim) (fun _ _ => trivial) hB_1.out hB_1.out.size (by omega) ?_
   intro v3 w3 hR hb hg hat
   have hR_2 := Lib.hid hR
   have hB_2 := Lib.hid hb
   have hlw_1 : Hid (p < w2.heap.size) := Lib.hid (by have := lt_blk hx_1.out; exact this)
   have hx_2 := Lib.hid ((hg.block p hlw_1.out (fun e => hr_1.out _ e.symm rfl)).trans hx_1.out)
   have hr_2 : Hid (∀ b, v3.ownBlock = some b → b ≠ p) := Lib.hid (fun b hb => by
    rcases hat with e1 | ⟨b2, e1, h2⟩
    ·exact hr_1.out b (by rw [← e1]; exact hb)
    ·rw [e1] at hb; injection hb with hb; have := hlw_1.out; omega)
   have hl_2 : ((allR (es.take i) defs).map B ++ e.outs.map B ++ e.ins.map B).length ≤ 1240 := by have h9 := hG1.out.1; rw [List.length_append]; omega
   clear hR hb hg hat
   refine hK.out _ _ ?_ (fun hHeld => ?_)
   ·(try dsimp only); exact hSS.out _ hx_2.out
   clear hK K
   try simp only [Act.put, pA,pB,pC]
   refine RegP.evq (fun K hK => ?_)
   have hC2 := Lib.hid (str_reads (Kd.C_below hG2.out (hw0w.out.trans (hB_2.out.mono hw0w.out.size))))
   refine Kd.R_append_rows_step Kd.string (Rr := fun (x : ByteArray) cs => cs = [.string x]) (w0 := w0) w0.heap.size (by rfl) _ _ 23 9 (.string ⟨#[]⟩) 16 rfl Tryz.underlying23 infoTxt rfl (by decide) (by decide) v3 ((allR (es.take i) defs).map B ++ e.outs.map B ++ e.ins.map B) (e.imp.map B) a2 n2 d2 (fun _ => True) (fun _ => False) rfl rfl hR_2.out hC2.out (fun _ _ h => h) (fun _ h => h.elim) (fun _ _ => trivial) hB_2.out hB_2.out.size (by omega) ?_
   intro v4 w4 hR hb hg hat
   have hR_3 := Lib.hid hR
   have hB_3 := Lib.hid hb
   have hlw_2 : Hid (p < w3.heap.size) := Lib.hid (by have := lt_blk hx_2.out; exact this)
   have hx_3 := Lib.hid ((hg.block p hlw_2.out (fun e => hr_2.out _ e.symm rfl)).trans hx_2.out)
   have hr_3 : Hid (∀ b, v4.ownBlock = some b → b ≠ p) := Lib.hid (fun b hb => by
    rcases hat with e1 | ⟨b2, e1, h2⟩
    ·exact hr_2.out b (by rw [← e1]; exact hb)
    ·rw [e1] at hb; injection hb with hb; have := hlw_2.out; omega)
   have hl_3 : ((allR (es.take i) defs).map B ++ e.outs.map B ++ e.ins.map B ++ e.imp.map B).length ≤ 1250 := by have h9 := hG2.out.1; rw [List.length_append]; omega
   clear hR hb hg hat
   refine hK.out _ _ ?_ (fun hHeld => ?_)
   ·(try dsimp only); exact hSS.out _ hx_3.out
   clear hK K
   try simp only [Act.put, pA,pB,pC]
   refine RegP.evq (fun K hK => ?_)
   have hC3 := Lib.hid (str_reads (Kd.C_below hG3.out (hw0w.out.trans (hB_3.out.mono hw0w.out.size))))
   refine Kd.R_append_rows_step Kd.string (Rr := fun (x : ByteArray) cs => cs = [.string x]) (w0 := w0) w0.heap.size (by rfl) _ _ 23 9 (.string ⟨#[]⟩) 16 rfl Tryz.underlying23 infoTxt rfl (by decide) (by decide) v4 ((allR (es.take i) defs).map B ++ e.outs.map B ++ e.ins.map B ++ e.imp.map B) (e.ord.map B) a3 n3 d3 (fun _ => True) (fun _ => False) rfl rfl hR_3.out hC3.out (fun _ _ h => h) (fun _ h => h.elim) (fun _ _ => trivial) hB_3.out hB_3.out.size (by omega) ?_
   intro v5 w5 hR hb hg hat
   have hR_4 := Lib.hid hR
   have hB_4 := Lib.hid hb
   have hlw_3 : Hid (p < w4.heap.size) := Lib.hid (by have := lt_blk hx_3.out; exact this)
   have hx_4 := Lib.hid ((hg.block p hlw_3.out (fun e => hr_3.out _ e.symm rfl)).trans hx_3.out)
   have hr_4 : Hid (∀ b, v5.ownBlock = some b → b ≠ p) := Lib.hid (fun b hb => by
    rcases hat with e1 | ⟨b2, e1, h2⟩
    ·exact hr_3.out b (by rw [← e1]; exact hb)
    ·rw [e1] at hb; injection hb with hb; have := hlw_3.out; omega)
   have hl_4 : ((allR (es.take i) defs).map B ++ e.outs.map B ++ e.ins.map B ++ e.imp.map B ++ e.ord.map B).length ≤ 1260 := by have h9 := hG3.out.1; rw [List.length_append]; omega
   clear hR hb hg hat
   refine hK.out _ _ ?_ (fun hHeld => ?_)
   ·(try dsimp only); exact hSS.out _ hx_4.out
   clear hK K
   try simp only [Act.put, pA,pB,pC]
   repeat ((first | refine RegP.pu ?_ | refine RegP.he ?_ | refine RegP.sk ?_); try simp only [Act.put, pA,pB,pC])
   refine RegP.done1 ?_
   try dsimp only
   have hRn : Hid (Kd.R Kd.string 9 w5 w0.heap.size (fun _ => True) v5 ((allR (es.take (i + 1)) defs).map B)) := by
    have h := hR_4.out
    rw [htk.out, List.map_append]
    unfold namesR
    simp only [List.map_append, ← List.append_assoc]
    exact Lib.hid h
   clear hR_0 hR_1 hR_2 hR_3 hR_4 hC0 hC1 hC2 hC3 hx_0 hx_1 hx_2 hx_3 hx_4 hr_0 hr_1 hr_2 hr_3 hr_4 hB_0 hB_1 hB_2 hB_3 hl_0 hl_1 hl_2 hl_3 hl_4
   go_wp2_with fail
   go_roundg go
   case measure => omega
   case rel => exact ⟨i + 1, by first | rfl | simp, by omega, hSe, hRn, hB_4⟩
end Go.Proofs.YtnegfigaiomehaaGreatDoor.Tp
end
section
namespace Go.Proofs.YtnegfigaiomehaaGreatDoor.Tp
open Go.RowKit Go.Lib Go.Shelf Go.Maps Go.Proofs.YtnegfigaiomehaaGreatDoorW.PrintWords Go.Proofs.YtnegfigaiomehaaGreatDoorW.PrintLast Go.Proofs.YtnegfigaiomehaaGreatDoorW.PrintMore Go.Proofs.YtnegfigaiomehaaGreatDoor.U Go.Proofs.YtnegfigaiomehaaGreatDoor.P Go.Proofs.YtnegfigaiomehaaGreatDoor.PTh Go.Proofs.YtnegfigaiomehaaGreatDoor.MapV Go.Proofs.YtnegfigaiomehaaGreatDoor.Ck
def toG (f : FileL) : SG := ⟨B f.n, ints f.b⟩
theorem fileR_at {w : World} {A : Option Addr} {fs : List FileL} {n : Nat} (hn : fs.length = n) (h : Kd.C KG w A n (fs.map toG)) (i : Nat) (hi : i < fs.length) : ∃ ad A1 c1, A = some ad ∧
  w.cell? (ad.add (i * 2)) = some (.string (B fs[i].n)) ∧ w.cell? ⟨(ad.add (i * 2)).block, (ad.add (i * 2)).off + 1, none⟩ = some (.slice A1 fs[i].b.length c1) ∧ fs[i].b.length ≤ c1 ∧ (Kd.int .u8).C w A1 fs[i].b.length (ints fs[i].b) := by
 subst hn
 obtain ⟨ad, A1, c1, rfl, k0, k1, l1, g1⟩ := at_T39 h (i : Int) (by omega) (by omega)
 have hx : rd_T39 (fs.map toG) (i : Int) = toG fs[i] := by
  show (fs.map toG).getD (i : Int).toNat _ = _
  rw [Int.toNat_natCast, List.getD_eq_getElem?_getD, List.getElem?_map, List.getElem?_eq_getElem hi]; rfl
 rw [Int.toNat_natCast] at k0 k1
 rw [hx] at k0 k1 l1 g1
 have e1 : (toG fs[i]).f1.length = fs[i].b.length := ints_len _
 rw [e1] at k1 l1 g1
 exact ⟨ad, A1, c1, rfl, k0, k1, l1, g1⟩
structure SizedT (es : List EdgeL) (defs : List Txt) (fs : List FileL) : Prop where
 m : SizedR es defs
 n : fs.length ≤ 10
 f : ∀ f ∈ fs, f.n.length ≤ 100 ∧ f.b.length ≤ 300
def RightIs (es : List EdgeL) (defs : List Txt) (fs : List FileL) (w : World) (e : Ending) (w' : World) : Prop := (∃ b, e = .returned (.bool b) ∧ (b = true → SizedT es defs fs)) ∧ Below w.heap.size w w'
theorem RightIs.no {es : List EdgeL} {defs : List Txt} {fs : List FileL} {w w' : World} (h : Below w.heap.size w w') : RightIs es defs fs w (.returned (.bool false)) w' := ⟨⟨false, rfl, fun h => by cases h⟩, h⟩
set_option maxRecDepth 100000 in
set_option maxHeartbeats 16000000 in
theorem right_any (A A1 AL : Option Addr) (c c1 cL : Nat) (es : List EdgeL) (defs : List Txt) (fs : List FileL) (w : World) (h : Kd.C KR w A es.length (es.map toR)) (h1 : Kd.C Kd.string w A1 defs.length (defs.map B)) (h2 : Kd.C KG w AL fs.length (fs.map toG)) :
  Calls Tryz.prog 4 #[.agg #[.slice A es.length c, .slice A1 defs.length c1, .slice AL fs.length cL]] w (RightIs es defs fs w) := by
 obtain ⟨n, hN⟩ : ∃ n, es.length = n := ⟨_, rfl⟩
 obtain ⟨nd, hnd⟩ : ∃ n, defs.length = n := ⟨_, rfl⟩
 obtain ⟨nf, hnf⟩ : ∃ n, fs.length = n := ⟨_, rfl⟩
 have hNH := Lib.hid hN
 have hnfH := Lib.hid hnf
 obtain ⟨w0, hw0⟩ : ∃ x, w.alloc (.cells #[.slice A n c, .slice A1 nd c1, .slice AL nf cL] 28) = x := ⟨_, rfl⟩
 have hbx : Below w.heap.size w w0 := by rw [← hw0]; exact (Below.refl _ _).alloc (Nat.le_refl _) _
 have hx := heap_alloc_new w (.cells #[.slice A n c, .slice A1 nd c1, .slice AL nf cL] 28)
 rw [hw0] at hx
 have hw0H := Lib.hid hw0
 have hFew := Lib.hid (few_any A A1 c c1 es defs w0 (Kd.C_below h hbx) (Kd.C_below h1 hbx))
 have hRg := Lib.hid (fun W (hW : Below w.heap.size w W) (hS : SizedR es defs) => Right12_weak A A1 c c1 es defs W (Kd.C_below h hW) (Kd.C_below h1 hW) hS)
 have hPr := Lib.hid (fun W (hW : Below w.heap.size w W) (hS : SizedR es defs) => Print_weak A A1 c c1 es defs W (Kd.C_below h hW) (Kd.C_below h1 hW) hS)
 have hMk := Lib.hid (fun W (f : Txt) (hW : Below w.heap.size w W) (hS : SizedR es defs) => Maker_weak A A1 c nd c1 es f W (Kd.C_below h hW) (by have := hS.n; omega) (fun e he => by have := (hS.e e he).1; omega))
 have hC2 := Lib.hid h2
 rw [hN, hnd] at hFew hRg hPr
 rw [hN] at hMk
 rw [hN, hnd, hnf]
 obtain ⟨q, hq⟩ : ∃ x, w.heap.size = x := ⟨_, rfl⟩
 rw [hq] at hx
 have hbxH := Lib.hid hbx
 have hxH := Lib.hid hx
 have hqH := Lib.hid hq
 have x0 := (cell_of_heap (j := 0) hx).trans rfl
 have x1 := (cell_of_heap (j := 1) hx).trans rfl
 have x2 := (cell_of_heap (j := 2) hx).trans rfl
 clear hN h h1 h2 hbx hx hw0 hq hnd hnf
 go_enter Tryz.func4, Tryz.ntmps4
 go_upto_region 1 with (fail)
 rw [hw0H.out, hqH.out]
 clear hw0H
 go_wp2_with fail
 refine hFew.out.mono ?_
 rintro e w1 ⟨⟨b, rfl, hbS⟩, hb⟩
 have hB1 := Lib.hid (hbxH.out.trans (hb.mono hbxH.out.size))
 have hx1 := Lib.hid (below_blk hb hxH.out)
 clear hb x0 x1 x2 hFew hxH hbxH
 have x0 := (cell_of_heap (j := 0) hx1.out).trans rfl
 have x1 := (cell_of_heap (j := 1) hx1.out).trans rfl
 have x2 := (cell_of_heap (j := 2) hx1.out).trans rfl
 cases b with
 | false =>
  clear hbS
  go_wp2_with fail
  go_ret
  exact RightIs.no hB1.out
 | true =>
 have hSz := Lib.hid (hbS rfl)
 clear hbS
 by_cases hf : nf ≤ 10
 case neg =>
  have hgt : decide ((nf : Int) > 10) = true := by rw [decide_eq_true_iff]; omega
  have hgt2 : decide ((10 : Int) < (nf : Int)) = true := by rw [decide_eq_true_iff]; omega
  go_wp2_with fail
  go_ret
  exact RightIs.no hB1.out
 case pos =>
 have hgt : decide ((nf : Int) > 10) = false := by rw [decide_eq_false_iff_not]; omega
 have hgt2 : decide ((10 : Int) < (nf : Int)) = false := by rw [decide_eq_false_iff_not]; omega
 go_wp2_with fail
 refine (hRg.out _ hB1.out hSz.out).mono ?_
 rintro e w2 ⟨⟨b, rfl⟩, hb⟩
 have hB2 := Lib.hid (hB1.out.trans (hb.mono hB1.out.size))
 have hx2 := Lib.hid (below_blk hb hx1.out)
 clear hb x0 x1 x2 hB1 hx1
 have x0 := (cell_of_heap (j := 0) hx2.out).trans rfl
 have x1 := (cell_of_heap (j := 1) hx2.out).trans rfl
 have x2 := (cell_of_heap (j := 2) hx2.out).trans rfl
 cases b with
 | false =>
  go_wp2_with fail
  go_ret
  exact RightIs.no hB2.out
 | true =>
 go_wp2_with fail
 refine (hPr.out _ hB2.out hSz.out).mono ?_
 rintro e w3 ⟨⟨s, hs, rfl⟩, hb⟩
 have hB3 := Lib.hid (hB2.out.trans (hb.mono hB2.out.size))
 have hx3 := Lib.hid (below_blk hb hx2.out)
 clear hb x0 x1 x2 hB2 hx2
 obtain ⟨m, hm⟩ : ∃ m, s.size = m := ⟨_, rfl⟩
 by_cases hsm : m ≤ 16384
 case neg =>
  have hgs : decide ((m : Int) > 16384) = true := by rw [decide_eq_true_iff]; omega
  have hgs2 : decide ((16384 : Int) < (m : Int)) = true := by rw [decide_eq_true_iff]; omega
  go_wp2_with fail
  go_ret
  exact RightIs.no hB3.out
 case pos =>
 have hgs : decide ((m : Int) > 16384) = false := by rw [decide_eq_false_iff_not]; omega
 have hgs2 : decide ((16384 : Int) < (m : Int)) = false := by rw [decide_eq_false_iff_not]; omega
 go_wp2_with fail
 clear hgs hgs2 hgt hgt2 hs hm hsm
 go_loopg [3] nf (fun gk s3 wr => ∃ i : Nat, s3 = .int .i64 (i : Int) ∧ i + gk = nf ∧ Hid (∀ f ∈ fs.take i, f.n.length ≤ 100 ∧ f.b.length ≤ 300) ∧ Hid (Below w3.heap.size w3 wr))
 case atStart => exact ⟨0, rfl, Nat.zero_add _, Lib.hid (fun f hf => by simp at hf), Below.refl _ _⟩
 case round =>
  obtain ⟨i, rfl, hik, hX, hB0⟩ := hrel
  have hB : Hid (Below w.heap.size w wr) := Lib.hid (hB3.out.trans (hB0.out.mono hB3.out.size))
  have hxr := Lib.hid (below_blk hB0.out hx3.out)
  have x2 := (cell_of_heap (j := 2) hxr.out).trans rfl
  cases gk with
  | zero =>
   obtain rfl : i = nf := by omega
   have hlt : decide ((i : Int) < (i : Int)) = false := by simp
   have hfin : Hid (SizedT es defs fs) := Lib.hid ⟨hSz.out, by rw [hnfH.out]; exact hf, by
    have := hX.out
    rw [List.take_of_length_le (by rw [hnfH.out]; exact Nat.le_refl _)] at this
    exact this⟩
   go_wp2_with fail
   go_ret
   exact ⟨⟨true, rfl, fun _ => hfin.out⟩, hB.out⟩
  | succ gk =>
   have hi : i < fs.length := by rw [hnfH.out]; omega
   have hlt : decide ((i : Int) < (nf : Int)) = true := by rw [decide_eq_true_iff]; omega
   have i1 : (0 : Int) ≤ (i : Int) := by omega
   have i2 : (i : Int) < (nf : Int) := by omega
   obtain ⟨ad, AB, cB, hAd, k0, k1, _, _⟩ := fileR_at rfl hC2.out i hi
   subst hAd
   have hXn : Hid (fs[i].n.length ≤ 100 → fs[i].b.length ≤ 300 → ∀ f ∈ fs.take (i + 1), f.n.length ≤ 100 ∧ f.b.length ≤ 300) := Lib.hid (fun h1 h2 f hf' => by
    rw [List.take_succ_eq_append_getElem hi] at hf'
    rcases List.mem_append.1 hf' with h3 | h3
    ·exact hX.out f h3
    ·rw [List.mem_singleton.1 h3]; exact ⟨h1, h2⟩)
   have hMf := Lib.hid (fun W hW => hMk.out W fs[i].n hW hSz.out)
   have hOf := Lib.hid (fun W => Own16_weak fs[i].n W)
   obtain ⟨m, hm⟩ : ∃ m, (B fs[i].n).size = m := ⟨_, rfl⟩
   have hm2 : fs[i].n.length = m := by rw [← size_B]; exact hm
   rw [hm2] at hXn
   clear hm2
   obtain ⟨mb, hmb⟩ : ∃ m, fs[i].b.length = m := ⟨_, rfl⟩
   rw [hmb] at hXn k1
   clear hmb
   generalize B fs[i].n = st at *
   have hSS : Hid (∀ W', Below w.heap.size w W' → W'.heap[q]? = some (.cells #[.slice A n c, .slice A1 nd c1, .slice (some ad) nf cL] 28 (0, 0)) → (fun w' => w'.cell? ⟨q, 0, none⟩ = some (.slice A n c) ∧ w'.cell? ⟨q, 1, none⟩ = some (.slice A1 nd c1) ∧ w'.cell? ⟨q, 2, none⟩ = some (.slice (some ad) nf cL) ∧ w'.cell? (ad.add (i * 2)) = some (.string st) ∧ w'.cell? ⟨(ad.add (i * 2)).block, (ad.add (i * 2)).off + 1, none⟩ = some (.slice AB mb cB)) W') := Lib.hid (fun W' hW h2 => ⟨(cell_of_heap (j := 0) h2).trans rfl, (cell_of_heap (j := 1) h2).trans rfl, (cell_of_heap (j := 2) h2).trans rfl, below_cell hW k0, below_cell hW k1⟩)
   have hBd : Hid (Below w.heap.size w wr.drew) := Lib.hid hB.out.drew
   have hxd : Hid (wr.drew.heap[q]? = some (.cells #[.slice A n c, .slice A1 nd c1, .slice (some ad) nf cL] 28 (0, 0))) := Lib.hid (below_blk (Below.refl wr.heap.size wr).drew hxr.out)
   have hB0d : Hid (Below w3.heap.size w3 wr.drew) := Lib.hid hB0.out.drew
   go_upto_region 6 with (fail)
   clear k0 k1 x2 hlt
   by_cases hm1 : m ≤ 100
   case neg =>
    have hg : decide ((m : Int) > 100) = true := by rw [decide_eq_true_iff]; omega
    have hg2 : decide ((100 : Int) < (m : Int)) = true := by rw [decide_eq_true_iff]; omega
    refine RegP.regionQ (fun w' => w'.cell? ⟨q, 0, none⟩ = some (.slice A n c) ∧ w'.cell? ⟨q, 1, none⟩ = some (.slice A1 nd c1) ∧ w'.cell? ⟨q, 2, none⟩ = some (.slice (some ad) nf cL) ∧ w'.cell? (ad.add (i * 2)) = some (.string st) ∧ w'.cell? ⟨(ad.add (i * 2)).block, (ad.add (i * 2)).off + 1, none⟩ = some (.slice AB mb cB)) [(false, 0), (false, 1), (false, 2), (false, 3), (false, 4), (false, 5), (false, 6), (false, 7), (false, 8), (false, 9), (false, 10), (false, 11), (false, 12), (false, 13), (false, 14), (false, 15), (false, 16), (false, 17), (false, 18), (false, 19), (false, 20), (false, 21), (false, 22), (false, 23), (false, 24), (false, 25), (false, 26), (true, 27), (false, 28), (false, 29), (false, 30), (false, 31), (false, 32), (false, 33), (false, 34), (false, 35), (false, 36), (true, 37), (false, 38)] (by kernel_rfl) (by kernel_rfl) (by rfl) (by kernel_rfl) (by exact hSS.out _ hBd.out hxd.out) ?_
    refine RegP.qp ?_
    try simp only [Act.put, pA,pB,pC]
    refine RegP.qh ?_
    try simp only [Act.put, pA,pB,pC]
    iterate 3 (refine RegP.qp ?_; try simp only [Act.put, pA,pB,pC])
    refine RegP.qh ?_
    try simp only [Act.put, pA,pB,pC]
    iterate 3 (refine RegP.qp ?_; try simp only [Act.put, pA,pB,pC])
    iterate 8 (refine RegP.qs ?_; try simp only [Act.put, pA,pB,pC])
    iterate 2 (refine RegP.qp ?_; try simp only [Act.put, pA,pB,pC])
    iterate 8 (refine RegP.qs ?_; try simp only [Act.put, pA,pB,pC])
    refine RegP.qe (fun K hK => ?_)
    go_simp
    refine hK.out _ _ ?_ (fun hHeld => ?_)
    ·(try dsimp only); exact hSS.out _ hBd.out hxd.out
    clear hK K
    try simp only [Act.put, pA,pB,pC]
    refine RegP.qs ?_
    try simp only [Act.put, pA,pB,pC]
    iterate 2 (refine RegP.qp ?_; try simp only [Act.put, pA,pB,pC])
    iterate 6 (refine RegP.qs ?_; try simp only [Act.put, pA,pB,pC])
    refine RegP.qe (fun K hK => ?_)
    go_simp
    refine hK.out _ _ ?_ (fun hHeld => ?_)
    ·(try dsimp only); exact hSS.out _ hBd.out hxd.out
    clear hK K
    try simp only [Act.put, pA,pB,pC]
    refine RegP.qp ?_
    try simp only [Act.put, pA,pB,pC]
    refine RegP.qd ?_
    try dsimp only
    go_wp2_with fail
    go_ret
    exact RightIs.no hBd.out
   case pos =>
   have hg : decide ((m : Int) > 100) = false := by rw [decide_eq_false_iff_not]; omega
   have hg2 : decide ((100 : Int) < (m : Int)) = false := by rw [decide_eq_false_iff_not]; omega
   by_cases hm3 : mb ≤ 300
   case neg =>
    have hg3 : decide ((mb : Int) > 300) = true := by rw [decide_eq_true_iff]; omega
    have hg4 : decide ((300 : Int) < (mb : Int)) = true := by rw [decide_eq_true_iff]; omega
    refine RegP.regionQ (fun w' => w'.cell? ⟨q, 0, none⟩ = some (.slice A n c) ∧ w'.cell? ⟨q, 1, none⟩ = some (.slice A1 nd c1) ∧ w'.cell? ⟨q, 2, none⟩ = some (.slice (some ad) nf cL) ∧ w'.cell? (ad.add (i * 2)) = some (.string st) ∧ w'.cell? ⟨(ad.add (i * 2)).block, (ad.add (i * 2)).off + 1, none⟩ = some (.slice AB mb cB)) [(false, 0), (false, 1), (false, 2), (false, 3), (false, 4), (false, 5), (false, 6), (false, 7), (false, 8), (false, 9), (false, 10), (false, 11), (false, 12), (false, 13), (false, 14), (false, 15), (false, 16), (false, 17), (false, 18), (false, 19), (false, 20), (false, 21), (false, 22), (false, 23), (false, 24), (false, 25), (false, 26), (true, 27), (false, 28), (false, 29), (false, 30), (false, 31), (false, 32), (false, 33), (false, 34), (false, 35), (false, 36), (true, 37), (false, 38)] (by kernel_rfl) (by kernel_rfl) (by rfl) (by kernel_rfl) (by exact hSS.out _ hBd.out hxd.out) ?_
    refine RegP.qp ?_
    try simp only [Act.put, pA,pB,pC]
    refine RegP.qh ?_
    try simp only [Act.put, pA,pB,pC]
    iterate 3 (refine RegP.qp ?_; try simp only [Act.put, pA,pB,pC])
    refine RegP.qh ?_
    try simp only [Act.put, pA,pB,pC]
    iterate 4 (refine RegP.qp ?_; try simp only [Act.put, pA,pB,pC])
    refine RegP.qh ?_
    try simp only [Act.put, pA,pB,pC]
    iterate 3 (refine RegP.qp ?_; try simp only [Act.put, pA,pB,pC])
    refine RegP.qh ?_
    try simp only [Act.put, pA,pB,pC]
    iterate 4 (refine RegP.qp ?_; try simp only [Act.put, pA,pB,pC])
    iterate 8 (refine RegP.qs ?_; try simp only [Act.put, pA,pB,pC])
    refine RegP.qe (fun K hK => ?_)
    go_simp
    refine hK.out _ _ ?_ (fun hHeld => ?_)
    ·(try dsimp only); exact hSS.out _ hBd.out hxd.out
    clear hK K
    try simp only [Act.put, pA,pB,pC]
    refine RegP.qs ?_
    try simp only [Act.put, pA,pB,pC]
    iterate 2 (refine RegP.qp ?_; try simp only [Act.put, pA,pB,pC])
    iterate 6 (refine RegP.qs ?_; try simp only [Act.put, pA,pB,pC])
    refine RegP.qe (fun K hK => ?_)
    go_simp
    refine hK.out _ _ ?_ (fun hHeld => ?_)
    ·(try dsimp only); exact hSS.out _ hBd.out hxd.out
    clear hK K
    try simp only [Act.put, pA,pB,pC]
    refine RegP.qp ?_
    try simp only [Act.put, pA,pB,pC]
    refine RegP.qd ?_
    try dsimp only
    go_wp2_with fail
    go_ret
    exact RightIs.no hBd.out
   case pos =>
   have hg3 : decide ((mb : Int) > 300) = false := by rw [decide_eq_false_iff_not]; omega
   have hg4 : decide ((300 : Int) < (mb : Int)) = false := by rw [decide_eq_false_iff_not]; omega
   refine RegP.regionQ (fun w' => w'.cell? ⟨q, 0, none⟩ = some (.slice A n c) ∧ w'.cell? ⟨q, 1, none⟩ = some (.slice A1 nd c1) ∧ w'.cell? ⟨q, 2, none⟩ = some (.slice (some ad) nf cL) ∧ w'.cell? (ad.add (i * 2)) = some (.string st) ∧ w'.cell? ⟨(ad.add (i * 2)).block, (ad.add (i * 2)).off + 1, none⟩ = some (.slice AB mb cB)) [(false, 0), (false, 1), (false, 2), (false, 3), (false, 4), (false, 5), (false, 6), (false, 7), (false, 8), (false, 9), (false, 10), (false, 11), (false, 12), (false, 13), (false, 14), (false, 15), (false, 16), (false, 17), (false, 18), (false, 19), (false, 20), (false, 21), (false, 22), (false, 23), (false, 24), (false, 25), (false, 26), (true, 27), (false, 28), (false, 29), (false, 30), (false, 31), (false, 32), (false, 33), (false, 34), (false, 35), (false, 36), (true, 37), (false, 38)] (by kernel_rfl) (by kernel_rfl) (by rfl) (by kernel_rfl) (by exact hSS.out _ hBd.out hxd.out) ?_
   refine RegP.qp ?_
   try simp only [Act.put, pA,pB,pC]
   refine RegP.qh ?_
   try simp only [Act.put, pA,pB,pC]
   iterate 3 (refine RegP.qp ?_; try simp only [Act.put, pA,pB,pC])
   refine RegP.qh ?_
   try simp only [Act.put, pA,pB,pC]
   iterate 4 (refine RegP.qp ?_; try simp only [Act.put, pA,pB,pC])
   refine RegP.qh ?_
   try simp only [Act.put, pA,pB,pC]
   iterate 3 (refine RegP.qp ?_; try simp only [Act.put, pA,pB,pC])
   refine RegP.qh ?_
   try simp only [Act.put, pA,pB,pC]
   iterate 5 (refine RegP.qp ?_; try simp only [Act.put, pA,pB,pC])
   refine RegP.qh ?_
   try simp only [Act.put, pA,pB,pC]
   refine RegP.qp ?_
   try simp only [Act.put, pA,pB,pC]
   refine RegP.qh ?_
   try simp only [Act.put, pA,pB,pC]
   iterate 3 (refine RegP.qp ?_; try simp only [Act.put, pA,pB,pC])
   refine RegP.qh ?_
   try simp only [Act.put, pA,pB,pC]
   refine RegP.qe (fun K hK => ?_)
   go_simp
   refine (hMf.out _ hBd.out).mono ?_
   rintro x w4 ⟨⟨k, rfl⟩, hb⟩
   have hB4 := Lib.hid (hBd.out.trans (hb.mono hBd.out.size))
   have hx4 := Lib.hid (below_blk hb hxd.out)
   have hB04 := Lib.hid (hB0d.out.trans (hb.mono hB0d.out.size))
   clear hb
   refine hK.out _ _ ?_ (fun hHeld => ?_)
   ·(try dsimp only); exact hSS.out _ hB4.out hx4.out
   clear hK K
   try simp only [Act.put, pA,pB,pC]
   by_cases hk : 0 ≤ k
   ·have hkg : decide (k ≥ 0) = true := decide_eq_true hk
    have hkg2 : decide ((0 : Int) ≤ k) = true := decide_eq_true hk
    iterate 3 (refine RegP.qp ?_; try simp only [Act.put, pA,pB,pC])
    iterate 6 (refine RegP.qs ?_; try simp only [Act.put, pA,pB,pC])
    refine RegP.qe (fun K hK => ?_)
    go_simp
    refine hK.out _ _ ?_ (fun hHeld => ?_)
    ·(try dsimp only); exact hSS.out _ hB4.out hx4.out
    clear hK K
    try simp only [Act.put, pA,pB,pC]
    refine RegP.qp ?_
    try simp only [Act.put, pA,pB,pC]
    refine RegP.qd ?_
    try dsimp only
    go_wp2_with fail
    go_ret
    exact RightIs.no hB4.out
   ·have hkg : decide (k ≥ 0) = false := decide_eq_false hk
    have hkg2 : decide ((0 : Int) ≤ k) = false := decide_eq_false hk
    iterate 4 (refine RegP.qp ?_; try simp only [Act.put, pA,pB,pC])
    refine RegP.qh ?_
    try simp only [Act.put, pA,pB,pC]
    iterate 3 (refine RegP.qp ?_; try simp only [Act.put, pA,pB,pC])
    refine RegP.qh ?_
    try simp only [Act.put, pA,pB,pC]
    refine RegP.qe (fun K hK => ?_)
    go_simp
    refine (hOf.out _).mono ?_
    rintro x w5 ⟨⟨b, rfl⟩, hb⟩
    have hB5 := Lib.hid (hB4.out.trans (hb.mono hB4.out.size))
    have hx5 := Lib.hid (below_blk hb hx4.out)
    have hB05 := Lib.hid (hB04.out.trans (hb.mono hB04.out.size))
    clear hb
    refine hK.out _ _ ?_ (fun hHeld => ?_)
    ·(try dsimp only); exact hSS.out _ hB5.out hx5.out
    clear hK K
    try simp only [Act.put, pA,pB,pC]
    refine RegP.qp ?_
    try simp only [Act.put, pA,pB,pC]
    refine RegP.qd ?_
    try dsimp only
    cases b with
    | true =>
     go_wp2_with fail
     go_ret
     exact RightIs.no hB5.out
    | false =>
     have hXm := Lib.hid (hXn.out hm1 hm3)
     go_wp2_with fail
     go_roundg gk
     case measure => omega
     case rel => exact ⟨i + 1, by first | rfl | simp, by omega, hXm, hB05⟩
end Go.Proofs.YtnegfigaiomehaaGreatDoor.Tp
end
section
namespace Go.Proofs.YtnegfigaiomehaaGreatDoor.P
open Go.RowKit Go.Proofs.YtnegfigaiomehaaGreatDoorW.PrintWords Go.Proofs.YtnegfigaiomehaaGreatDoorW.PrintLast Go.Proofs.YtnegfigaiomehaaGreatDoorW.PrintMore
attribute [local go_sem] max2_int min2_int max_two min_two max_three min_three max_four min_four
def crc_shifted.l0 : Nat → Int → Int → Option (Int)
 | 0, _, _ => none
 | k + 1, x0, x10 => if x10 < 8 then (if (Go.bits .and .u32 x0 1) = 1 then (crc_shifted.l0 k (Go.bits .xor .u32 (x0 / 2) 3988292384) (wrap64 (x10 + 1))) else (crc_shifted.l0 k (x0 / 2) (wrap64 (x10 + 1)))) else (some x0)
def crc_shifted.f (k : Nat) (a0 : Int) (a1 : Int) : Option (Int) := crc_shifted.l0 k (Go.bits .xor .u32 a0 ((a1) % 4294967296)) 0
theorem crc_shifted.mono_l : ∀ k, (∀ y0 y1, LeO (crc_shifted.l0 k y0 y1) (crc_shifted.l0 (k + 1) y0 y1))
 | 0 => fun _ _ r h => by simp [crc_shifted.l0] at h
 | k + 1 => by
  have ih0 := crc_shifted.mono_l k
  ·intro y0 y1
   unfold crc_shifted.l0
   repeat' first
   | (with_reducible exact ih0 _ _)
   | (with_reducible exact LeO.refl _)
   | (with_reducible exact LeO.none _)
   | (with_reducible refine LeO.ite ?_ ?_)
   | (with_reducible refine LeO.bind ?_ (fun _ => ?_))
   | exact ih0 _ _
   | exact LeO.none _
   | refine LeO.ite ?_ ?_
   | refine LeO.bind ?_ (fun _ => ?_)
theorem crc_shifted.mono : ∀ a0 a1 k, LeO (crc_shifted.f k a0 a1) (crc_shifted.f (k + 1) a0 a1) := by
 intro a0 a1 k
 have ih0 := crc_shifted.mono_l k
 unfold crc_shifted.f
 repeat' first
   | (with_reducible exact ih0 _ _)
   | (with_reducible exact LeO.refl _)
   | (with_reducible exact LeO.none _)
   | (with_reducible refine LeO.ite ?_ ?_)
   | (with_reducible refine LeO.bind ?_ (fun _ => ?_))
   | exact ih0 _ _
   | exact LeO.none _
   | refine LeO.ite ?_ ?_
   | refine LeO.bind ?_ (fun _ => ?_)
set_option maxHeartbeats 8000000 in
set_option maxRecDepth 100000 in
theorem crc_shifted.calls (k : Nat) (a0 : Int) (a1 : Int) (r : Int) (w : World) (h : crc_shifted.f k a0 a1 = some r) :
  Calls Tryz.prog 98 #[.int .u32 a0, .int .u8 a1] w fun e w' => e = .returned (.int .u32 r) ∧ Drawn0 w w' := by
 have H : (crc_shifted.l0 k (Go.bits .xor .u32 a0 ((a1) % 4294967296)) 0) = some r := h
 clear h
 have H' := Aside0.mk H
 clear H
 go_enter Tryz.func98, Tryz.ntmps98
 go_wp2
 go_loopg [0, 10] k (fun kq v0 v10 w' => ∃ (x0_1 : Int) (x10_1 : Int), v0 = .int .u32 x0_1 ∧ v10 = .int .i64 x10_1 ∧ Aside0 (crc_shifted.l0 kq x0_1 x10_1 = some r) ∧ Aside0 (kq ≤ k) ∧ Drawn0 w w')
 case atStart => exact ⟨(Go.bits .xor .u32 a0 ((a1) % 4294967296)), (0), (by first | rfl | (simp; done) | (simp [*]; done)), (by first | rfl | (simp; done) | (simp [*]; done)), H', ⟨Nat.le_refl _⟩, by repeat (first | exact Drawn0.refl _ | apply Drawn0.step)⟩
 case round =>
  clear H'
  try clear p2
  obtain ⟨x0_1, x10_1, rfl, rfl, HA, HK1, ⟨m1, rfl⟩⟩ := hrel
  cases gk with
  | zero => exact absurd HA.out (by simp [crc_shifted.l0])
  | succ k1 =>
   have H := HA.out
   clear HA
   simp only [crc_shifted.l0] at H
   by_cases c3 : x10_1 < 8
   ·rw [if_pos c3] at H
    have c3b0 : decide (x10_1 < 8) = true := decide_eq_true c3
    clear c3
    by_cases c4 : (Go.bits .and .u32 x0_1 1) = 1
    ·rw [if_pos c4] at H
     have c4b0 : ((Go.bits .and .u32 x0_1 1) == 1) = true := beq_iff_eq.mpr c4
     have c4b1 : ((Go.bits .and .u32 x0_1 1) != 1) = false := bne_eq_false_iff_eq.mpr c4
     clear c4
     have H' := Aside0.mk H
     clear H
     go_wp2
     go_roundg k1
     case measure => have := HK1.out; omega
     case rel => exact ⟨(Go.bits .xor .u32 (x0_1 / 2) 3988292384), (wrap64 (x10_1 + 1)), (by first | rfl | (simp; done) | (simp [*]; done)), (by first | rfl | (simp; done) | (simp [*]; done)), H', ⟨by have := HK1.out; omega⟩, by repeat (first | exact Drawn0.refl _ | apply Drawn0.step)⟩
    ·rw [if_neg c4] at H
     have c4b0 : ((Go.bits .and .u32 x0_1 1) == 1) = false := beq_eq_false_iff_ne.mpr c4
     have c4b1 : ((Go.bits .and .u32 x0_1 1) != 1) = true := bne_iff_ne.mpr c4
     have H' := Aside0.mk H
     clear H
     go_wp2
     go_roundg k1
     case measure => have := HK1.out; omega
     case rel => exact ⟨(x0_1 / 2), (wrap64 (x10_1 + 1)), (by first | rfl | (simp; done) | (simp [*]; done)), (by first | rfl | (simp; done) | (simp [*]; done)), H', ⟨by have := HK1.out; omega⟩, by repeat (first | exact Drawn0.refl _ | apply Drawn0.step)⟩
   ·rw [if_neg c3] at H
    have c3b0 : decide (x10_1 < 8) = false := decide_eq_false c3
    clear c3
    obtain rfl := Option.some.inj H
    go_wp2
    go_ret
    exact ⟨by first | rfl | (simp; done) | (simp [*]; done), by repeat (first | exact Drawn0.refl _ | apply Drawn0.step)⟩
end Go.Proofs.YtnegfigaiomehaaGreatDoor.P
end
