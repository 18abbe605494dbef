/- Laid together by wip/tools/shake.py from texts of this claim: CkRefCook, CkOpen, DepRefP, CkAlone1, CkAlone, CardCookAlone. -/
import Derived.Test.YtbklhcjcgiblkaaGreatDoorSg6
import Derived.ChangeSlices
import Derived.ChangeArms
import Derived.ProofKit
import Derived.KernelRfl
import Derived.ArgAppend
import Derived.Test.YtbklhcjcgiblkaaGreatDoorRows
import Derived.WalkKit
import Derived.OpenShut
import Derived.ShutString
import Derived.ChangeOld
import Derived.Below
import Derived.SizedLaws
import Derived.Carry
import Derived.LaidMore
import Derived.Lay
import Derived.SevenTiedAt
import Derived.Stop.Joined
import Derived.Test.YtbklhcjcgiblkaaGreatDoorTie
import Derived.Test.YtbklhcjcgiblkaaGreatDoorCards
section
set_option linter.unusedSimpArgs false
set_option linter.unusedVariables false
namespace Go.Proofs.YtbklhcjcgiblkaaGreatDoor.Ck
open Go.RowKit Go.Lib Go.Shelf Go.Maps Go.Proofs.YtbklhcjcgiblkaaGreatDoorW.PrintWords Go.Proofs.YtbklhcjcgiblkaaGreatDoorW.PrintLast Go.Proofs.YtbklhcjcgiblkaaGreatDoorW.PrintMore Go.Proofs.YtbklhcjcgiblkaaGreatDoor.U Go.Proofs.YtbklhcjcgiblkaaGreatDoor.P Go.Proofs.YtbklhcjcgiblkaaGreatDoor.PTh Go.Proofs.YtbklhcjcgiblkaaGreatDoor.MapV
open Go.Proofs.YtbklhcjcgiblkaaGreatDoor.Fld (fieldsT)
def RefCooked (D : DishL) (w : World) (e : Ending) (w' : World) : Prop := Below w.heap.size w w' ∧ ∃ (names : List Txt) (b : Txt) (A : Option Addr) (c : Nat), D = ⟨names.map fun n => ⟨n, b⟩, D.once, D.dep, D.deps⟩ ∧ e = .returned (.tuple #[.agg #[.slice A names.length c, .bool D.once, .string (B D.dep), .string (B D.deps)], .bool true]) ∧
  names.length ≤ c ∧ Kd.C KG w' A names.length (names.map fun n => toG ⟨n, b⟩)
abbrev nilS : Value := .slice none 0 0
def NilPut (w w' : World) : Prop := ∀ ad v, w.cell? ad = some v → v ≠ nilS → w'.cell? ad = some v
theorem NilPut.refl (w : World) : NilPut w w := fun _ _ h _ => h
theorem NilPut.set {w w' : World} (h : NilPut w w') {g j : Nat} (hc : w.cell? ⟨g, j, none⟩ = some nilS) (v : Value) : NilPut w (w'.setCell ⟨g, j, none⟩ v) := fun ad u hu hne => by
  have h1 := h ad u hu hne
  have hp := addr_plain hu
  by_cases e : ad = ⟨g, j, none⟩
  · subst e
    rw [hc] at hu
    injection hu with hu
    exact absurd hu.symm hne
  · by_cases hb : ad.block = g
    · have ho : ad.off ≠ j := fun ho => e (by rw [hp, hb, ho])
      rw [hp, hb] at h1 ⊢
      exact (World.cell?_setCell_other _ _ _ _ (by simp; try omega)).trans h1
    · exact (World.cell?_of_block (Below.heap_setCell _ _ _ _ hb)).trans h1
theorem scalar_nil {α : Type} {enc : α → Value} {h1 : ∀ x, (enc x).oneCell' = true} {w w' : World} {A : Option Addr} {n : Nat} {xs : List α} (h : (Kd.scalar enc h1).C w A n xs) (hn : ∀ x, enc x ≠ nilS) (hb : NilPut w w') : (Kd.scalar enc h1).C w' A n xs := by
  refine ⟨h.1, h.2.1, fun hn' => ?_⟩
  obtain ⟨ad, rfl, hc⟩ := h.2.2 hn'
  refine ⟨ad, rfl, fun j p hj => ?_⟩
  obtain ⟨c, h1', hK, hv⟩ := hc j p hj
  refine ⟨c, h1', hK, fun i u hu => ?_⟩
  have hv' := hv i u hu
  have hK' : c = [enc p] := hK
  subst hK'
  have hu' : u = enc p := by
    cases i with
    | zero => injection hu with hu; exact hu.symm
    | succ i => simp at hu
  subst hu'
  exact hb _ _ hv' (hn p)
theorem ocells_set (f : Nat → Value) (v : Value) : ∀ (l : List Txt) (k j : Nat), j < l.length → (ocells f k l).set (j * 2 + 1) v = ocells (fun i => if i = k + j then v else f i) k l
  | [], k, j, h => absurd h (by simp)
  | x :: l, k, 0, h => by
    simp only [ocells, Nat.add_zero, if_true]
    rw [ocells_ext f (fun i => if i = k then v else f i) l (k + 1) (fun j h1 _ => by rw [if_neg (by omega)])]
    rfl
  | x :: l, k, j + 1, h => by
    have := ocells_set f v l (k + 1) j (by simpa using h)
    rw [show k + 1 + j = k + (j + 1) by omega] at this
    simp only [ocells]
    rw [← this, if_neg (by omega), show (j + 1) * 2 + 1 = (j * 2 + 1) + 2 by omega]
    rfl
theorem ocells_get (f : Nat → Value) : ∀ (l : List Txt) (k j : Nat), j < l.length → (ocells f k l)[j * 2 + 1]? = some (f (k + j))
  | [], k, j, h => absurd h (by simp)
  | x :: l, k, 0, h => rfl
  | x :: l, k, j + 1, h => by
    have := ocells_get f l (k + 1) j (by simpa using h)
    rw [show k + 1 + j = k + (j + 1) by omega] at this
    rw [← this, show (j + 1) * 2 + 1 = (j * 2 + 1) + 2 by omega]; rfl
theorem ocells_get0 (f : Nat → Value) : ∀ (l : List Txt) (k j : Nat) (h : j < l.length), (ocells f k l)[j * 2]? = some (.string (B l[j]))
  | [], k, j, h => absurd h (by simp)
  | x :: l, k, 0, h => rfl
  | x :: l, k, j + 1, h => by
    have := ocells_get0 f l (k + 1) j (by simpa using h)
    rw [show (j + 1) * 2 = j * 2 + 2 by omega]
    exact this
theorem outs_C {w : World} {base : Nat} {Ao A2 : Option Addr} {co c2 : Nat} {names : List Txt} {b : Txt} (h : w.ownsRow base 41 2 (.slice Ao names.length co) names.length (ocells (fun _ => .slice A2 b.length c2) 0 names)) (hle : b.length ≤ c2) (hb : (Kd.int .u8).C w A2 b.length (ints b)) :
    names.length ≤ co ∧ Kd.C KG w Ao names.length (names.map fun n => toG ⟨n, b⟩) := by
  obtain ⟨A, c, e, hl, hC⟩ := OwnRow.reads (R := KG.K w) (e := 41) (base := base) (v := .slice Ao names.length co) (ps := names.map fun n => toG ⟨n, b⟩) ⟨ocells (fun _ => .slice A2 b.length c2) 0 names, by rw [List.length_map]; exact h, by rw [ocells_len, List.length_map], fun j p hp => by
    rw [List.getElem?_map] at hp
    obtain ⟨x, hx, rfl⟩ := Option.map_eq_some_iff.1 hp
    obtain ⟨hj, rfl⟩ := List.getElem?_eq_some_iff.1 hx
    have := ocells_at (fun _ => Value.slice A2 b.length c2) names 0 j hj
    rw [this]
    have hl : (toG ⟨names[j], b⟩).f1.length = b.length := ints_len b
    have := k41_mk w (toG ⟨names[j], b⟩) (A1 := A2) (c1 := c2) (by rw [hl]; exact hle) (by rw [hl]; exact hb)
    rw [hl] at this
    exact this⟩
  rw [List.length_map] at e hl hC
  injection e with e1 _ e3
  subst e1 e3
  exact ⟨hl, hC⟩
theorem cookE_parts {cmd : Txt} {v : Env} {D : DishL} (h : cookE cmd v = some D) : ∃ s b found, shapeE cmd = some s ∧ doE v s.verb s.args = some (b, found) ∧ b.length ≤ 65536 ∧ D = ⟨s.outs.map fun o => ⟨o, b⟩, s.once, s.dep, if s.dep = [] then [] else (printL (s.outs.getD 0 []) found).1⟩ := by
  unfold cookE at h
  cases hs : shapeE cmd with
  | none => rw [hs] at h; cases h
  | some s =>
    rw [hs] at h
    simp only at h
    cases hd : doE v s.verb s.args with
    | none => rw [hd] at h; cases h
    | some bf =>
      obtain ⟨b, found⟩ := bf
      rw [hd] at h
      simp only at h
      split at h
      · rename_i hb
        injection h with h
        exact ⟨s, b, found, rfl, hd, hb, h.symm⟩
      · cases h
theorem int_keep {w w' : World} {r : Nat} {cs : Array Value} {t : TypeId} {A : Option Addr} {n : Nat} {xs : List Int} (h : (Kd.int .u8).C w A n xs) (hr : w.heap[r]? = some (.cells cs t (0, 0))) (hcs : ∀ j : Nat, ∀ x : Int, cs[j]? ≠ some (.int .u8 x)) (hk : ∀ k, k ≠ r → w'.heap[k]? = w.heap[k]?) : (Kd.int .u8).C w' A n xs := by
  refine ⟨h.1, h.2.1, fun hn' => ?_⟩
  obtain ⟨ad, rfl, hc⟩ := h.2.2 hn'
  refine ⟨ad, rfl, fun j p hj => ?_⟩
  obtain ⟨c, h1', hK, hv⟩ := hc j p hj
  refine ⟨c, h1', hK, fun i u hu => ?_⟩
  have hv' := hv i u hu
  have hK' : c = [.int .u8 p] := hK
  subst hK'
  have hu' : u = .int .u8 p := by
    cases i with
    | zero => injection hu with hu; exact hu.symm
    | succ i => simp at hu
  subst hu'
  exact (World.cell?_of_block (hk _ (cell_ne_block hr hv' (fun j => hcs j p)))).trans hv'
theorem cells_no_int_ref {A : Option Addr} {n c : Nat} {once : Bool} {a b : ByteArray} (j : Nat) {x : Int} (h : (#[.slice A n c, .bool once, .string a, .string b] : Array Value)[j]? = some (.int .u8 x)) : False := by
  rcases j with _ | _ | _ | _ | j <;> simp at h
theorem addr_at (g k : Nat) : ((⟨g, 0, none⟩ : Addr).add k) = ⟨g, k, none⟩ := by
  unfold Addr.add
  by_cases h : k = 0 <;> simp [h]
theorem upto_set (v z : Value) (i j : Nat) : (if j < i + 1 then v else z) = (if j = 0 + i then v else if j < i then v else z) := by
  rcases Nat.lt_trichotomy j i with h | h | h
  · rw [if_pos (by omega), if_neg (by omega), if_pos h]
  · rw [if_pos (by omega), if_pos (by omega)]
  · rw [if_neg (by omega), if_neg (by omega), if_neg (by omega)]
set_option maxRecDepth 100000 in
set_option maxHeartbeats 16000000 in
theorem refCook_any (cmd : Txt) (hl : cmd.length ≤ 390) (v : Env) (D : DishL) (h : cookE cmd v = some D) (Ad Af : Option Addr) (cd cf : Nat) (w : World) (hD : Kd.C Kd.string w Ad v.decl.length (v.decl.map B)) (hd : v.decl.length ≤ 1000) (hcd : v.decl.length ≤ cd)
    (hF : Kd.C KG w Af (v.fs.map toG).length (v.fs.map toG)) (hf : v.fs.length ≤ 900) (hfb : ∀ f ∈ v.fs, f.b.length ≤ 200) :
    Calls Tryz.prog 11 #[.string (B cmd), .slice Ad v.decl.length cd, .slice Af v.fs.length cf] w (RefCooked D w) := by
  obtain ⟨inf, hinf, hz0, hz1, hz2⟩ := info_parts infoStr
  obtain ⟨s, b, found, hs, hdo, hbl, rfl⟩ := cookE_parts h
  have hSf := shapeE_facts hs
  have hSw := shapeE_words hs
  have hfl := fieldsT_len cmd
  have hSh := Lib.hid (fun W => refShape_any cmd (by omega) s hs W)
  obtain ⟨verb, args, once, outs, dep⟩ := s
  dsimp only at hdo hSf hSw hSh ⊢
  obtain ⟨deps, hdeps⟩ : ∃ x, (if dep = [] then [] else (printL (outs.getD 0 []) found).1) = x := ⟨_, rfl⟩
  rw [hdeps]
  have hdepsH := Lib.hid hdeps
  clear hdeps
  have hargs : Hid (∀ x ∈ args, x.length ≤ 2000) := fun x hx => by have := Fld_short cmd x (hSw.1 x hx); omega
  have hdoH := Lib.hid hdo
  have hDH := Lib.hid hD
  have hFH := Lib.hid hF
  have hfbH := Lib.hid hfb
  have hFn := doE_found hdo
  have hOF := Lib.hid hSf.1
  have hInc := Lib.hid hSf.2
  have hfoL : found.length ≤ v.fs.length := by
    have := nodup_len found _ hFn.1.nd hFn.1.there
    rw [List.length_map] at this; exact this
  have hfoR := Lib.hid hFn.1.right
  obtain ⟨na, hna⟩ : ∃ n, args.length = n := ⟨_, rfl⟩
  have hna400 : na ≤ 400 := by rw [← hna]; have := hSw.2.1; omega
  obtain ⟨no, hno⟩ : ∃ n, outs.length = n := ⟨_, rfl⟩
  have hno0 : 0 < no := by rw [← hno]; exact List.length_pos_iff.2 hSf.1.ne
  have hno400 : no ≤ 400 := by rw [← hno]; have := hSw.2.2.1; omega
  obtain ⟨nd, hnd⟩ : ∃ n, v.decl.length = n := ⟨_, rfl⟩
  obtain ⟨nf, hnf⟩ : ∃ n, v.fs.length = n := ⟨_, rfl⟩
  obtain ⟨lb, hlb⟩ : ∃ n, b.length = n := ⟨_, rfl⟩
  obtain ⟨nfo, hnfo⟩ : ∃ n, found.length = n := ⟨_, rfl⟩
  have hnaH := Lib.hid hna
  have hnoH := Lib.hid hno
  have hndH := Lib.hid hnd
  have hnfH := Lib.hid hnf
  have hlbH := Lib.hid hlb
  have hnfoH := Lib.hid hnfo
  have hd1000 : nd ≤ 1000 := by omega
  rw [hnd] at hcd
  have hf1000 : nf ≤ 1000 := by omega
  have hnfo900 : nfo ≤ 900 := by omega
  have hlb6 : lb ≤ 65536 := by omega
  rw [hnd, hnf]
  have hlbt : decide ((lb : Int) > 65536) = false := by rw [decide_eq_false_iff_not]; omega
  have hno100 : Hid (outs.length = no) := hno
  clear h hs hdo hbl hSf hSw hfl hD hd hF hf hfb hFn hfoL hna hno hnd hnf hlb hnfo hl
  go_enter Tryz.func11, Tryz.ntmps11
  go_wp2_with fail
  refine (hSh.out _).mono ?_
  rintro e w1 ⟨hb1, A1, c1, vo, rfl, hle1, hC1, hO1⟩
  dsimp only at hle1 hC1 hO1 ⊢
  obtain ⟨Ao, co, rfl⟩ : ∃ A c, vo = .slice A outs.length c := by
    rcases hO1.2 with ⟨e, hz⟩ | ⟨g, cap, cur, e, _⟩
    · exact ⟨none, 0, by rw [e, hz]⟩
    · exact ⟨_, _, e⟩
  rw [hnoH.out] at hO1 ⊢
  rw [hnaH.out] at hle1 hC1 ⊢
  have hB1 : Hid (Below w.heap.size w w1) := ((Below.refl w.heap.size w).alloc (Nat.le_refl _) _).trans (hb1.mono (by simp))
  have hr1 : Hid (w1.heap[w.heap.size]? = some (.cells #[.slice none 0 0, .bool false, .string (B []), .string (B [])] 43 (0, 0))) := (hb1.block _ (by simp)).trans (heap_alloc_new _ _)
  have hO1H : Hid (w1.ownsRow (w.heap.size + 1) 41 2 (.slice Ao no co) no (ocells (fun _ => nilS) 0 outs)) := by
    have := hO1; rw [World.size_alloc] at this; exact this
  have hw1H : Hid (w.heap.size ≤ w1.heap.size) := hB1.out.size
  have hC1H := Lib.hid hC1
  clear hSh hb1 hC1 hO1
  go_upto_region 2 with (fail)
  obtain ⟨w2, hw2⟩ : ∃ x, w1.alloc (.cells #[.slice Ao no co, .bool once, .string (B dep), .string (B [])] 43) = x := ⟨_, rfl⟩
  have hb12 : Below w1.heap.size w1 w2 := by rw [← hw2]; exact (Below.refl _ _).alloc (Nat.le_refl _) _
  have hd2 : w2.heap[w1.heap.size]? = some (.cells #[.slice Ao no co, .bool once, .string (B dep), .string (B [])] 43 (0, 0)) := by rw [← hw2]; exact heap_alloc_new _ _
  rw [hw2]
  obtain ⟨n1, hn1⟩ : ∃ x, na + 1 = x := ⟨_, rfl⟩
  obtain ⟨a1, hA1, k0⟩ := text_at (ws := verb :: args) (by rw [List.length_cons, hnaH.out]; exact Kd.C_below hC1H.out hb12) 0 (by simp)
  subst hA1
  rw [show a1.add 0 = a1 by simp [Addr.add], List.getElem_cons_zero] at k0
  obtain ⟨A1b, hA1b⟩ : ∃ x, (if c1 = 1 then some a1 else (some a1).map (·.add 1)) = x := ⟨_, rfl⟩
  have hcut1 : ∀ W : World, (Instr.slice 22 (.slice (some a1) n1 c1) (some (.int .i64 1)) none none).run Tryz.prog W = .ok (.slice A1b na (c1 - 1)) W := fun W => by
    have := cut_from 22 9 .i64 Tryz.underlying22 hinf 1 hz1 (some a1) n1 c1 1 (by omega) (by omega) W
    rw [show ((1 : Int)).toNat = 1 from rfl, map_add, hA1b, show n1 - 1 = na by omega] at this
    exact this
  have hCa : Hid (∀ W, Below w1.heap.size w1 W → Kd.C Kd.string W A1b na (args.map B)) := fun W hW => by
    have h1 := words_drop (c := c1) (ws := verb :: args) (by rw [List.length_cons, hnaH.out]; exact Kd.C_below hC1H.out hW) (by rw [List.length_cons, hnaH.out]; exact hle1) 1 (by simp)
    rw [hA1b, List.length_cons, hnaH.out] at h1
    exact h1
  have hS0 : Hid (w2.drew.cell? a1 = some (.string (B verb))) := k0
  have hBd1 : Hid (Below w1.heap.size w1 w2.drew) := hb12.drew
  have hBd : Hid (Below w.heap.size w w2.drew) := hB1.out.trans (hb12.drew.mono hB1.out.size)
  have hOd : Hid (w2.drew.ownsRow (w.heap.size + 1) 41 2 (.slice Ao no co) no (ocells (fun _ => nilS) 0 outs)) := own_move (w1 := w2) hO1H.out (fun k e => hb12.block k (own_lt hO1H.out k e))
  have hDd : Hid (w2.drew.heap[w1.heap.size]? = some (.cells #[.slice Ao no co, .bool once, .string (B dep), .string (B [])] 43 (0, 0))) := hd2
  have hrd : Hid (w2.drew.heap[w.heap.size]? = some (.cells #[.slice none 0 0, .bool false, .string (B []), .string (B [])] 43 (0, 0))) := (hb12.block _ (Array.getElem?_eq_some_iff.1 hr1.out).1).trans hr1.out
  have hn1i : (0 : Int) < (n1 : Int) := by omega
  have hn1n : 0 < n1 := by omega
  have hn1j : (1 : Int) ≤ (n1 : Int) := by omega
  have hn1H := Lib.hid hn1
  have hca1 : na ≤ c1 - 1 := by omega
  rw [hn1] at hle1 ⊢
  have hle1' : 1 ≤ c1 := by omega
  clear hw2 hb12 hd2 hn1 k0 hA1b hO1H hr1 hB1
  go_wp2_with fail
  refine RegP.regionH (fun w' => w'.cell? a1 = some (.string (B verb))) [(0, 0), (0, 1), (1, 2), (0, 3), (0, 4), (0, 5), (0, 6), (2, 7), (0, 8), (0, 9), (0, 10), (0, 11), (0, 12), (0, 13), (0, 14)] (by kernel_rfl) (by kernel_rfl) (by rfl) (by kernel_rfl) (by exact hS0.out) ?_
  generalize w2.drew = wd at *
  repeat ((first | refine RegP.pu ?_ | refine RegP.he ?_ | refine RegP.sk ?_); try simp only [Act.put, pA,pB,pC])
  refine RegP.evq (fun K hK => ?_)
  go_simp
  have hM := refMade_any v verb args b found A1b Ad Af (c1 - 1) cd cf wd hdoH.out (by rw [hnaH.out]; exact hCa.out wd hBd1.out) (by rw [hnaH.out]; exact hna400) hargs.out (by rw [hnaH.out]; omega) (Kd.C_below hDH.out hBd.out) (by rw [hndH.out]; exact hd1000) (by rw [hndH.out]; exact hcd) (Kd.C_below hFH.out hBd.out) (by rw [hnfH.out]; exact hf1000) hfbH.out
  rw [hnaH.out, hndH.out, hnfH.out] at hM
  refine hM.mono ?_
  rintro e w4 ⟨hb4, A2, c2, A3, c3, rfl, hlc2, hC2, hlc3, hC3⟩
  have hS4 : Hid (w4.cell? a1 = some (.string (B verb))) := below_cell hb4 hS0.out
  have hB4 := Lib.hid (hBd.out.trans (hb4.mono hBd.out.size))
  have hD4 := Lib.hid ((hb4.block _ (Array.getElem?_eq_some_iff.1 hDd.out).1).trans hDd.out)
  have hO4 := Lib.hid (own_move hOd.out (w1 := w4) (fun k e => hb4.block k (own_lt hOd.out k e)))
  have hr4 := Lib.hid ((hb4.block _ (Array.getElem?_eq_some_iff.1 hrd.out).1).trans hrd.out)
  rw [hlbH.out] at hlc2 hC2 ⊢
  rw [hnfoH.out] at hlc3 hC3 ⊢
  have hC2H := Lib.hid hC2
  have hC3H := Lib.hid hC3
  clear hM hb4 hC2 hC3
  refine hK.out _ _ ?_ (fun hHeld => ?_)
  · (try dsimp only); exact hS4.out
  clear hK K
  try simp only [Act.put, pA,pB,pC]
  repeat ((first | refine RegP.pu ?_ | refine RegP.he ?_ | refine RegP.sk ?_); try simp only [Act.put, pA,pB,pC])
  refine RegP.done1 ?_
  try dsimp only
  clear hHeld hcut1
  obtain ⟨g, hA0, hg1, hg2⟩ : ∃ g, Ao = some ⟨g, 0, none⟩ ∧ w.heap.size + 1 ≤ g ∧ g ≠ w1.heap.size := by
    rcases hO4.out.2 with ⟨_, hz⟩ | ⟨g, cap, cur, he, hg1, hg2, _⟩
    · omega
    · injection he with he
      refine ⟨g, he, hg1, fun e => ?_⟩
      subst e
      exact absurd (typed_ne hg2 hD4.out) (by decide)
  obtain ⟨a0, ha0⟩ : ∃ a, a = (⟨g, 0, none⟩ : Addr) := ⟨_, rfl⟩
  have ha0H := Lib.hid ha0
  rw [← ha0] at hA0
  subst hA0
  have hO5 : Hid (w4.ownsRow (w.heap.size + 1) 41 2 (.slice (some a0) no co) no (ocells (fun j => if j < 0 then .slice A2 lb c2 else nilS) 0 outs)) := by
    show World.ownsRow _ _ _ _ _ _ _
    rw [ocells_ext (fun j => if j < 0 then Value.slice A2 lb c2 else nilS) (fun _ => nilS) outs 0 (fun j _ _ => if_neg (by omega))]
    exact hO4.out
  have hg2H := Lib.hid hg2
  have hD4' : Hid (w4.heap[w1.heap.size]? = some (.cells #[.slice (some a0) no co, .bool once, .string (B dep), .string (B [])] 43 (0, 0))) := hD4.out
  clear ha0 hg2 hS0 hBd hBd1 hDd hOd hrd hD4
  go_wp2_with fail
  go_loopg [13] no (fun gk s13 wx => ∃ i : Nat, s13 = .int .i64 (i : Int) ∧ i + gk = no ∧ Hid (wx.ownsRow (w.heap.size + 1) 41 2 (.slice (some a0) no co) no (ocells (fun j => if j < i then .slice A2 lb c2 else nilS) 0 outs)) ∧ Hid (wx.heap[w1.heap.size]? = some (.cells #[.slice (some a0) no co, .bool once, .string (B dep), .string (B [])] 43 (0, 0))) ∧ Hid (wx.heap[w.heap.size]? = some (.cells #[.slice none 0 0, .bool false, .string (B []), .string (B [])] 43 (0, 0))) ∧ Hid (NilPut w4 wx) ∧ Hid (Below w.heap.size w wx))
  case atStart => exact ⟨0, rfl, by omega, hO5, hD4', hr4, NilPut.refl _, hB4⟩
  case round =>
    clear hO5 hD4'
    obtain ⟨i, rfl, hik, hO, hDx, hrx, hNP, hB⟩ := hrel
    have p0 := (cell_of_heap (j := 0) hDx.out).trans rfl
    cases gk with
    | succ gk =>
      have hin : i < outs.length := by rw [hnoH.out]; omega
      have hlt : decide ((i : Int) < (no : Int)) = true := by rw [decide_eq_true_iff]; omega
      have hi0 : (0 : Int) ≤ (i : Int) := by omega
      have hi1 : (i : Int) < (no : Int) := by omega
      have hi2 : i < no := by omega
      have hwr : IntKind.i64.wrap ((i : Int) + 1) = (i : Int) + 1 := by rw [IntKind.wrap_i64]; omega
      have hadr : (⟨(a0.add (i * 2)).block, (a0.add (i * 2)).off + 1, none⟩ : Addr) = ⟨g, i * 2 + 1, none⟩ := by rw [ha0H.out, addr_at]
      have hadd : ((⟨g, 0, none⟩ : Addr).add (i * 2 + 1)) = ⟨g, i * 2 + 1, none⟩ := addr_at g _
      have q1 : wr.cell? ⟨(a0.add (i * 2)).block, (a0.add (i * 2)).off + 1, none⟩ = some nilS := by
        have h1 := hO.out.cells (g := g) (by rw [ha0H.out]; rfl) (i * 2 + 1) _ (by rw [ocells_get _ _ _ _ hin, Nat.zero_add, if_neg (Nat.lt_irrefl i)])
        rw [hadd] at h1; rw [hadr]; exact h1
      have f1 : wr.frozen? ⟨(a0.add (i * 2)).block, (a0.add (i * 2)).off + 1, none⟩ = false := by
        rw [hadr]
        rcases hO.out.2 with ⟨_, hz⟩ | ⟨g', cap, cur, he, _, hg', _⟩
        · omega
        · rw [ha0H.out] at he
          injection he with he
          injection he with he
          injection he with he
          subst he
          exact frozen_of_heap hg' _
      have q4 : w4.cell? ⟨g, i * 2 + 1, none⟩ = some nilS := by
        have h1 := hO4.out.cells (g := g) (by rw [ha0H.out]; rfl) (i * 2 + 1) _ (ocells_get _ _ _ _ hin)
        rw [hadd] at h1; exact h1
      have hO9 : Hid ((wr.setCell ⟨(a0.add (i * 2)).block, (a0.add (i * 2)).off + 1, none⟩ (.slice A2 lb c2)).ownsRow (w.heap.size + 1) 41 2 (.slice (some a0) no co) no (ocells (fun j => if j < i + 1 then .slice A2 lb c2 else nilS) 0 outs)) := by
        show World.ownsRow _ _ _ _ _ _ _
        have h1 := hO.out
        rw [ha0H.out] at h1
        have h2 := (h1.stored (i * 2 + 1) (.slice A2 lb c2)).1
        rw [ocells_set _ _ _ _ _ hin] at h2
        rw [hadr, ha0H.out, ocells_ext (fun j => if j < i + 1 then Value.slice A2 lb c2 else nilS) (fun k => if k = 0 + i then Value.slice A2 lb c2 else if k < i then Value.slice A2 lb c2 else nilS) outs 0 (fun j _ _ => upto_set _ _ i j)]
        exact h2
      have hD9 : Hid ((wr.setCell ⟨(a0.add (i * 2)).block, (a0.add (i * 2)).off + 1, none⟩ (.slice A2 lb c2)).heap[w1.heap.size]? = some (.cells #[.slice (some a0) no co, .bool once, .string (B dep), .string (B [])] 43 (0, 0))) := by show _ = _; rw [hadr]; exact (Below.heap_setCell _ _ _ _ (by show w1.heap.size ≠ g; exact fun e => hg2H.out e.symm)).trans hDx.out
      have hr9 : Hid ((wr.setCell ⟨(a0.add (i * 2)).block, (a0.add (i * 2)).off + 1, none⟩ (.slice A2 lb c2)).heap[w.heap.size]? = some (.cells #[.slice none 0 0, .bool false, .string (B []), .string (B [])] 43 (0, 0))) := by show _ = _; rw [hadr]; exact (Below.heap_setCell _ _ _ _ (by show w.heap.size ≠ g; omega)).trans hrx.out
      have hNP9 : Hid (NilPut w4 (wr.setCell ⟨(a0.add (i * 2)).block, (a0.add (i * 2)).off + 1, none⟩ (.slice A2 lb c2))) := by show NilPut _ _; rw [hadr]; exact hNP.out.set q4 _
      have hB9 : Hid (Below w.heap.size w (wr.setCell ⟨(a0.add (i * 2)).block, (a0.add (i * 2)).off + 1, none⟩ (.slice A2 lb c2))) := by show Below _ _ _; rw [hadr]; exact hB.out.setCell (by show w.heap.size ≤ g; omega) _
      clear hadr hadd q4 hO hDx hrx hNP hB
      go_wp2_with fail
      generalize wr.setCell ⟨(a0.add (i * 2)).block, (a0.add (i * 2)).off + 1, none⟩ (.slice A2 lb c2) = w9 at *
      go_roundg gk
      case measure => omega
      case rel => exact ⟨i + 1, by first | rfl | simp, by omega, hO9, hD9, hr9, hNP9, hB9⟩
    | zero =>
      obtain rfl : no = i := by omega
      have hlt : decide ((no : Int) < (no : Int)) = false := by simp
      have hOx : Hid (wr.ownsRow (w.heap.size + 1) 41 2 (.slice (some a0) no co) no (ocells (fun _ => .slice A2 lb c2) 0 outs)) := by
        show World.ownsRow _ _ _ _ _ _ _
        rw [ocells_ext (fun _ => Value.slice A2 lb c2) (fun j => if j < no then Value.slice A2 lb c2 else nilS) outs 0 (fun j _ h2 => (if_pos (by have := hno100.out; omega)).symm)]
        exact hO.out
      have hb5 : Hid ((Kd.int .u8).C wr A2 lb (ints b)) := scalar_nil hC2H.out (fun x => by simp [nilS]) hNP.out
      have hf5 : Hid (Kd.C Kd.string wr A3 nfo (found.map B)) := scalar_nil hC3H.out (fun x => by simp [nilS]) hNP.out
      obtain ⟨w5, hw5⟩ : ∃ x, x = wr := ⟨_, rfl⟩
      subst hw5
      clear hO hNP hik
      cases dep with
      | nil =>
        obtain rfl : deps = [] := hdepsH.out.symm
        have x0 := (cell_of_heap (j := 0) hDx.out).trans rfl
        have x1 := (cell_of_heap (j := 1) hDx.out).trans rfl
        have x2 := (cell_of_heap (j := 2) hDx.out).trans rfl
        have x3 := (cell_of_heap (j := 3) hDx.out).trans rfl
        have y0 := (cell_of_heap (j := 0) hrx.out).trans rfl
        have y1 := (cell_of_heap (j := 1) hrx.out).trans rfl
        have y2 := (cell_of_heap (j := 2) hrx.out).trans rfl
        have y3 := (cell_of_heap (j := 3) hrx.out).trans rfl
        have z0 := frozen_of_heap hrx.out 0
        have z1 := frozen_of_heap hrx.out 1
        have z2 := frozen_of_heap hrx.out 2
        have z3 := frozen_of_heap hrx.out 3
        go_wp2_with fail
        have hk9 : ∀ k, k ≠ w.heap.size → ((((w5.setCell ⟨w.heap.size, 0, none⟩ (.slice (some a0) no co)).setCell ⟨w.heap.size, 1, none⟩ (.bool once)).setCell ⟨w.heap.size, 2, none⟩ (.string (B []))).setCell ⟨w.heap.size, 3, none⟩ (.string (B []))).heap[k]? = w5.heap[k]? := fun k hk => by rw [Below.heap_setCell _ _ _ _ hk, Below.heap_setCell _ _ _ _ hk, Below.heap_setCell _ _ _ _ hk, Below.heap_setCell _ _ _ _ hk]
        have hB9 : Below w.heap.size w ((((w5.setCell ⟨w.heap.size, 0, none⟩ (.slice (some a0) no co)).setCell ⟨w.heap.size, 1, none⟩ (.bool once)).setCell ⟨w.heap.size, 2, none⟩ (.string (B []))).setCell ⟨w.heap.size, 3, none⟩ (.string (B []))) := ⟨hB.out.os, hB.out.tape, hB.out.output, by simpa using hB.out.size, fun k hk => (hk9 k (by omega)).trans (hB.out.block k hk)⟩
        have k4 := blk_put (blk_put (blk_put (blk_put hrx.out 0 (.slice (some a0) no co) rfl) 1 (.bool once) rfl) 2 (.string (B [])) rfl) 3 (.string (B [])) rfl
        have q0 := (cell_of_heap (j := 0) k4).trans rfl
        have q1 := (cell_of_heap (j := 1) k4).trans rfl
        have q2 := (cell_of_heap (j := 2) k4).trans rfl
        have q3 := (cell_of_heap (j := 3) k4).trans rfl
        have hO9 := own_move (w1 := (((w5.setCell ⟨w.heap.size, 0, none⟩ (.slice (some a0) no co)).setCell ⟨w.heap.size, 1, none⟩ (.bool once)).setCell ⟨w.heap.size, 2, none⟩ (.string (B []))).setCell ⟨w.heap.size, 3, none⟩ (.string (B []))) hOx.out (fun k e => hk9 k (by have := own_base hOx.out k e; omega))
        have hb9 : (Kd.int .u8).C ((((w5.setCell ⟨w.heap.size, 0, none⟩ (.slice (some a0) no co)).setCell ⟨w.heap.size, 1, none⟩ (.bool once)).setCell ⟨w.heap.size, 2, none⟩ (.string (B []))).setCell ⟨w.heap.size, 3, none⟩ (.string (B []))) A2 lb (ints b) := int_keep hb5.out hrx.out (fun j x h => cells_no_int_ref j h) hk9
        generalize (((w5.setCell ⟨w.heap.size, 0, none⟩ (.slice (some a0) no co)).setCell ⟨w.heap.size, 1, none⟩ (.bool once)).setCell ⟨w.heap.size, 2, none⟩ (.string (B []))).setCell ⟨w.heap.size, 3, none⟩ (.string (B [])) = w9 at *
        refine bodyPost_ret (v := .tuple #[.agg #[.slice (some a0) no co, .bool once, .string (B []), .string (B [])], .bool true]) (by simp [results, Tryz.results11, go_sem, q0, q1, q2, q3]) rfl ?_
        rw [← hnoH.out] at hO9 ⊢
        rw [← hlbH.out] at hO9 hb9
        obtain ⟨e1, e2⟩ := outs_C hO9 (by rw [hlbH.out]; exact hlc2) hb9
        exact ⟨hB9, outs, b, some a0, co, rfl, rfl, e1, e2⟩
      | cons d0 dr =>
        have hpr : Hid (deps = (printL (outs.getD 0 []) found).1) := hdepsH.out.symm
        have p0 := (cell_of_heap (j := 0) hDx.out).trans rfl
        have p2 := (cell_of_heap (j := 2) hDx.out).trans rfl
        have hno1 : (0 : Int) < (no : Int) := by omega
        have h0o : 0 < outs.length := by rw [hnoH.out]; exact hno0
        have n0 : w5.cell? a0 = some (.string (B outs[0])) := by
          have h1 := hOx.out.cells (g := g) (by rw [ha0H.out]; rfl) (0 * 2) _ (ocells_get0 _ _ _ _ h0o)
          rw [addr_at] at h1; rw [ha0H.out]; exact h1
        have hgd : outs.getD 0 [] = outs[0] := by rw [List.getD_eq_getElem?_getD, List.getElem?_eq_getElem h0o]; rfl
        have hP := refPrint_any outs[0] A3 c3 found w5 (hOF.out.right _ (List.getElem_mem h0o)) hfoR.out (by rw [hnfoH.out]; omega) (by rw [hnfoH.out]; exact hf5.out) (by rw [hnfoH.out]; exact hlc3)
        rw [hnfoH.out, ← hgd, ← hpr.out, hgd] at hP
        obtain ⟨o0, ho0⟩ : ∃ x, outs[0] = x := ⟨_, rfl⟩
        rw [ho0] at hP n0
        have hPH := Lib.hid hP
        clear hP hgd ho0
        go_wp2_with fail
        refine hPH.out.mono ?_
        rintro e w6 ⟨rfl, hb6⟩
        have hD6 := Lib.hid ((hb6.block _ (Array.getElem?_eq_some_iff.1 hDx.out).1).trans hDx.out)
        have p3 := (cell_of_heap (j := 3) hD6.out).trans rfl
        have f3 := frozen_of_heap hD6.out 3
        have hsep : w1.heap.size ≠ w.heap.size := fun e => by
          have h1 := hrx.out; rw [← e, hDx.out] at h1; injection h1 with h1; injection h1 with h1; simp at h1
        have hlt1 : w.heap.size ≤ w1.heap.size := hw1H.out
        have hD7 := Lib.hid (blk_put hD6.out 3 (.string (B deps)) rfl)
        have hr7 : Hid ((w6.setCell ⟨w1.heap.size, 3, none⟩ (.string (B deps))).heap[w.heap.size]? = some (.cells #[.slice none 0 0, .bool false, .string (B []), .string (B [])] 43 (0, 0))) := (Below.heap_setCell _ _ _ _ (by show w.heap.size ≠ w1.heap.size; exact fun e => hsep e.symm)).trans ((hb6.block _ (Array.getElem?_eq_some_iff.1 hrx.out).1).trans hrx.out)
        have hO7 := Lib.hid (own_move hOx.out (w1 := w6.setCell ⟨w1.heap.size, 3, none⟩ (.string (B deps))) (fun k e => (Below.heap_setCell _ _ _ _ (by
          rw [ha0H.out] at e; injection e with e; show k ≠ w1.heap.size; rw [← e]; exact hg2H.out)).trans (hb6.block k (own_lt hOx.out k e))))
        have hb7 : Hid ((Kd.int .u8).C (w6.setCell ⟨w1.heap.size, 3, none⟩ (.string (B deps))) A2 lb (ints b)) := int_keep (Kd.C_below hb5.out hb6) hD6.out (fun j x h => cells_no_int_ref j h) (fun k hk => Below.heap_setCell _ _ _ _ hk)
        have hB7 : Hid (Below w.heap.size w (w6.setCell ⟨w1.heap.size, 3, none⟩ (.string (B deps)))) := (hB.out.trans (hb6.mono hB.out.size)).setCell hlt1 _
        clear hb6 hDx hOx hb5 hf5 hrx hB hD6
        go_upto_region 13 with (fail)
        generalize w6.setCell ⟨w1.heap.size, 3, none⟩ (.string (B deps)) = w7 at *
        have x0 := (cell_of_heap (j := 0) hD7.out).trans rfl
        have x1 := (cell_of_heap (j := 1) hD7.out).trans rfl
        have x2 := (cell_of_heap (j := 2) hD7.out).trans rfl
        have x3 := (cell_of_heap (j := 3) hD7.out).trans rfl
        have y0 := (cell_of_heap (j := 0) hr7.out).trans rfl
        have y1 := (cell_of_heap (j := 1) hr7.out).trans rfl
        have y2 := (cell_of_heap (j := 2) hr7.out).trans rfl
        have y3 := (cell_of_heap (j := 3) hr7.out).trans rfl
        have z0 := frozen_of_heap hr7.out 0
        have z1 := frozen_of_heap hr7.out 1
        have z2 := frozen_of_heap hr7.out 2
        have z3 := frozen_of_heap hr7.out 3
        go_wp2_with fail
        have hk9 : ∀ k, k ≠ w.heap.size → ((((w7.setCell ⟨w.heap.size, 0, none⟩ (.slice (some a0) no co)).setCell ⟨w.heap.size, 1, none⟩ (.bool once)).setCell ⟨w.heap.size, 2, none⟩ (.string (B (d0 :: dr)))).setCell ⟨w.heap.size, 3, none⟩ (.string (B deps))).heap[k]? = w7.heap[k]? := fun k hk => by rw [Below.heap_setCell _ _ _ _ hk, Below.heap_setCell _ _ _ _ hk, Below.heap_setCell _ _ _ _ hk, Below.heap_setCell _ _ _ _ hk]
        have hB9 : Below w.heap.size w ((((w7.setCell ⟨w.heap.size, 0, none⟩ (.slice (some a0) no co)).setCell ⟨w.heap.size, 1, none⟩ (.bool once)).setCell ⟨w.heap.size, 2, none⟩ (.string (B (d0 :: dr)))).setCell ⟨w.heap.size, 3, none⟩ (.string (B deps))) := ⟨hB7.out.os, hB7.out.tape, hB7.out.output, by simpa using hB7.out.size, fun k hk => (hk9 k (by omega)).trans (hB7.out.block k hk)⟩
        have k4 := blk_put (blk_put (blk_put (blk_put hr7.out 0 (.slice (some a0) no co) rfl) 1 (.bool once) rfl) 2 (.string (B (d0 :: dr))) rfl) 3 (.string (B deps)) rfl
        have q0 := (cell_of_heap (j := 0) k4).trans rfl
        have q1 := (cell_of_heap (j := 1) k4).trans rfl
        have q2 := (cell_of_heap (j := 2) k4).trans rfl
        have q3 := (cell_of_heap (j := 3) k4).trans rfl
        have hO9 := own_move (w1 := (((w7.setCell ⟨w.heap.size, 0, none⟩ (.slice (some a0) no co)).setCell ⟨w.heap.size, 1, none⟩ (.bool once)).setCell ⟨w.heap.size, 2, none⟩ (.string (B (d0 :: dr)))).setCell ⟨w.heap.size, 3, none⟩ (.string (B deps))) hO7.out (fun k e => hk9 k (by have := own_base hO7.out k e; omega))
        have hb9 : (Kd.int .u8).C ((((w7.setCell ⟨w.heap.size, 0, none⟩ (.slice (some a0) no co)).setCell ⟨w.heap.size, 1, none⟩ (.bool once)).setCell ⟨w.heap.size, 2, none⟩ (.string (B (d0 :: dr)))).setCell ⟨w.heap.size, 3, none⟩ (.string (B deps))) A2 lb (ints b) := int_keep hb7.out hr7.out (fun j x h => cells_no_int_ref j h) hk9
        generalize (((w7.setCell ⟨w.heap.size, 0, none⟩ (.slice (some a0) no co)).setCell ⟨w.heap.size, 1, none⟩ (.bool once)).setCell ⟨w.heap.size, 2, none⟩ (.string (B (d0 :: dr)))).setCell ⟨w.heap.size, 3, none⟩ (.string (B deps)) = w9 at *
        refine bodyPost_ret (v := .tuple #[.agg #[.slice (some a0) no co, .bool once, .string (B (d0 :: dr)), .string (B deps)], .bool true]) (by simp [results, Tryz.results11, go_sem, q0, q1, q2, q3]) rfl ?_
        rw [← hnoH.out] at hO9 ⊢
        rw [← hlbH.out] at hO9 hb9
        obtain ⟨e1, e2⟩ := outs_C hO9 (by rw [hlbH.out]; exact hlc2) hb9
        exact ⟨hB9, outs, b, some a0, co, rfl, rfl, e1, e2⟩
end Go.Proofs.YtbklhcjcgiblkaaGreatDoor.Ck
end
section
set_option linter.unusedVariables false
namespace Go.Proofs.YtbklhcjcgiblkaaGreatDoor.Ck
open Go.RowKit Go.ChangeShapes Go.WideShapes Go.Proofs.YtbklhcjcgiblkaaGreatDoorW.PrintWords Go.Proofs.YtbklhcjcgiblkaaGreatDoor.U Go.Proofs.YtbklhcjcgiblkaaGreatDoor.P Go.Proofs.YtbklhcjcgiblkaaGreatDoor.PTh Go.Proofs.YtbklhcjcgiblkaaGreatDoor.MapV
def OpensP {α : Type} (t : TypeId) (d : Kd α) (Q : α → Prop) : Prop :=
  ∀ {H : Type} {enc : TypeId × Value → H} {W : World} {fuel : Nat} {cs : List Value} {x : DataW H × List MemPlace}, DataW.trod enc Tryz.prog W 0 (fun _ => true) true fuel t cs = some x → ∃ a, d.K W a cs ∧ Q a
theorem opensP_string : OpensP 9 Kd.string (fun s => ∃ l, s = B l) := by
  intro H enc W fuel cs x h
  obtain ⟨s, e, _, _⟩ := DataW.trod_string Tryz.underlying9 h
  obtain ⟨l, rfl⟩ := B_surj s
  exact ⟨_, e, l, rfl⟩
theorem opensP_u8 : OpensP 5 (Kd.int .u8) (fun z => ∃ c : UInt8, z = (c.toNat : Int)) := by
  intro H enc W fuel cs x h
  obtain ⟨lv, e0, _, wf⟩ := DataW.trod_int Tryz.underlying5 h
  have hw : 0 ≤ lv ∧ lv ≤ 255 := by have := wf; simp [Lit.wf] at this; exact ⟨this.1, this.2⟩
  refine ⟨lv, e0, UInt8.ofNat lv.toNat, ?_⟩
  rw [UInt8.toNat_ofNat']
  omega
theorem row_open {α : Type} {t e : TypeId} {d : Kd α} {Q : α → Prop} (ht : Tryz.prog.underlying t = some (.slice e)) (hsz : Tryz.prog.cellsOf e = d.sz) (hd : OpensP e d Q)
    {H : Type} {enc : TypeId × Value → H} {W : World} {fuel : Nat} {a : Option Addr} {len cap : Nat} {y : DataW H × List MemPlace} (h : DataW.trod enc Tryz.prog W 0 (fun _ => true) true fuel t (Value.slice a len cap).cells.toList = some y) :
    ∃ xs, xs.length = len ∧ len ≤ cap ∧ d.C W a len xs ∧ ∀ x ∈ xs, Q x := by
  rcases DataW.trod_slice ht h with ⟨hcs, _⟩ | ⟨x, len', cap', elems, rest, n, _, hcs, _, hb, hl, hm, hlen, hel, _, _⟩
  · simp [Value.cells] at hcs
    obtain ⟨rfl, rfl, rfl⟩ := hcs
    exact ⟨[], rfl, Nat.le_refl _, ⟨rfl, Nat.zero_le _, fun h => absurd h (Nat.lt_irrefl 0)⟩, by simp⟩
  · simp [Value.cells] at hcs
    obtain ⟨rfl, rfl, rfl⟩ := hcs
    have each : ∀ i, i < len → ∃ a c, c.length = d.sz ∧ d.K W a c ∧ (∀ j u, c[j]? = some u → W.cell? (x.add (i * d.sz + j)) = some u) ∧ Q a := by
      intro i hi
      have hE := hel i hi
      have hy : elems[i]? = some (elems[i]'(by omega)) := List.getElem?_eq_getElem (by omega)
      rw [hy, Option.bind_eq_some_iff, hsz] at hE
      obtain ⟨c, hc, hT⟩ := hE
      obtain ⟨_, hcl, hcj⟩ := World.cells?_some hc
      obtain ⟨a, ha, hq⟩ := hd hT
      refine ⟨a, c, hcl, ha, fun j u hu => ?_, hq⟩
      have hj : j < d.sz := by rw [← hcl]; exact (List.getElem?_eq_some_iff.1 hu).1
      have := hcj j hj
      rw [Addr.add_add] at this
      rw [this]; exact hu
    refine ⟨List.ofFn fun i : Fin len => Classical.choose (each i.val i.isLt), List.length_ofFn, hl, ⟨List.length_ofFn, by unfold maxLen at hm; omega, fun _ => ⟨x, rfl, fun j p hj => ?_⟩⟩, fun y hy => ?_⟩
    · rw [List.getElem?_ofFn] at hj
      split at hj
      · rename_i hjl
        obtain rfl := Option.some.inj hj
        obtain ⟨c, h1, h2, h3, _⟩ := Classical.choose_spec (each j hjl)
        exact ⟨c, h1, h2, h3⟩
      · cases hj
    · obtain ⟨i, rfl⟩ := List.mem_ofFn.1 hy
      obtain ⟨c, _, _, _, h4⟩ := Classical.choose_spec (each i.val i.isLt)
      exact h4
theorem opensP_slice {α : Type} {t e : TypeId} {d : Kd α} {Q : α → Prop} (ht : Tryz.prog.underlying t = some (.slice e)) (hsz : Tryz.prog.cellsOf e = d.sz) (hd : OpensP e d Q) : OpensP t (Kd.slice e d) (fun xs => ∀ x ∈ xs, Q x) := by
  intro H enc W fuel cs y h
  have h' := h
  rcases DataW.trod_slice ht h with ⟨hcs, _⟩ | ⟨x, len', cap', elems, rest, n, _, hcs, _⟩
  · subst hcs
    obtain ⟨xs, h1, h2, h3, h4⟩ := row_open (a := none) (len := 0) (cap := 0) ht hsz hd h'
    exact ⟨xs, ⟨none, 0, by rw [h1], by rw [h1]; exact h2, by rw [h1]; exact h3⟩, h4⟩
  · subst hcs
    obtain ⟨xs, h1, h2, h3, h4⟩ := row_open (a := some x) (len := len') (cap := cap') ht hsz hd h'
    exact ⟨xs, ⟨some x, cap', by rw [h1], by rw [h1]; exact h2, by rw [h1]; exact h3⟩, h4⟩
theorem cells_u8 : Tryz.prog.cellsOf 5 = 1 := by kernel_rfl
theorem cells_string : Tryz.prog.cellsOf 9 = 1 := by kernel_rfl
theorem cells_bytes : Tryz.prog.cellsOf 24 = 1 := by kernel_rfl
theorem cells_file : Tryz.prog.cellsOf 41 = 2 := by kernel_rfl
theorem txt_of (zs : List Int) (h : ∀ z ∈ zs, ∃ c : UInt8, z = (c.toNat : Int)) : ∃ b : Txt, zs = ints b := by
  induction zs with
  | nil => exact ⟨[], rfl⟩
  | cons z zs ih =>
    obtain ⟨c, rfl⟩ := h z (by simp)
    obtain ⟨b, rfl⟩ := ih (fun x hx => h x (by simp [hx]))
    exact ⟨c :: b, rfl⟩
theorem txts_of (l : List ByteArray) (h : ∀ s ∈ l, ∃ t, s = B t) : ∃ ws : List Txt, l = ws.map B := by
  induction l with
  | nil => exact ⟨[], rfl⟩
  | cons s l ih =>
    obtain ⟨t, rfl⟩ := h s (by simp)
    obtain ⟨ws, rfl⟩ := ih (fun x hx => h x (by simp [hx]))
    exact ⟨t :: ws, rfl⟩
theorem files_of (l : List SG) (h : ∀ s ∈ l, ∃ f, s = toG f) : ∃ fs : List FileL, l = fs.map toG := by
  induction l with
  | nil => exact ⟨[], rfl⟩
  | cons s l ih =>
    obtain ⟨t, rfl⟩ := h s (by simp)
    obtain ⟨ws, rfl⟩ := ih (fun x hx => h x (by simp [hx]))
    exact ⟨t :: ws, rfl⟩
theorem opensP_file : OpensP 41 KG (fun x => ∃ f, x = toG f) := by
  intro H enc W fuel cs x h
  obtain ⟨xs, m, _, _, hcl, hxs, hF⟩ := DataW.trod_struct Tryz.underlying41 h
  rw [cells_file] at hcl
  obtain ⟨p0, p1, rfl⟩ : ∃ a b, cs = [a, b] := by
    rcases cs with _ | ⟨a, _ | ⟨b, _ | ⟨c, t⟩⟩⟩ <;> simp at hcl
    exact ⟨a, b, rfl⟩
  have f0 := hF 0 _ rfl
  have f1 := hF 1 _ rfl
  change DataW.trod enc _ W 0 _ true m 9 (([p0, p1].drop 0).take (Tryz.prog.cellsOf 9)) = xs[0]? at f0
  change DataW.trod enc _ W 0 _ true m 24 (([p0, p1].drop 1).take (Tryz.prog.cellsOf 24)) = xs[1]? at f1
  rw [cells_string] at f0
  rw [cells_bytes] at f1
  have hxl : xs.length = 2 := hxs
  rw [List.getElem?_eq_getElem (by omega)] at f0 f1
  obtain ⟨a0, k0, n, rfl⟩ := opensP_string f0
  obtain ⟨a1, ⟨A1, c1, e1, l1, g1⟩, q1⟩ := opensP_slice Tryz.underlying24 cells_u8 opensP_u8 f1
  obtain ⟨b, rfl⟩ := txt_of a1 q1
  have hc0 : p0 = .string (B n) := by
    have : [p0] = [Value.string (B n)] := k0
    injection this
  have hc1 : p1 = .slice A1 (ints b).length c1 := by
    have : [p1] = [Value.slice A1 (ints b).length c1] := e1
    injection this
  subst hc0 hc1
  exact ⟨toG ⟨n, b⟩, k41_mk W (toG ⟨n, b⟩) l1 g1, ⟨n, b⟩, rfl⟩
def FilesIn (W : World) (a : Option Addr) (len cap : Nat) (fs : List FileL) : Prop := fs.length = len ∧ len ≤ cap ∧ Kd.C KG W a (fs.map toG).length (fs.map toG)
def WordsIn (W : World) (a : Option Addr) (len cap : Nat) (ws : List Txt) : Prop := ws.length = len ∧ len ≤ cap ∧ Kd.C Kd.string W a ws.length (ws.map B)
def BytesIn (W : World) (a : Option Addr) (len cap : Nat) (b : Txt) : Prop := b.length = len ∧ len ≤ cap ∧ (Kd.int .u8).C W a b.length (ints b)
end Go.Proofs.YtbklhcjcgiblkaaGreatDoor.Ck
end
section
set_option linter.unusedSimpArgs false
set_option linter.unusedVariables false
namespace Go.Proofs.YtbklhcjcgiblkaaGreatDoor.P
open Go.RowKit Go.Lib Go.Shelf Go.Proofs.YtbklhcjcgiblkaaGreatDoorW.PrintWords Go.Proofs.YtbklhcjcgiblkaaGreatDoorW.PrintLast Go.Proofs.YtbklhcjcgiblkaaGreatDoorW.PrintMore Go.Proofs.YtbklhcjcgiblkaaGreatDoor.U Go.Proofs.YtbklhcjcgiblkaaGreatDoor.Dp
theorem byteT (c : UInt8) (k : Nat) (hk : k < 256) (h : c = UInt8.ofNat k) : ((c.toNat : Int) == (k : Int)) = true ∧ ((c.toNat : Int) != (k : Int)) = false := by
  have h1 : ((c.toNat : Int) == (k : Int)) = true := by rw [beq_iff_eq]; exact (toNat_eq c k hk).2 h
  exact ⟨h1, by rw [bne, h1]; rfl⟩
theorem byteF (c : UInt8) (k : Nat) (hk : k < 256) (h : ¬ c = UInt8.ofNat k) : ((c.toNat : Int) == (k : Int)) = false ∧ ((c.toNat : Int) != (k : Int)) = true := by
  have h1 : ((c.toNat : Int) == (k : Int)) = false := by rw [beq_eq_false_iff_ne]; exact fun e => h ((toNat_eq c k hk).1 e)
  exact ⟨h1, by rw [bne, h1]; rfl⟩
theorem byte_in (p : Txt) (c : UInt8) (r : Txt) : ∀ h : p.length < (B (p ++ c :: r)).size, (((B (p ++ c :: r))[p.length]'h).toNat : Int) = (c.toNat : Int) := by
  intro h
  have : (B (p ++ c :: r))[p.length]'h = c := by
    show (p ++ c :: r).toArray[p.length] = c
    simp
  rw [this]
theorem byte_in2 (p : Txt) (c d : UInt8) (r : Txt) : ∀ h : p.length + 1 < (B (p ++ c :: d :: r)).size, (((B (p ++ c :: d :: r))[p.length + 1]'h).toNat : Int) = (d.toNat : Int) := by
  intro h
  have : (B (p ++ c :: d :: r))[p.length + 1]'h = d := by
    show (p ++ c :: d :: r).toArray[p.length + 1] = d
    simp
  rw [this]
theorem rep2_plain (c : UInt8) (r : Txt) (h : ¬ (c = 92 ∧ r.head? = some 10)) : rep2 (c :: r) = c :: rep2 r := by
  cases r with
  | nil => rfl
  | cons d r => rw [rep2, if_neg (by simpa using h)]
theorem tokG_len (x : Txt) : ∀ w, ∀ t ∈ tokG w x, t.length ≤ w.length + x.length + 1 := by
  induction x with
  | nil =>
    intro w t ht
    rw [tokG, Fld.flushF] at ht
    split at ht
    · cases ht
    · rw [List.mem_singleton.1 ht]; simp
  | cons c x ih =>
    intro w t ht
    rw [tokG] at ht
    split at ht
    · have := ih _ t ht; simp at this ⊢; omega
    · rcases List.mem_append.1 ht with ht | ht
      · rcases List.mem_append.1 ht with ht | ht
        · rw [Fld.flushF] at ht
          split at ht
          · cases ht
          · rw [List.mem_singleton.1 ht]; simp; omega
        · unfold sepF at ht
          split at ht
          · cases ht
          · rw [List.mem_singleton.1 ht]; simp
      · have := ih [] t ht; simp at this ⊢; omega
theorem belowN {w w1 w2 : World} (h1 : Below w.heap.size w w1) (h2 : Below w1.heap.size w1 w2) : Below w.heap.size w w2 := h1.trans (h2.mono h1.size)
theorem nl_left (l : List Txt) : ∃ a, l = List.replicate a [10] ++ l.dropWhile isNL ∧ ∀ t T, l.dropWhile isNL = t :: T → isNL t = false := by
  induction l with
  | nil => exact ⟨0, rfl, fun t T h => by cases h⟩
  | cons x l ih =>
    by_cases hx : isNL x = true
    · obtain ⟨a, h1, h2⟩ := ih
      have hx' : x = [10] := by simpa [isNL] using hx
      refine ⟨a + 1, ?_, ?_⟩
      · rw [List.dropWhile_cons, if_pos hx, List.replicate_succ, List.cons_append, ← h1, hx']
      · rw [List.dropWhile_cons, if_pos hx]; exact h2
    · refine ⟨0, ?_, ?_⟩
      · rw [List.dropWhile_cons, if_neg hx]; rfl
      · intro t T h
        rw [List.dropWhile_cons, if_neg hx] at h
        injection h with h _
        rw [← h]; simpa using hx
theorem nl_right (l : List Txt) : ∃ K, l = stripR l ++ List.replicate K [10] ∧ ∀ t T, stripR l = T ++ [t] → isNL t = false := by
  obtain ⟨K, h1, h2⟩ := nl_left l.reverse
  refine ⟨K, ?_, fun t T h => ?_⟩
  · have := congrArg List.reverse h1
    rwa [List.reverse_reverse, List.reverse_append, List.reverse_replicate] at this
  · have : l.reverse.dropWhile isNL = t :: T.reverse := by
      have := congrArg List.reverse h
      unfold stripR at this
      simpa using this
    exact h2 t _ this
theorem nl_split (l : List Txt) : (stripT l = [] ∧ ∃ a, l = List.replicate a [10]) ∨
    (∃ a K x X y Y, l = List.replicate a [10] ++ stripT l ++ List.replicate K [10] ∧ stripT l = x :: X ∧ isNL x = false ∧ stripT l = Y ++ [y] ∧ isNL y = false) := by
  obtain ⟨a, h1, h2⟩ := nl_left l
  obtain ⟨K, h3, h4⟩ := nl_right (l.dropWhile isNL)
  have hs : stripR (l.dropWhile isNL) = stripT l := rfl
  rw [hs] at h3 h4
  cases hM : stripT l with
  | nil =>
    left
    rw [hM, List.nil_append] at h3
    refine ⟨rfl, a + K, ?_⟩
    rw [h1, h3, List.replicate_append_replicate]
  | cons x X =>
    right
    obtain ⟨Y, y, hY⟩ : ∃ Y y, x :: X = Y ++ [y] := ⟨(x :: X).dropLast, (x :: X).getLast (by simp), (List.dropLast_concat_getLast (by simp)).symm⟩
    rw [hM] at h3 h4
    refine ⟨a, K, x, X, y, Y, ?_, rfl, h2 x (X ++ List.replicate K [10]) (by rw [h3]; rfl), hY, h4 y Y hY⟩
    rw [List.append_assoc, ← h3]; exact h1
theorem reps_map (w : World) : ∀ l : List Txt, Reps (Kd.string.K w) 1 (l.map B) (l.map fun t => Value.string (B t))
  | [] => Reps.none _ _
  | t :: l => by rw [List.map_cons, List.map_cons]; exact Reps.one (show Kd.string.K w (B t) [.string (B t)] from rfl) (reps_map w l)
theorem row_reads {w : World} {b : Nat} {e : TypeId} {v : Value} {l : List Txt} (h : w.ownsRow b e 1 v l.length (l.map fun t => Value.string (B t))) :
    ∃ A c, v = .slice A (l.map B).length c ∧ (l.map B).length ≤ c ∧ Kd.string.C w A (l.map B).length (l.map B) := by
  have h0 : OwnRow (Kd.string.K w) e 1 w b v (l.map B) := ⟨_, by rw [List.length_map]; exact h, reps_map w l⟩
  exact h0.reads
theorem in_loop (acc : List Txt) (c : Txt) (hn : acc.length < 100000) (d : Nat) : ∀ i : Nat, i + d = acc.length → Ev (fun k => bellowsref13_In.l0 k (acc.map B) (B c) (i : Int)) (decide (c ∈ acc.drop i)) := by
  induction d with
  | zero =>
    intro i hi
    refine Ev.unroll (Ev.some fun k => ?_)
    rw [bellowsref13_In.l0, if_neg (by rw [List.length_map]; omega), List.drop_of_length_le (by omega)]
    simp
  | succ d ih =>
    intro i hi
    have hin : i < acc.length := by omega
    have hr := ih (i + 1) (by omega)
    have hw := wrapH i (by omega)
    have hrd : rdOf ByteArray.empty (acc.map B) (i : Int) = B acc[i] := by rw [rdOf_B _ _ (by simpa using hin)]; simp
    have hd : acc.drop i = acc[i] :: acc.drop (i + 1) := List.drop_eq_getElem_cons hin
    refine Ev.unroll ?_
    have e : (fun k => bellowsref13_In.l0 (k + 1) (acc.map B) (B c) (i : Int)) = fun k => if acc[i] = c then some true else bellowsref13_In.l0 k (acc.map B) (B c) ((i + 1 : Nat) : Int) := by
      funext k
      rw [bellowsref13_In.l0, if_pos (by rw [List.length_map]; omega), if_pos (by omega), hrd, toList_B, toList_B, hw.out]
    rw [e, hd]
    by_cases h : acc[i] = c
    · simp only [h, if_true]; simp; exact Ev.now _
    · simp only [h, if_false]
      refine Ev.eqn hr ?_
      have h' : ¬ c = acc[i] := fun e => h e.symm
      rw [decide_eq_decide, List.mem_cons]
      exact ⟨.inr, fun hq => hq.resolve_left h'⟩
theorem In_any (acc : List Txt) (c : Txt) (hn : acc.length < 100000) (v : Value) (b : Nat) (e : TypeId) (W : World) (hO : W.ownsRow b e 1 v acc.length (acc.map fun t => Value.string (B t))) :
    Calls Tryz.prog 10 #[v, .string (B c)] W fun e w' => e = .returned (.bool (decide (c ∈ acc))) ∧ Below W.heap.size W w' := by
  obtain ⟨A, cp, rfl, hle, hC⟩ := row_reads hO
  obtain ⟨K, hK⟩ := in_loop acc c hn acc.length 0 (by omega)
  rw [List.drop_zero] at hK
  exact (bellowsref13_In.calls K A cp (acc.map B) (B c) _ W hC hle (hK K (Nat.le_refl _))).mono fun e w' h => ⟨h.1, h.2.below⟩
theorem refClean_any (l : Txt) (W : World) : Calls Tryz.prog 20 #[.string (B l)] W fun e w' => e = .returned (.tuple #[.string (B (cleanL l).1), .int .i64 (cleanL l).2]) ∧ Below W.heap.size W w' := by
  obtain ⟨K, hK⟩ := PTh.ref_Clean l
  exact bellowsref03_Clean.calls K (B l) _ _ W (hK K (Nat.le_refl _))
theorem tokG_few (x : Txt) : ∀ w, (tokG w x).length ≤ 2 * x.length + 1 := by
  induction x with
  | nil => intro w; rw [tokG, Fld.flushF]; split <;> simp
  | cons c x ih =>
    intro w
    rw [tokG]
    split
    · have := ih (w ++ [c]); simp; omega
    · have h1 := ih []
      have h2 : (Fld.flushF w).length ≤ 1 := by unfold Fld.flushF; split <;> simp
      have h3 : (sepF c).length ≤ 1 := by unfold sepF; split <;> simp
      simp; omega
def RefPost (text : Txt) (w : World) (e : Ending) (w' : World) : Prop := Below w.heap.size w w' ∧
  ∃ v, e = .returned (.tuple #[.string (B (refL text).1), v, .bool (refL text).2.2]) ∧ Kd.R Kd.string 9 w' w.heap.size (fun _ => True) v ((refL text).2.1.map B)
theorem ref_bad {text : Txt} {w w' : World} (h : refL text = ([], [], false)) (hb : Below w.heap.size w w') : RefPost text w (.returned (.tuple #[.string (B []), .slice none 0 0, .bool false])) w' := by
  refine ⟨hb, .slice none 0 0, ?_, ?_⟩
  · rw [h]
  · rw [h]; exact Kd.R_nil _ _ _ _ _
set_option maxRecDepth 100000 in
set_option maxHeartbeats 16000000 in
theorem RefParse_any (text : Txt) (w : World) : Calls Tryz.prog 9 #[.string (B text)] w (RefPost text w) := by
  obtain ⟨n, hn⟩ : ∃ n, text.length = n := ⟨_, rfl⟩
  have s1 : (B text).size = n := by rw [size_B, hn]
  by_cases hl : 16384 < n
  · have hP := Lib.hid (show refL text = ([], [], false) by rw [refL, if_pos (by omega)])
    have d1 : decide ((16384 : Int) < (n : Int)) = true := by rw [decide_eq_true_iff]; omega
    go_enter Tryz.func9, Tryz.ntmps9
    go_wp2_with fail
    go_ret3
    exact ref_bad hP.out (Below.refl _ _)
  · have d1 : decide ((16384 : Int) < (n : Int)) = false := by rw [decide_eq_false_iff_not]; omega
    obtain ⟨TT, hTT⟩ : ∃ TT, tokG [] (rep2 text) = TT := ⟨_, rfl⟩
    have hP := Lib.hid (show refL text = refT (stripT TT) by rw [refL, if_neg (by omega), hTT])
    have hTL : Hid (∀ t ∈ TT, t.length ≤ 20000) := fun t ht => by
      have h1 := tokG_len (rep2 text) [] t (by rw [hTT]; exact ht)
      have h2 := rep2_len text
      simp at h1; omega
    have hTn : Hid (TT.length ≤ 40000) := by
      have h1 := tokG_few (rep2 text) []
      have h2 := rep2_len text
      show _ ≤ _
      rw [← hTT]; omega
    have hT0 := Lib.hid hTT
    clear hTT
    go_enter Tryz.func9, Tryz.ntmps9
    go_wp2_with fail
    go_loopg [5, 6, 7] (n + 1) (fun gk s5 s6 s7 wr => ∃ i : Nat, s7 = .int .i64 (i : Int) ∧ n + 1 ≤ i + gk ∧
      ((∃ (p r word : Txt) (acc : List Txt), Hid (i = p.length) ∧ Hid (text = p ++ r) ∧ Hid (acc ++ tokG word (rep2 r) = TT) ∧ s6 = .string (B word) ∧ Hid (wr.ownsRow w.heap.size 9 1 s5 acc.length (acc.map fun t => Value.string (B t))) ∧ Hid (Below w.heap.size w wr) ∧ acc.length ≤ 2 * i ∧ word.length ≤ i) ∨
       (i = n + 1 ∧ Hid (wr.ownsRow w.heap.size 9 1 s5 TT.length (TT.map fun t => Value.string (B t))) ∧ Hid (Below w.heap.size w wr))))
    case atStart => exact ⟨0, rfl, by omega, .inl ⟨[], text, [], [], rfl, rfl, hT0, rfl, own_nil _ _ _ _, Below.refl _ _, Nat.zero_le _, Nat.zero_le _⟩⟩
    case round =>
      obtain ⟨i, rfl, hgk, ⟨p, r, word, acc, hip, hsplit, hT, h6, hO, hBe, hacc, hwl⟩ | ⟨hi, hO, hBe⟩⟩ := hrel
      case inl =>
        subst h6
        have hin : i ≤ n := by rw [← hn, hsplit.out, hip.out]; simp
        obtain ⟨gk, rfl⟩ : ∃ g, gk = g + 1 := ⟨gk - 1, by omega⟩
        have d2 : decide ((i : Int) ≤ (n : Int)) = true := by rw [decide_eq_true_iff]; omega
        cases r with
        | nil =>
          obtain ⟨rfl, hi⟩ : i = n ∧ True := ⟨by rw [← hn, hsplit.out, hip.out]; simp, trivial⟩
          have d3 : decide ((i : Int) + 1 < (i : Int)) = false := by rw [decide_eq_false_iff_not]; omega
          have d4 : decide ((i : Int) < (i : Int)) = false := by simp
          have hT2 : Hid (acc ++ Fld.flushF word ++ ([] : List Txt) = TT) := by show _ = _; rw [← hT.out]; simp [tokG, rep2]
          clear hT
          have hfll : (Fld.flushF word).length ≤ 1 := by unfold Fld.flushF; split <;> simp
          have hl8 : (acc ++ Fld.flushF word).length ≤ 40000 := by rw [List.length_append]; omega
          by_cases hw0 : word = []
          · have ew : (B word).toList.isEmpty = true := by rw [toList_B, hw0]; rfl
            have ew2 : (!(B word).toList.isEmpty) = false := by rw [ew]; rfl
            have ew3 : word.isEmpty = true := by rw [hw0]; rfl
            have ew4 : (!word.isEmpty) = false := by rw [ew3]; rfl
            have hO8 : Hid (wr.ownsRow w.heap.size 9 1 u5 (acc ++ Fld.flushF word).length ((acc ++ Fld.flushF word).map fun t => Value.string (B t))) := by
              rw [Fld.flushF, if_pos hw0, List.append_nil]; exact hO
            have hB8 := hBe
            clear hO hw0
            go_wp2_with fail
            go_roundg gk
            case measure => omega
            case rel => exact ⟨i + 1, by first | rfl | simp, by omega, .inr ⟨by omega, by have h := hO8.out; rw [show acc ++ Fld.flushF word = TT by rw [← hT2.out, List.append_nil]] at h; exact h, hB8⟩⟩
          · have ew : (B word).toList.isEmpty = false := by rw [toList_B]; cases hq : word with | nil => exact absurd hq hw0 | cons _ _ => rfl
            have ew2 : (!(B word).toList.isEmpty) = true := by rw [ew]; rfl
            have ew3 : word.isEmpty = false := by rw [toList_B] at ew; exact ew
            have ew4 : (!word.isEmpty) = true := by rw [ew3]; rfl
            have hfl : Hid (Fld.flushF word = [word]) := by show _ = _; rw [Fld.flushF, if_neg hw0]
            clear hw0
            go_wp2_with (at_builtin; go_loud (refine print_append_cells (w0 := w) (W := wr) w.heap.size rfl _ _ 22 9 (.string ⟨#[]⟩) 1 16 rfl Tryz.underlying22 infoStr rfl (by decide) (by decide) u5 (acc.length) _ [.string (B word)] rfl rfl rfl (by intro u hu; rw [List.mem_singleton.1 hu]; rfl) hO.out hBe.out hBe.out.size (by omega) ?_))
            intro v8 w8 hown hbel _ _
            have hO8 : Hid (w8.ownsRow w.heap.size 9 1 v8 (acc ++ [word]).length ((acc ++ [word]).map fun t => Value.string (B t))) := by
              show World.ownsRow _ _ _ _ _ _ _
              simpa [Nat.add_assoc] using hown
            have hB8 := Lib.hid hbel
            clear hown hbel
            rw [← hfl.out] at hO8
            go_wp2_with fail
            go_roundg gk
            case measure => omega
            case rel => exact ⟨i + 1, by first | rfl | simp, by omega, .inr ⟨by omega, by have h := hO8.out; rw [show acc ++ Fld.flushF word = TT by rw [← hT2.out, List.append_nil]] at h; exact h, hB8⟩⟩
        | cons c r =>
          have hlt : i < n := by rw [← hn, hsplit.out, hip.out]; simp
          have d4 : decide ((i : Int) < (n : Int)) = true := by rw [decide_eq_true_iff]; omega
          have d5 : ((i : Int) == (n : Int)) = false := by rw [beq_eq_false_iff_ne]; omega
          have hidx : ∀ h : i < (B text).size, (((B text)[i]'h).toNat : Int) = (c.toNat : Int) := by
            rw [hsplit.out, hip.out]; exact byte_in p c r
          have c256 := c.toNat_lt
          by_cases hct : c = 92 ∧ r.head? = some 10
          · obtain ⟨rfl, h10⟩ := hct
            cases r with
            | nil => cases h10
            | cons d r =>
              obtain rfl : d = 10 := by simpa using h10
              have hlt2 : i + 1 < n := by rw [← hn, hsplit.out, hip.out]; simp
              have d3 : decide ((i : Int) + 1 < (n : Int)) = true := by rw [decide_eq_true_iff]; omega
              have hidx2 : ∀ h : i + 1 < (B text).size, (((B text)[i + 1]'h).toNat : Int) = ((10 : UInt8).toNat : Int) := by
                rw [hsplit.out, hip.out]; exact byte_in2 p 92 10 r
              have hT2 : Hid (acc ++ Fld.flushF word ++ tokG [] (rep2 r) = TT) := by
                show _ = _
                rw [← hT.out, show rep2 (92 :: 10 :: r) = 32 :: rep2 r by rw [rep2, if_pos ⟨rfl, rfl⟩], tokG, if_neg (by decide)]
                simp [sepF]
              clear hT
              have hfll : (Fld.flushF word).length ≤ 1 := by unfold Fld.flushF; split <;> simp
              have hl8 : (acc ++ Fld.flushF word).length ≤ 40000 := by rw [List.length_append]; omega
              by_cases hw0 : word = []
              · have ew : (B word).toList.isEmpty = true := by rw [toList_B, hw0]; rfl
                have ew2 : (!(B word).toList.isEmpty) = false := by rw [ew]; rfl
                have ew3 : word.isEmpty = true := by rw [hw0]; rfl
                have ew4 : (!word.isEmpty) = false := by rw [ew3]; rfl
                have hO8 : Hid (wr.ownsRow w.heap.size 9 1 u5 (acc ++ Fld.flushF word).length ((acc ++ Fld.flushF word).map fun t => Value.string (B t))) := by
                  rw [Fld.flushF, if_pos hw0, List.append_nil]; exact hO
                have hB8 := hBe
                clear hO hw0
                go_wp2_with fail
                go_roundg gk
                case measure => omega
                case rel => exact ⟨i + 2, by first | rfl | (simp; done) | (simp; omega), by omega, .inl ⟨p ++ [92, 10], r, [], acc ++ Fld.flushF word, (by show _ = _; simp [hip.out]), (by show _ = _; simp [hsplit.out]), hT2, rfl, hO8, hB8, by simp; omega, by simp⟩⟩
              · have ew : (B word).toList.isEmpty = false := by rw [toList_B]; cases hq : word with | nil => exact absurd hq hw0 | cons _ _ => rfl
                have ew2 : (!(B word).toList.isEmpty) = true := by rw [ew]; rfl
                have ew3 : word.isEmpty = false := by rw [toList_B] at ew; exact ew
                have ew4 : (!word.isEmpty) = true := by rw [ew3]; rfl
                have hfl : Hid (Fld.flushF word = [word]) := by show _ = _; rw [Fld.flushF, if_neg hw0]
                clear hw0
                go_wp2_with (at_builtin; go_loud (refine print_append_cells (w0 := w) (W := wr) w.heap.size rfl _ _ 22 9 (.string ⟨#[]⟩) 1 16 rfl Tryz.underlying22 infoStr rfl (by decide) (by decide) u5 (acc.length) _ [.string (B word)] rfl rfl rfl (by intro u hu; rw [List.mem_singleton.1 hu]; rfl) hO.out hBe.out hBe.out.size (by omega) ?_))
                intro v8 w8 hown hbel _ _
                have hO8 : Hid (w8.ownsRow w.heap.size 9 1 v8 (acc ++ [word]).length ((acc ++ [word]).map fun t => Value.string (B t))) := by
                  show World.ownsRow _ _ _ _ _ _ _
                  simpa [Nat.add_assoc] using hown
                have hB8 := Lib.hid hbel
                clear hown hbel
                rw [← hfl.out] at hO8
                go_wp2_with fail
                go_roundg gk
                case measure => omega
                case rel => exact ⟨i + 2, by first | rfl | (simp; done) | (simp; omega), by omega, .inl ⟨p ++ [92, 10], r, [], acc ++ Fld.flushF word, (by show _ = _; simp [hip.out]), (by show _ = _; simp [hsplit.out]), hT2, rfl, hO8, hB8, by simp; omega, by simp⟩⟩
          · have hr2 := rep2_plain c r hct
            have hT1 : Hid (acc ++ (if wordB c = true then tokG (word ++ [c]) (rep2 r) else Fld.flushF word ++ sepF c ++ tokG [] (rep2 r)) = TT) := by
              show _ = _
              rw [← hT.out, hr2, tokG]
            have e1 : (B text).extract i (i + 1) = B [c] := by
              rw [extract_B, hsplit.out, hip.out, List.take_length_add_append]; simp
            have zw : (B word).size = word.length := size_B _
            have zc : (B [c]).size = 1 := rfl
            have nb : (9223372036854775807 < word.length + 1) = False := eq_false (by omega)
            have EX : Hid (B word ++ B [c] = B (word ++ [c])) := B_append _ _
            clear hT hr2
            by_cases hwc : wordB c = true
            · have hT2 : Hid (acc ++ tokG (word ++ [c]) (rep2 r) = TT) := by have := hT1.out; rwa [if_pos hwc] at this
              obtain ⟨x32, x10, x58⟩ : c ≠ 32 ∧ c ≠ 10 ∧ c ≠ 58 := by simp [wordB] at hwc; exact ⟨hwc.1.1, hwc.1.2, hwc.2⟩
              obtain ⟨q32, r32⟩ : ((c.toNat : Int) == 32) = false ∧ ((c.toNat : Int) != 32) = true := byteF c 32 (by decide) x32
              obtain ⟨q10, r10⟩ : ((c.toNat : Int) == 10) = false ∧ ((c.toNat : Int) != 10) = true := byteF c 10 (by decide) x10
              obtain ⟨q58, r58⟩ : ((c.toNat : Int) == 58) = false ∧ ((c.toNat : Int) != 58) = true := byteF c 58 (by decide) x58
              clear hT1
              cases r with
              | nil =>
                have d3 : decide ((i : Int) + 1 < (n : Int)) = false := by rw [decide_eq_false_iff_not, ← hn, hsplit.out, hip.out]; simp
                clear hct
                go_wp2_with fail
                go_roundg gk
                case measure => omega
                case rel => exact ⟨i + 1, by first | rfl | simp, by omega, .inl ⟨p ++ [c], [], word ++ [c], acc, (by show _ = _; simp [hip.out]), (by show _ = _; simp [hsplit.out]), hT2, by first | rfl | (rw [EX.out]; done) | (congr 1; exact EX.out), hO, hBe, by omega, by simp; omega⟩⟩
              | cons d r1 =>
                have hlt2 : i + 1 < n := by rw [← hn, hsplit.out, hip.out]; simp
                have d3 : decide ((i : Int) + 1 < (n : Int)) = true := by rw [decide_eq_true_iff]; omega
                by_cases x92 : c = 92
                · have hidx2 : ∀ h : i + 1 < (B text).size, (((B text)[i + 1]'h).toNat : Int) = (d.toNat : Int) := by
                    rw [hsplit.out, hip.out]; exact byte_in2 p c d r1
                  obtain ⟨y10, z10⟩ : ((d.toNat : Int) == 10) = false ∧ ((d.toNat : Int) != 10) = true := byteF d 10 (by decide) (fun e => hct ⟨x92, by rw [e]; rfl⟩)
                  obtain ⟨q92, r92⟩ : ((c.toNat : Int) == 92) = true ∧ ((c.toNat : Int) != 92) = false := byteT c 92 (by decide) x92
                  clear hct x92
                  go_wp2_with fail
                  go_roundg gk
                  case measure => omega
                  case rel => exact ⟨i + 1, by first | rfl | simp, by omega, .inl ⟨p ++ [c], (d :: r1), word ++ [c], acc, (by show _ = _; simp [hip.out]), (by show _ = _; simp [hsplit.out]), hT2, by first | rfl | (rw [EX.out]; done) | (congr 1; exact EX.out), hO, hBe, by omega, by simp; omega⟩⟩
                · obtain ⟨q92, r92⟩ : ((c.toNat : Int) == 92) = false ∧ ((c.toNat : Int) != 92) = true := byteF c 92 (by decide) x92
                  clear hct
                  go_wp2_with fail
                  go_roundg gk
                  case measure => omega
                  case rel => exact ⟨i + 1, by first | rfl | simp, by omega, .inl ⟨p ++ [c], (d :: r1), word ++ [c], acc, (by show _ = _; simp [hip.out]), (by show _ = _; simp [hsplit.out]), hT2, by first | rfl | (rw [EX.out]; done) | (congr 1; exact EX.out), hO, hBe, by omega, by simp; omega⟩⟩
            · clear hct
              have hT2' : Hid (acc ++ (Fld.flushF word ++ sepF c ++ tokG [] (rep2 r)) = TT) := by have := hT1.out; rwa [if_neg hwc] at this
              have x92 : c ≠ 92 := by rintro rfl; exact hwc (by decide)
              obtain ⟨q92, r92⟩ : ((c.toNat : Int) == 92) = false ∧ ((c.toNat : Int) != 92) = true := byteF c 92 (by decide) x92
              clear hT1
              by_cases x32 : c = 32
              · have hT2 : Hid (acc ++ Fld.flushF word ++ tokG [] (rep2 r) = TT) := by show _ = _; rw [← hT2'.out]; simp [sepF, x32]
                obtain ⟨q32, r32⟩ : ((c.toNat : Int) == 32) = true ∧ ((c.toNat : Int) != 32) = false := byteT c 32 (by decide) x32
                clear x32
                clear hT2'
                by_cases hlt2 : i + 1 < n
                · have d3 : decide ((i : Int) + 1 < (n : Int)) = true := by rw [decide_eq_true_iff]; omega
                  have hfll : (Fld.flushF word).length ≤ 1 := by unfold Fld.flushF; split <;> simp
                  have hl8 : (acc ++ Fld.flushF word).length ≤ 40000 := by rw [List.length_append]; omega
                  by_cases hw0 : word = []
                  · have ew : (B word).toList.isEmpty = true := by rw [toList_B, hw0]; rfl
                    have ew2 : (!(B word).toList.isEmpty) = false := by rw [ew]; rfl
                    have ew3 : word.isEmpty = true := by rw [hw0]; rfl
                    have ew4 : (!word.isEmpty) = false := by rw [ew3]; rfl
                    have hO8 : Hid (wr.ownsRow w.heap.size 9 1 u5 (acc ++ Fld.flushF word).length ((acc ++ Fld.flushF word).map fun t => Value.string (B t))) := by
                      rw [Fld.flushF, if_pos hw0, List.append_nil]; exact hO
                    have hB8 := hBe
                    clear hO hw0
                    go_wp2_with fail
                    go_roundg gk
                    case measure => omega
                    case rel => exact ⟨i + 1, by first | rfl | simp, by omega, .inl ⟨p ++ [c], r, [], acc ++ Fld.flushF word, (by show _ = _; simp [hip.out]), (by show _ = _; simp [hsplit.out]), hT2, rfl, hO8, hB8, by simp; omega, by simp⟩⟩
                  · have ew : (B word).toList.isEmpty = false := by rw [toList_B]; cases hq : word with | nil => exact absurd hq hw0 | cons _ _ => rfl
                    have ew2 : (!(B word).toList.isEmpty) = true := by rw [ew]; rfl
                    have ew3 : word.isEmpty = false := by rw [toList_B] at ew; exact ew
                    have ew4 : (!word.isEmpty) = true := by rw [ew3]; rfl
                    have hfl : Hid (Fld.flushF word = [word]) := by show _ = _; rw [Fld.flushF, if_neg hw0]
                    clear hw0
                    go_wp2_with (at_builtin; go_loud (refine print_append_cells (w0 := w) (W := wr) w.heap.size rfl _ _ 22 9 (.string ⟨#[]⟩) 1 16 rfl Tryz.underlying22 infoStr rfl (by decide) (by decide) u5 (acc.length) _ [.string (B word)] rfl rfl rfl (by intro u hu; rw [List.mem_singleton.1 hu]; rfl) hO.out hBe.out hBe.out.size (by omega) ?_))
                    intro v8 w8 hown hbel _ _
                    have hO8 : Hid (w8.ownsRow w.heap.size 9 1 v8 (acc ++ [word]).length ((acc ++ [word]).map fun t => Value.string (B t))) := by
                      show World.ownsRow _ _ _ _ _ _ _
                      simpa [Nat.add_assoc] using hown
                    have hB8 := Lib.hid hbel
                    clear hown hbel
                    rw [← hfl.out] at hO8
                    go_wp2_with fail
                    go_roundg gk
                    case measure => omega
                    case rel => exact ⟨i + 1, by first | rfl | simp, by omega, .inl ⟨p ++ [c], r, [], acc ++ Fld.flushF word, (by show _ = _; simp [hip.out]), (by show _ = _; simp [hsplit.out]), hT2, rfl, hO8, hB8, by simp; omega, by simp⟩⟩
                · have d3 : decide ((i : Int) + 1 < (n : Int)) = false := by rw [decide_eq_false_iff_not]; omega
                  have hfll : (Fld.flushF word).length ≤ 1 := by unfold Fld.flushF; split <;> simp
                  have hl8 : (acc ++ Fld.flushF word).length ≤ 40000 := by rw [List.length_append]; omega
                  by_cases hw0 : word = []
                  · have ew : (B word).toList.isEmpty = true := by rw [toList_B, hw0]; rfl
                    have ew2 : (!(B word).toList.isEmpty) = false := by rw [ew]; rfl
                    have ew3 : word.isEmpty = true := by rw [hw0]; rfl
                    have ew4 : (!word.isEmpty) = false := by rw [ew3]; rfl
                    have hO8 : Hid (wr.ownsRow w.heap.size 9 1 u5 (acc ++ Fld.flushF word).length ((acc ++ Fld.flushF word).map fun t => Value.string (B t))) := by
                      rw [Fld.flushF, if_pos hw0, List.append_nil]; exact hO
                    have hB8 := hBe
                    clear hO hw0
                    go_wp2_with fail
                    go_roundg gk
                    case measure => omega
                    case rel => exact ⟨i + 1, by first | rfl | simp, by omega, .inl ⟨p ++ [c], r, [], acc ++ Fld.flushF word, (by show _ = _; simp [hip.out]), (by show _ = _; simp [hsplit.out]), hT2, rfl, hO8, hB8, by simp; omega, by simp⟩⟩
                  · have ew : (B word).toList.isEmpty = false := by rw [toList_B]; cases hq : word with | nil => exact absurd hq hw0 | cons _ _ => rfl
                    have ew2 : (!(B word).toList.isEmpty) = true := by rw [ew]; rfl
                    have ew3 : word.isEmpty = false := by rw [toList_B] at ew; exact ew
                    have ew4 : (!word.isEmpty) = true := by rw [ew3]; rfl
                    have hfl : Hid (Fld.flushF word = [word]) := by show _ = _; rw [Fld.flushF, if_neg hw0]
                    clear hw0
                    go_wp2_with (at_builtin; go_loud (refine print_append_cells (w0 := w) (W := wr) w.heap.size rfl _ _ 22 9 (.string ⟨#[]⟩) 1 16 rfl Tryz.underlying22 infoStr rfl (by decide) (by decide) u5 (acc.length) _ [.string (B word)] rfl rfl rfl (by intro u hu; rw [List.mem_singleton.1 hu]; rfl) hO.out hBe.out hBe.out.size (by omega) ?_))
                    intro v8 w8 hown hbel _ _
                    have hO8 : Hid (w8.ownsRow w.heap.size 9 1 v8 (acc ++ [word]).length ((acc ++ [word]).map fun t => Value.string (B t))) := by
                      show World.ownsRow _ _ _ _ _ _ _
                      simpa [Nat.add_assoc] using hown
                    have hB8 := Lib.hid hbel
                    clear hown hbel
                    rw [← hfl.out] at hO8
                    go_wp2_with fail
                    go_roundg gk
                    case measure => omega
                    case rel => exact ⟨i + 1, by first | rfl | simp, by omega, .inl ⟨p ++ [c], r, [], acc ++ Fld.flushF word, (by show _ = _; simp [hip.out]), (by show _ = _; simp [hsplit.out]), hT2, rfl, hO8, hB8, by simp; omega, by simp⟩⟩
              · have hT2 : Hid (acc ++ Fld.flushF word ++ ([c] :: tokG [] (rep2 r)) = TT) := by show _ = _; rw [← hT2'.out]; simp [sepF, x32]
                obtain ⟨q32, r32⟩ : ((c.toNat : Int) == 32) = false ∧ ((c.toNat : Int) != 32) = true := byteF c 32 (by decide) x32
                clear hT2'
                have h3 : c = 10 ∨ (¬ c = 10 ∧ c = 58) := by
                  by_cases h : c = 10
                  · exact .inl h
                  · right
                    refine ⟨h, ?_⟩
                    apply Classical.byContradiction
                    intro h58
                    exact hwc (by simp [wordB, x32, h, h58])
                rcases h3 with x10 | ⟨x10, x58⟩
                · obtain ⟨q10, r10⟩ : ((c.toNat : Int) == 10) = true ∧ ((c.toNat : Int) != 10) = false := byteT c 10 (by decide) x10
                  clear x10
                  by_cases hlt2 : i + 1 < n
                  · have d3 : decide ((i : Int) + 1 < (n : Int)) = true := by rw [decide_eq_true_iff]; omega
                    have hfll : (Fld.flushF word).length ≤ 1 := by unfold Fld.flushF; split <;> simp
                    have hl8 : (acc ++ Fld.flushF word).length ≤ 40000 := by rw [List.length_append]; omega
                    by_cases hw0 : word = []
                    · have ew : (B word).toList.isEmpty = true := by rw [toList_B, hw0]; rfl
                      have ew2 : (!(B word).toList.isEmpty) = false := by rw [ew]; rfl
                      have ew3 : word.isEmpty = true := by rw [hw0]; rfl
                      have ew4 : (!word.isEmpty) = false := by rw [ew3]; rfl
                      have hO8 : Hid (wr.ownsRow w.heap.size 9 1 u5 (acc ++ Fld.flushF word).length ((acc ++ Fld.flushF word).map fun t => Value.string (B t))) := by
                        rw [Fld.flushF, if_pos hw0, List.append_nil]; exact hO
                      have hB8 := hBe
                      clear hO hw0
                      go_wp2_with (at_builtin; go_loud (refine print_append_cells (w0 := w) (W := wr) w.heap.size rfl _ _ 22 9 (.string ⟨#[]⟩) 1 16 rfl Tryz.underlying22 infoStr rfl (by decide) (by decide) u5 ((acc ++ Fld.flushF word).length) _ [.string (B [c])] rfl rfl rfl (by intro u hu; rw [List.mem_singleton.1 hu]; rfl) hO8.out hB8.out hB8.out.size (by omega) ?_))
                      intro v9 w9 hown hbel _ _
                      have hO9 : Hid (w9.ownsRow w.heap.size 9 1 v9 ((acc ++ Fld.flushF word) ++ [[c]]).length (((acc ++ Fld.flushF word) ++ [[c]]).map fun t => Value.string (B t))) := by
                        show World.ownsRow _ _ _ _ _ _ _
                        simpa [Nat.add_assoc] using hown
                      have hB9 := Lib.hid hbel
                      clear hown hbel
                      go_wp2_with fail
                      go_roundg gk
                      case measure => omega
                      case rel => exact ⟨i + 1, by first | rfl | simp, by omega, .inl ⟨p ++ [c], r, [], acc ++ Fld.flushF word ++ [[c]], (by show _ = _; simp [hip.out]), (by show _ = _; simp [hsplit.out]), (by show _ = _; rw [← hT2.out]; simp), rfl, hO9, hB9, by simp; omega, by simp⟩⟩
                    · have ew : (B word).toList.isEmpty = false := by rw [toList_B]; cases hq : word with | nil => exact absurd hq hw0 | cons _ _ => rfl
                      have ew2 : (!(B word).toList.isEmpty) = true := by rw [ew]; rfl
                      have ew3 : word.isEmpty = false := by rw [toList_B] at ew; exact ew
                      have ew4 : (!word.isEmpty) = true := by rw [ew3]; rfl
                      have hfl : Hid (Fld.flushF word = [word]) := by show _ = _; rw [Fld.flushF, if_neg hw0]
                      clear hw0
                      go_wp2_with (at_builtin; go_loud (refine print_append_cells (w0 := w) (W := wr) w.heap.size rfl _ _ 22 9 (.string ⟨#[]⟩) 1 16 rfl Tryz.underlying22 infoStr rfl (by decide) (by decide) u5 (acc.length) _ [.string (B word)] rfl rfl rfl (by intro u hu; rw [List.mem_singleton.1 hu]; rfl) hO.out hBe.out hBe.out.size (by omega) ?_))
                      intro v8 w8 hown hbel _ _
                      have hO8 : Hid (w8.ownsRow w.heap.size 9 1 v8 (acc ++ [word]).length ((acc ++ [word]).map fun t => Value.string (B t))) := by
                        show World.ownsRow _ _ _ _ _ _ _
                        simpa [Nat.add_assoc] using hown
                      have hB8 := Lib.hid hbel
                      clear hown hbel
                      rw [← hfl.out] at hO8
                      go_wp2_with (at_builtin; go_loud (refine print_append_cells (w0 := w) (W := w8) w.heap.size rfl _ _ 22 9 (.string ⟨#[]⟩) 1 16 rfl Tryz.underlying22 infoStr rfl (by decide) (by decide) v8 ((acc ++ Fld.flushF word).length) _ [.string (B [c])] rfl rfl rfl (by intro u hu; rw [List.mem_singleton.1 hu]; rfl) hO8.out hB8.out hB8.out.size (by omega) ?_))
                      intro v9 w9 hown hbel _ _
                      have hO9 : Hid (w9.ownsRow w.heap.size 9 1 v9 ((acc ++ Fld.flushF word) ++ [[c]]).length (((acc ++ Fld.flushF word) ++ [[c]]).map fun t => Value.string (B t))) := by
                        show World.ownsRow _ _ _ _ _ _ _
                        simpa [Nat.add_assoc] using hown
                      have hB9 := Lib.hid hbel
                      clear hown hbel
                      go_wp2_with fail
                      go_roundg gk
                      case measure => omega
                      case rel => exact ⟨i + 1, by first | rfl | simp, by omega, .inl ⟨p ++ [c], r, [], acc ++ Fld.flushF word ++ [[c]], (by show _ = _; simp [hip.out]), (by show _ = _; simp [hsplit.out]), (by show _ = _; rw [← hT2.out]; simp), rfl, hO9, hB9, by simp; omega, by simp⟩⟩
                  · have d3 : decide ((i : Int) + 1 < (n : Int)) = false := by rw [decide_eq_false_iff_not]; omega
                    have hfll : (Fld.flushF word).length ≤ 1 := by unfold Fld.flushF; split <;> simp
                    have hl8 : (acc ++ Fld.flushF word).length ≤ 40000 := by rw [List.length_append]; omega
                    by_cases hw0 : word = []
                    · have ew : (B word).toList.isEmpty = true := by rw [toList_B, hw0]; rfl
                      have ew2 : (!(B word).toList.isEmpty) = false := by rw [ew]; rfl
                      have ew3 : word.isEmpty = true := by rw [hw0]; rfl
                      have ew4 : (!word.isEmpty) = false := by rw [ew3]; rfl
                      have hO8 : Hid (wr.ownsRow w.heap.size 9 1 u5 (acc ++ Fld.flushF word).length ((acc ++ Fld.flushF word).map fun t => Value.string (B t))) := by
                        rw [Fld.flushF, if_pos hw0, List.append_nil]; exact hO
                      have hB8 := hBe
                      clear hO hw0
                      go_wp2_with (at_builtin; go_loud (refine print_append_cells (w0 := w) (W := wr) w.heap.size rfl _ _ 22 9 (.string ⟨#[]⟩) 1 16 rfl Tryz.underlying22 infoStr rfl (by decide) (by decide) u5 ((acc ++ Fld.flushF word).length) _ [.string (B [c])] rfl rfl rfl (by intro u hu; rw [List.mem_singleton.1 hu]; rfl) hO8.out hB8.out hB8.out.size (by omega) ?_))
                      intro v9 w9 hown hbel _ _
                      have hO9 : Hid (w9.ownsRow w.heap.size 9 1 v9 ((acc ++ Fld.flushF word) ++ [[c]]).length (((acc ++ Fld.flushF word) ++ [[c]]).map fun t => Value.string (B t))) := by
                        show World.ownsRow _ _ _ _ _ _ _
                        simpa [Nat.add_assoc] using hown
                      have hB9 := Lib.hid hbel
                      clear hown hbel
                      go_wp2_with fail
                      go_roundg gk
                      case measure => omega
                      case rel => exact ⟨i + 1, by first | rfl | simp, by omega, .inl ⟨p ++ [c], r, [], acc ++ Fld.flushF word ++ [[c]], (by show _ = _; simp [hip.out]), (by show _ = _; simp [hsplit.out]), (by show _ = _; rw [← hT2.out]; simp), rfl, hO9, hB9, by simp; omega, by simp⟩⟩
                    · have ew : (B word).toList.isEmpty = false := by rw [toList_B]; cases hq : word with | nil => exact absurd hq hw0 | cons _ _ => rfl
                      have ew2 : (!(B word).toList.isEmpty) = true := by rw [ew]; rfl
                      have ew3 : word.isEmpty = false := by rw [toList_B] at ew; exact ew
                      have ew4 : (!word.isEmpty) = true := by rw [ew3]; rfl
                      have hfl : Hid (Fld.flushF word = [word]) := by show _ = _; rw [Fld.flushF, if_neg hw0]
                      clear hw0
                      go_wp2_with (at_builtin; go_loud (refine print_append_cells (w0 := w) (W := wr) w.heap.size rfl _ _ 22 9 (.string ⟨#[]⟩) 1 16 rfl Tryz.underlying22 infoStr rfl (by decide) (by decide) u5 (acc.length) _ [.string (B word)] rfl rfl rfl (by intro u hu; rw [List.mem_singleton.1 hu]; rfl) hO.out hBe.out hBe.out.size (by omega) ?_))
                      intro v8 w8 hown hbel _ _
                      have hO8 : Hid (w8.ownsRow w.heap.size 9 1 v8 (acc ++ [word]).length ((acc ++ [word]).map fun t => Value.string (B t))) := by
                        show World.ownsRow _ _ _ _ _ _ _
                        simpa [Nat.add_assoc] using hown
                      have hB8 := Lib.hid hbel
                      clear hown hbel
                      rw [← hfl.out] at hO8
                      go_wp2_with (at_builtin; go_loud (refine print_append_cells (w0 := w) (W := w8) w.heap.size rfl _ _ 22 9 (.string ⟨#[]⟩) 1 16 rfl Tryz.underlying22 infoStr rfl (by decide) (by decide) v8 ((acc ++ Fld.flushF word).length) _ [.string (B [c])] rfl rfl rfl (by intro u hu; rw [List.mem_singleton.1 hu]; rfl) hO8.out hB8.out hB8.out.size (by omega) ?_))
                      intro v9 w9 hown hbel _ _
                      have hO9 : Hid (w9.ownsRow w.heap.size 9 1 v9 ((acc ++ Fld.flushF word) ++ [[c]]).length (((acc ++ Fld.flushF word) ++ [[c]]).map fun t => Value.string (B t))) := by
                        show World.ownsRow _ _ _ _ _ _ _
                        simpa [Nat.add_assoc] using hown
                      have hB9 := Lib.hid hbel
                      clear hown hbel
                      go_wp2_with fail
                      go_roundg gk
                      case measure => omega
                      case rel => exact ⟨i + 1, by first | rfl | simp, by omega, .inl ⟨p ++ [c], r, [], acc ++ Fld.flushF word ++ [[c]], (by show _ = _; simp [hip.out]), (by show _ = _; simp [hsplit.out]), (by show _ = _; rw [← hT2.out]; simp), rfl, hO9, hB9, by simp; omega, by simp⟩⟩
                · obtain ⟨q10, r10⟩ : ((c.toNat : Int) == 10) = false ∧ ((c.toNat : Int) != 10) = true := byteF c 10 (by decide) x10
                  obtain ⟨q58, r58⟩ : ((c.toNat : Int) == 58) = true ∧ ((c.toNat : Int) != 58) = false := byteT c 58 (by decide) x58
                  clear x58
                  by_cases hlt2 : i + 1 < n
                  · have d3 : decide ((i : Int) + 1 < (n : Int)) = true := by rw [decide_eq_true_iff]; omega
                    have hfll : (Fld.flushF word).length ≤ 1 := by unfold Fld.flushF; split <;> simp
                    have hl8 : (acc ++ Fld.flushF word).length ≤ 40000 := by rw [List.length_append]; omega
                    by_cases hw0 : word = []
                    · have ew : (B word).toList.isEmpty = true := by rw [toList_B, hw0]; rfl
                      have ew2 : (!(B word).toList.isEmpty) = false := by rw [ew]; rfl
                      have ew3 : word.isEmpty = true := by rw [hw0]; rfl
                      have ew4 : (!word.isEmpty) = false := by rw [ew3]; rfl
                      have hO8 : Hid (wr.ownsRow w.heap.size 9 1 u5 (acc ++ Fld.flushF word).length ((acc ++ Fld.flushF word).map fun t => Value.string (B t))) := by
                        rw [Fld.flushF, if_pos hw0, List.append_nil]; exact hO
                      have hB8 := hBe
                      clear hO hw0
                      go_wp2_with (at_builtin; go_loud (refine print_append_cells (w0 := w) (W := wr) w.heap.size rfl _ _ 22 9 (.string ⟨#[]⟩) 1 16 rfl Tryz.underlying22 infoStr rfl (by decide) (by decide) u5 ((acc ++ Fld.flushF word).length) _ [.string (B [c])] rfl rfl rfl (by intro u hu; rw [List.mem_singleton.1 hu]; rfl) hO8.out hB8.out hB8.out.size (by omega) ?_))
                      intro v9 w9 hown hbel _ _
                      have hO9 : Hid (w9.ownsRow w.heap.size 9 1 v9 ((acc ++ Fld.flushF word) ++ [[c]]).length (((acc ++ Fld.flushF word) ++ [[c]]).map fun t => Value.string (B t))) := by
                        show World.ownsRow _ _ _ _ _ _ _
                        simpa [Nat.add_assoc] using hown
                      have hB9 := Lib.hid hbel
                      clear hown hbel
                      go_wp2_with fail
                      go_roundg gk
                      case measure => omega
                      case rel => exact ⟨i + 1, by first | rfl | simp, by omega, .inl ⟨p ++ [c], r, [], acc ++ Fld.flushF word ++ [[c]], (by show _ = _; simp [hip.out]), (by show _ = _; simp [hsplit.out]), (by show _ = _; rw [← hT2.out]; simp), rfl, hO9, hB9, by simp; omega, by simp⟩⟩
                    · have ew : (B word).toList.isEmpty = false := by rw [toList_B]; cases hq : word with | nil => exact absurd hq hw0 | cons _ _ => rfl
                      have ew2 : (!(B word).toList.isEmpty) = true := by rw [ew]; rfl
                      have ew3 : word.isEmpty = false := by rw [toList_B] at ew; exact ew
                      have ew4 : (!word.isEmpty) = true := by rw [ew3]; rfl
                      have hfl : Hid (Fld.flushF word = [word]) := by show _ = _; rw [Fld.flushF, if_neg hw0]
                      clear hw0
                      go_wp2_with (at_builtin; go_loud (refine print_append_cells (w0 := w) (W := wr) w.heap.size rfl _ _ 22 9 (.string ⟨#[]⟩) 1 16 rfl Tryz.underlying22 infoStr rfl (by decide) (by decide) u5 (acc.length) _ [.string (B word)] rfl rfl rfl (by intro u hu; rw [List.mem_singleton.1 hu]; rfl) hO.out hBe.out hBe.out.size (by omega) ?_))
                      intro v8 w8 hown hbel _ _
                      have hO8 : Hid (w8.ownsRow w.heap.size 9 1 v8 (acc ++ [word]).length ((acc ++ [word]).map fun t => Value.string (B t))) := by
                        show World.ownsRow _ _ _ _ _ _ _
                        simpa [Nat.add_assoc] using hown
                      have hB8 := Lib.hid hbel
                      clear hown hbel
                      rw [← hfl.out] at hO8
                      go_wp2_with (at_builtin; go_loud (refine print_append_cells (w0 := w) (W := w8) w.heap.size rfl _ _ 22 9 (.string ⟨#[]⟩) 1 16 rfl Tryz.underlying22 infoStr rfl (by decide) (by decide) v8 ((acc ++ Fld.flushF word).length) _ [.string (B [c])] rfl rfl rfl (by intro u hu; rw [List.mem_singleton.1 hu]; rfl) hO8.out hB8.out hB8.out.size (by omega) ?_))
                      intro v9 w9 hown hbel _ _
                      have hO9 : Hid (w9.ownsRow w.heap.size 9 1 v9 ((acc ++ Fld.flushF word) ++ [[c]]).length (((acc ++ Fld.flushF word) ++ [[c]]).map fun t => Value.string (B t))) := by
                        show World.ownsRow _ _ _ _ _ _ _
                        simpa [Nat.add_assoc] using hown
                      have hB9 := Lib.hid hbel
                      clear hown hbel
                      go_wp2_with fail
                      go_roundg gk
                      case measure => omega
                      case rel => exact ⟨i + 1, by first | rfl | simp, by omega, .inl ⟨p ++ [c], r, [], acc ++ Fld.flushF word ++ [[c]], (by show _ = _; simp [hip.out]), (by show _ = _; simp [hsplit.out]), (by show _ = _; rw [← hT2.out]; simp), rfl, hO9, hB9, by simp; omega, by simp⟩⟩
                  · have d3 : decide ((i : Int) + 1 < (n : Int)) = false := by rw [decide_eq_false_iff_not]; omega
                    have hfll : (Fld.flushF word).length ≤ 1 := by unfold Fld.flushF; split <;> simp
                    have hl8 : (acc ++ Fld.flushF word).length ≤ 40000 := by rw [List.length_append]; omega
                    by_cases hw0 : word = []
                    · have ew : (B word).toList.isEmpty = true := by rw [toList_B, hw0]; rfl
                      have ew2 : (!(B word).toList.isEmpty) = false := by rw [ew]; rfl
                      have ew3 : word.isEmpty = true := by rw [hw0]; rfl
                      have ew4 : (!word.isEmpty) = false := by rw [ew3]; rfl
                      have hO8 : Hid (wr.ownsRow w.heap.size 9 1 u5 (acc ++ Fld.flushF word).length ((acc ++ Fld.flushF word).map fun t => Value.string (B t))) := by
                        rw [Fld.flushF, if_pos hw0, List.append_nil]; exact hO
                      have hB8 := hBe
                      clear hO hw0
                      go_wp2_with (at_builtin; go_loud (refine print_append_cells (w0 := w) (W := wr) w.heap.size rfl _ _ 22 9 (.string ⟨#[]⟩) 1 16 rfl Tryz.underlying22 infoStr rfl (by decide) (by decide) u5 ((acc ++ Fld.flushF word).length) _ [.string (B [c])] rfl rfl rfl (by intro u hu; rw [List.mem_singleton.1 hu]; rfl) hO8.out hB8.out hB8.out.size (by omega) ?_))
                      intro v9 w9 hown hbel _ _
                      have hO9 : Hid (w9.ownsRow w.heap.size 9 1 v9 ((acc ++ Fld.flushF word) ++ [[c]]).length (((acc ++ Fld.flushF word) ++ [[c]]).map fun t => Value.string (B t))) := by
                        show World.ownsRow _ _ _ _ _ _ _
                        simpa [Nat.add_assoc] using hown
                      have hB9 := Lib.hid hbel
                      clear hown hbel
                      go_wp2_with fail
                      go_roundg gk
                      case measure => omega
                      case rel => exact ⟨i + 1, by first | rfl | simp, by omega, .inl ⟨p ++ [c], r, [], acc ++ Fld.flushF word ++ [[c]], (by show _ = _; simp [hip.out]), (by show _ = _; simp [hsplit.out]), (by show _ = _; rw [← hT2.out]; simp), rfl, hO9, hB9, by simp; omega, by simp⟩⟩
                    · have ew : (B word).toList.isEmpty = false := by rw [toList_B]; cases hq : word with | nil => exact absurd hq hw0 | cons _ _ => rfl
                      have ew2 : (!(B word).toList.isEmpty) = true := by rw [ew]; rfl
                      have ew3 : word.isEmpty = false := by rw [toList_B] at ew; exact ew
                      have ew4 : (!word.isEmpty) = true := by rw [ew3]; rfl
                      have hfl : Hid (Fld.flushF word = [word]) := by show _ = _; rw [Fld.flushF, if_neg hw0]
                      clear hw0
                      go_wp2_with (at_builtin; go_loud (refine print_append_cells (w0 := w) (W := wr) w.heap.size rfl _ _ 22 9 (.string ⟨#[]⟩) 1 16 rfl Tryz.underlying22 infoStr rfl (by decide) (by decide) u5 (acc.length) _ [.string (B word)] rfl rfl rfl (by intro u hu; rw [List.mem_singleton.1 hu]; rfl) hO.out hBe.out hBe.out.size (by omega) ?_))
                      intro v8 w8 hown hbel _ _
                      have hO8 : Hid (w8.ownsRow w.heap.size 9 1 v8 (acc ++ [word]).length ((acc ++ [word]).map fun t => Value.string (B t))) := by
                        show World.ownsRow _ _ _ _ _ _ _
                        simpa [Nat.add_assoc] using hown
                      have hB8 := Lib.hid hbel
                      clear hown hbel
                      rw [← hfl.out] at hO8
                      go_wp2_with (at_builtin; go_loud (refine print_append_cells (w0 := w) (W := w8) w.heap.size rfl _ _ 22 9 (.string ⟨#[]⟩) 1 16 rfl Tryz.underlying22 infoStr rfl (by decide) (by decide) v8 ((acc ++ Fld.flushF word).length) _ [.string (B [c])] rfl rfl rfl (by intro u hu; rw [List.mem_singleton.1 hu]; rfl) hO8.out hB8.out hB8.out.size (by omega) ?_))
                      intro v9 w9 hown hbel _ _
                      have hO9 : Hid (w9.ownsRow w.heap.size 9 1 v9 ((acc ++ Fld.flushF word) ++ [[c]]).length (((acc ++ Fld.flushF word) ++ [[c]]).map fun t => Value.string (B t))) := by
                        show World.ownsRow _ _ _ _ _ _ _
                        simpa [Nat.add_assoc] using hown
                      have hB9 := Lib.hid hbel
                      clear hown hbel
                      go_wp2_with fail
                      go_roundg gk
                      case measure => omega
                      case rel => exact ⟨i + 1, by first | rfl | simp, by omega, .inl ⟨p ++ [c], r, [], acc ++ Fld.flushF word ++ [[c]], (by show _ = _; simp [hip.out]), (by show _ = _; simp [hsplit.out]), (by show _ = _; rw [← hT2.out]; simp), rfl, hO9, hB9, by simp; omega, by simp⟩⟩
      case inr =>
        subst hi
        have d2 : decide (((n + 1 : Nat) : Int) ≤ (n : Int)) = false := by rw [decide_eq_false_iff_not]; omega
        have d2' : decide ((n : Int) + 1 ≤ (n : Int)) = false := by rw [decide_eq_false_iff_not]; omega
        have hOo := hO.out.2
        rcases hOo with ⟨hv, h0⟩ | ⟨g, cap, cur, hv, hg, hh, hmc, hcm, hcs, htk⟩
        · subst hv
          have hTT : TT = [] := List.length_eq_zero_iff.1 h0
          have hres : Hid (refL text = ([], [], false)) := by show _ = _; rw [hP.out, hTT]; rfl
          clear hO hT0 h0 hTT
          go_wp2_with fail
          go_loopg [9] 0 (fun gk s9 wq => s9 = .int .i64 0 ∧ wq = wr)
          case atStart => exact ⟨rfl, rfl⟩
          case round =>
            obtain ⟨rfl, hwq⟩ := hrel
            subst hwq
            go_wp2_with fail
            go_loopg [10] 0 (fun gk s10 wq => s10 = .int .i64 0 ∧ wq = wr)
            case atStart => exact ⟨rfl, rfl⟩
            case round =>
              obtain ⟨rfl, hwq⟩ := hrel
              subst hwq
              go_wp2_with fail
              go_ret3
              exact ref_bad hres.out hBe.out
        · subst hv
          obtain ⟨m, hm⟩ : ∃ m, TT.length = m := ⟨_, rfl⟩
          have hgl : g < wr.heap.size := (Array.getElem?_eq_some_iff.1 hh).1
          have hcl : Hid (∀ j t, TT[j]? = some t → wr.cell? ⟨g, j, none⟩ = some (.string (B t))) := by
            intro j t hj
            rw [cell_of_heap hh]
            have hjl := (List.getElem?_eq_some_iff.1 hj).1
            have h3 : (cur.toList.take (TT.length * 1))[j]? = some (.string (B t)) := by rw [htk, List.getElem?_map, hj]; rfl
            rw [List.getElem?_take_of_lt (by omega)] at h3
            simpa using h3
          rw [hm] at hmc hO hTn ⊢
          have hm63 : m ≤ 9223372036854775807 := by have := hcm; simp [maxLen] at this; omega
          clear hh hcs htk hg
          rcases nl_split TT with ⟨hM, a, ha⟩ | ⟨a, K, x, X, y, Y, hsp, hxX, hx, hyY, hy⟩
          · have hres : Hid (refL text = ([], [], false)) := by show _ = _; rw [hP.out, hM]; rfl
            obtain rfl : m = a := by rw [← hm, ha, List.length_replicate]
            have hcl2 : Hid (∀ j, j < m → wr.cell? ⟨g, j, none⟩ = some (.string (B [10]))) := fun j hj => hcl.out j [10] (by rw [ha, List.getElem?_replicate, if_pos hj])
            clear hM ha hcl hT0 hO
            go_wp2_with fail
            go_loopg [9] m (fun gk s9 wq => ∃ j : Nat, s9 = .int .i64 (j : Int) ∧ j + gk = m ∧ wr = wq)
            case atStart => exact ⟨0, rfl, Nat.zero_add _, rfl⟩
            case round =>
              obtain ⟨j, rfl, hjk, hwq⟩ := hrel
              subst hwq
              cases gk with
              | zero =>
                obtain rfl : m = j := by omega
                have e1 : decide ((m : Int) < (m : Int)) = false := by simp
                go_wp2_with fail
                go_loopg [10] 0 (fun gk s10 wq => s10 = .int .i64 (m : Int) ∧ wr = wq)
                case atStart => exact ⟨rfl, rfl⟩
                case round =>
                  obtain ⟨rfl, hwq⟩ := hrel
                  subst hwq
                  go_wp2_with fail
                  all_goals (go_ret3; exact ref_bad hres.out hBe.out)
              | succ gk =>
                have e1 : decide ((j : Int) < (m : Int)) = true := by rw [decide_eq_true_iff]; omega
                have c1 := hcl2.out j (by omega)
                have i1 : (0 : Int) ≤ (j : Int) := by omega
                have i2 : (j : Int) < (m : Int) := by omega
                go_wp2_with fail
                go_roundg gk
                case measure => omega
                case rel => exact ⟨j + 1, by first | rfl | simp, by omega, rfl⟩
          · obtain ⟨M, hMM⟩ : ∃ M, stripT TT = M := ⟨_, rfl⟩
            rw [hMM] at hsp hxX hyY
            have hP2 : Hid (refL text = refT M) := by show _ = _; rw [hP.out, hMM]
            obtain ⟨ml, hml⟩ : ∃ ml, M.length = ml := ⟨_, rfl⟩
            have hmz : m = a + ml + K := by rw [← hm, hsp]; simp [hml]; omega
            have hm1 : a + ml + K ≤ m := by omega
            have hm2 : m ≤ a + ml + K := by omega
            clear hmz
            have hml0 : 0 < ml := by rw [← hml, hxX]; simp
            have hMl : ∀ t ∈ M, t.length ≤ 20000 := fun t ht => hTL.out t (by rw [hsp]; simp [ht])
            have cL : Hid (∀ j, j < a → wr.cell? ⟨g, j, none⟩ = some (.string (B [10]))) := fun j hj => hcl.out j [10] (by rw [hsp, List.append_assoc, List.getElem?_append_left (by simpa using hj), List.getElem?_replicate, if_pos hj])
            have cM : Hid (∀ j (h : j < M.length), wr.cell? ⟨g, a + j, none⟩ = some (.string (B M[j]))) := fun j hj => hcl.out (a + j) M[j] (by
              rw [hsp, List.append_assoc, List.getElem?_append_right (by simp), List.length_replicate, Nat.add_sub_cancel_left, List.getElem?_append_left hj, List.getElem?_eq_getElem hj])
            have cR : Hid (∀ j, j < K → wr.cell? ⟨g, a + ml + j, none⟩ = some (.string (B [10]))) := fun j hj => hcl.out (a + ml + j) [10] (by
              rw [hsp, List.getElem?_append_right (by simp [hml]), List.length_append, List.length_replicate, hml, Nat.add_sub_cancel_left, List.getElem?_replicate, if_pos hj])
            have cx : wr.cell? ⟨g, a, none⟩ = some (.string (B x)) := by
              have h := cM.out 0 (by omega)
              rw [Nat.add_zero] at h
              rw [h]; simp [hxX]
            have cy : wr.cell? ⟨g, a + ml - 1, none⟩ = some (.string (B y)) := by
              have h := cM.out (ml - 1) (by omega)
              rw [show a + (ml - 1) = a + ml - 1 by omega] at h
              have hl : M.length = Y.length + 1 := by rw [hyY]; simp
              rw [h]
              simp only [hyY]
              rw [List.getElem_append_right (by omega)]
              simp
            have x10 : (x == [10]) = false := hx
            have y10 : (y == [10]) = false := hy
            have hMH := Lib.hid hMl
            have hlH := Lib.hid hml
            clear hsp hyY hx hy hcl hT0 hO hP hTL hMl hMM hml
            go_wp2_with fail
            go_loopg [9] a (fun gk s9 wq => ∃ j : Nat, s9 = .int .i64 (j : Int) ∧ j + gk = a ∧ wr = wq)
            case atStart => exact ⟨0, rfl, Nat.zero_add _, rfl⟩
            case round =>
              obtain ⟨j, rfl, hjk, hwq⟩ := hrel
              subst hwq
              have e1 : decide ((j : Int) < (m : Int)) = true := by rw [decide_eq_true_iff]; omega
              have i1 : (0 : Int) ≤ (j : Int) := by omega
              have i2 : (j : Int) < (m : Int) := by omega
              cases gk with
              | zero =>
                obtain rfl : a = j := by omega
                go_wp2_with fail
                go_loopg [10] K (fun gk s10 wq => s10 = .int .i64 ((a + ml + gk : Nat) : Int) ∧ gk ≤ K ∧ wr = wq)
                case atStart => exact ⟨by first | (congr 1; omega) | (simp; omega), Nat.le_refl _, rfl⟩
                case round =>
                  obtain ⟨rfl, hgK, hwq⟩ := hrel
                  subst hwq
                  have e2 : decide ((a : Int) < ((a + ml + gk : Nat) : Int)) = true := by rw [decide_eq_true_iff]; omega
                  obtain ⟨z, hz⟩ : ∃ z, a + ml + gk = z + 1 := ⟨a + ml + gk - 1, by omega⟩
                  have hzz : (((a + ml + gk : Nat) : Int)) = (z : Int) + 1 := by omega
                  rw [hzz] at e2
                  rw [hzz]
                  have hz1 : a + ml + gk ≤ z + 1 := by omega
                  have hz2 : z + 1 ≤ a + ml + gk := by omega
                  clear hz hzz
                  have i3 : (0 : Int) ≤ (z : Int) := by omega
                  have i4 : (z : Int) < (m : Int) := by omega
                  cases gk with
                  | zero =>
                    have cz : wr.cell? ⟨g, z, none⟩ = some (.string (B y)) := by rw [← cy]; congr 2; omega
                    have hzl : z + 1 - a = ml := by omega
                    have hlen : M.length = X.length + 1 := by rw [hxX]; rfl
                    have hXl : ml = X.length + 1 := by rw [← hlH.out]; exact hlen
                    clear cy cL cR hlen
                    cases X with
                    | nil =>
                      have l2 : decide ((ml : Int) < 2) = true := by rw [decide_eq_true_iff, hXl]; simp
                      have hres : Hid (refL text = ([], [], false)) := by show _ = _; rw [hP2.out, hxX]; rfl
                      clear hXl
                      go_wp2_with fail
                      go_ret3
                      exact ref_bad hres.out hBe.out
                    | cons b R =>
                      have l2 : decide ((ml : Int) < 2) = false := by rw [decide_eq_false_iff_not, hXl]; simp; omega
                      have i5 : (1 : Int) < (ml : Int) := by rw [hXl]; simp; omega
                      have i6 : (0 : Int) < (ml : Int) := by omega
                      have hR1 : ml ≤ R.length + 2 := by rw [hXl]; simp
                      have hR2 : R.length + 2 ≤ ml := by rw [hXl]; simp
                      have cb : wr.cell? ⟨g, a + 1, none⟩ = some (.string (B b)) := by
                        have h := cM.out 1 (by rw [hlH.out]; omega)
                        rw [h]; simp [hxX]
                      have cR : Hid (∀ j (h : j < R.length), wr.cell? ⟨g, a + (2 + j), none⟩ = some (.string (B R[j]))) := fun j hj => by
                        have h := cM.out (2 + j) (by rw [hlH.out]; omega)
                        rw [h]
                        simp only [hxX]
                        rw [List.getElem_cons, dif_neg (by omega)]
                        simp only [show 2 + j - 1 = j + 1 by omega, List.getElem_cons_succ]
                      have hxl := hMH.out x (by rw [hxX]; simp)
                      have hRL : Hid (∀ t ∈ R, t.length ≤ 20000) := fun t ht => hMH.out t (by rw [hxX]; simp [ht])
                      have hP3 : Hid (refL text = if x = [58] ∨ b ≠ [58] then ([], [], false) else if (cleanL x).2 ≠ 0 then ([], [], false) else ansR (cleanL x).1 (depsR R [])) := by
                        show _ = _; rw [hP2.out, hxX, refT]
                      clear hXl hP2 hxX hMH cM hlH
                      by_cases hx58 : x = [58]
                      · have x58 : (x == [58]) = true := by rw [hx58]; rfl
                        have hres : Hid (refL text = ([], [], false)) := by show _ = _; rw [hP3.out, if_pos (.inl hx58)]
                        clear hx58
                        go_wp2_with fail
                        go_ret3
                        exact ref_bad hres.out hBe.out
                      · have x58 : (x == [58]) = false := by rw [beq_eq_false_iff_ne]; exact hx58
                        by_cases hb58 : b = [58]
                        · have b58 : (b == [58]) = true := by rw [hb58]; rfl
                          have b58n : (b != [58]) = false := by rw [hb58]; rfl
                          have hP4 : Hid (refL text = if (cleanL x).2 ≠ 0 then ([], [], false) else ansR (cleanL x).1 (depsR R [])) := by
                            show _ = _; rw [hP3.out, if_neg (by rw [not_or, Classical.not_not]; exact ⟨hx58, hb58⟩)]
                          clear hx58 hb58 hP3
                          go_wp2_with fail
                          have hCo := Lib.hid (fun W => refClean_any x W)
                          have hP5 : Hid (refL text = if (cleanL x).2 ≠ 0 then ([], [], false) else ansR (cleanL x).1 (depsR R [])) := hP4.out
                          clear hP4
                          generalize cleanL x = co at *
                          obtain ⟨oc, oe⟩ := co
                          try simp only at hP5 hCo
                          refine (hCo.out _).mono ?_
                          rintro e w3 ⟨rfl, hb3⟩
                          have hB3 := Lib.hid (belowN hBe.out hb3)
                          have hg3 : g < w3.heap.size := Nat.lt_of_lt_of_le hgl hb3.size
                          have cR3 : Hid (∀ j (h : j < R.length), w3.cell? ⟨g, a + (2 + j), none⟩ = some (.string (B R[j]))) := fun j hj => (hb3.cell (p := ⟨g, a + (2 + j), none⟩) hgl).trans (cR.out j hj)
                          clear hb3 hCo cR
                          by_cases ho : oe = 0
                          case neg =>
                            have dd : (oe != 0) = true := by simpa using ho
                            have hres : Hid (refL text = ([], [], false)) := by show _ = _; rw [hP5.out, if_pos ho]
                            go_wp2_with fail
                            go_ret3
                            exact ref_bad hres.out hB3.out
                          case pos =>
                            subst ho
                            obtain ⟨RR, hRR⟩ : ∃ RR, depsR R [] = RR := ⟨_, rfl⟩
                            have hPR : Hid (refL text = ansR oc RR) := by show _ = _; rw [hP5.out, if_neg (by simp), hRR]
                            have hDR := Lib.hid hRR
                            obtain ⟨rl, hrl⟩ : ∃ rl, R.length = rl := ⟨_, rfl⟩
                            rw [hrl] at hR1 hR2
                            have hrH := Lib.hid hrl
                            have hrl4 : rl + 2 ≤ 9223372036854775807 := by omega
                            clear hP5 hRR hrl
                            have hw3s := hB3.out.size
                            go_wp2_with fail
                            go_loopg [13, 14] rl (fun gk s13 s14 wq => ∃ (j : Nat) (acc : List Txt), s14 = .int .i64 ((2 + j : Nat) : Int) ∧ j + gk = rl ∧ Hid (depsR (R.drop j) acc = RR) ∧
                              Hid (wq.ownsRow w3.heap.size 9 1 s13 acc.length (acc.map fun x => Value.string (B x))) ∧ Hid (Below w3.heap.size w3 wq) ∧ acc.length ≤ j)
                            case atStart => exact ⟨0, [], rfl, Nat.zero_add _, hDR, own_nil _ _ _ _, Below.refl _ _, Nat.le_refl _⟩
                            case round =>
                              obtain ⟨w4, hw4⟩ : ∃ x, x = wr := ⟨_, rfl⟩
                              subst hw4
                              obtain ⟨j, acc, rfl, hjk, hG, hO, hB4, haj⟩ := hrel
                              cases gk with
                              | zero =>
                                obtain rfl : rl = j := by omega
                                have hfin : Hid (refL text = (oc, acc, true)) := by
                                  have : RR = some acc := by rw [← hG.out, ← hrH.out, List.drop_length]; rfl
                                  show _ = _
                                  rw [hPR.out, this]; rfl
                                have e3 : decide (((2 + rl : Nat) : Int) < (ml : Int)) = false := by rw [decide_eq_false_iff_not]; omega
                                obtain ⟨z2, hz2⟩ : ∃ z2, 2 + rl = z2 := ⟨_, rfl⟩
                                have hz6 : ml ≤ z2 := by omega
                                rw [hz2] at e3 ⊢
                                have e4 : (z2 < ml) = False := eq_false (by omega)
                                have e5 : ¬ z2 < ml := by omega
                                clear hz2
                                go_wp2_with fail
                                go_ret3
                                refine ⟨belowN hB3.out hB4.out, u13, ?_, ?_⟩
                                · rw [hfin.out]; rfl
                                · rw [hfin.out]
                                  exact Kd.R_lower (Kd.R_of_own (enc := Value.string) (by simpa [encs, Function.comp_def] using hO.out) (fun _ _ => trivial)) hw3s
                              | succ gk =>
                                have hjn : j < R.length := by rw [hrH.out]; omega
                                obtain ⟨p, hp⟩ : ∃ p, R[j] = p := ⟨_, rfl⟩
                                have hdr : R.drop j = p :: R.drop (j + 1) := by rw [List.drop_eq_getElem_cons hjn, hp]
                                have e3 : decide (((2 + j : Nat) : Int) < (ml : Int)) = true := by rw [decide_eq_true_iff]; omega
                                have i7 : (0 : Int) ≤ ((2 + j : Nat) : Int) := by omega
                                have i8 : ((2 + j : Nat) : Int) < (ml : Int) := by omega
                                have cp : w4.cell? ⟨g, a + (2 + j), none⟩ = some (.string (B p)) := by
                                  rw [hB4.out.cell (p := ⟨g, a + (2 + j), none⟩) hg3, cR3.out j hjn, hp]
                                have hG2 : Hid ((if p = [58] ∨ p = [10] ∨ (cleanL p).2 ≠ 0 then none else if (cleanL p).1 ∈ acc then depsR (R.drop (j + 1)) acc else depsR (R.drop (j + 1)) (acc ++ [(cleanL p).1])) = RR) := by
                                  show _ = _
                                  rw [← hG.out, hdr, depsR]
                                have hCp := Lib.hid (fun W => refClean_any p W)
                                have hcp := clean_len p
                                clear hG hdr hp
                                generalize cleanL p = cq at *
                                obtain ⟨c, e⟩ := cq
                                try simp only at hG2 hCp hcp
                                obtain ⟨z2, hz2⟩ : ∃ z2, 2 + j = z2 := ⟨_, rfl⟩
                                have hz3 := Lib.hid hz2
                                have hz4 : z2 ≤ 2 + j := by omega
                                have hz5 : 2 + j ≤ z2 := by omega
                                rw [hz2] at e3 i7 i8 cp ⊢
                                clear hz2
                                go_wp2_with fail
                                refine (hCp.out _).mono ?_
                                rintro e w5 ⟨rfl, hb5⟩
                                have hB5 := Lib.hid (belowN hB4.out hb5)
                                have hO5 := Lib.hid (pw_own_below hO.out hb5)
                                have hg4 : g < w4.heap.size := Nat.lt_of_lt_of_le hg3 hB4.out.size
                                have cp5 := (hb5.cell (p := ⟨g, a + z2, none⟩) hg4).trans cp
                                clear hb5 cp hO hB4
                                by_cases hp58 : p = [58]
                                · have p58 : (p == [58]) = true := by rw [hp58]; rfl
                                  have hres : Hid (refL text = ([], [], false)) := by show _ = _; rw [hPR.out, ← hG2.out, if_pos (.inl hp58)]; rfl
                                  clear hp58 hG2
                                  go_wp2_with fail
                                  go_ret3
                                  exact ref_bad hres.out (belowN hB3.out hB5.out)
                                · have p58 : (p == [58]) = false := by rw [beq_eq_false_iff_ne]; exact hp58
                                  by_cases hp10 : p = [10]
                                  · have p10 : (p == [10]) = true := by rw [hp10]; rfl
                                    have hres : Hid (refL text = ([], [], false)) := by show _ = _; rw [hPR.out, ← hG2.out, if_pos (.inr (.inl hp10))]; rfl
                                    clear hp58 hp10 hG2
                                    go_wp2_with fail
                                    go_ret3
                                    exact ref_bad hres.out (belowN hB3.out hB5.out)
                                  · have p10 : (p == [10]) = false := by rw [beq_eq_false_iff_ne]; exact hp10
                                    by_cases he0 : e = 0
                                    case neg =>
                                      have dd : (e != 0) = true := by simpa using he0
                                      have hres : Hid (refL text = ([], [], false)) := by show _ = _; rw [hPR.out, ← hG2.out, if_pos (.inr (.inr he0))]; rfl
                                      clear hp58 hp10 hG2
                                      go_wp2_with fail
                                      go_ret3
                                      exact ref_bad hres.out (belowN hB3.out hB5.out)
                                    case pos =>
                                      subst he0
                                      have hng : ¬ (p = [58] ∨ p = [10] ∨ (0 : Int) ≠ 0) := by rw [not_or, not_or]; exact ⟨hp58, hp10, by simp⟩
                                      have hG3 : Hid ((if c ∈ acc then depsR (R.drop (j + 1)) acc else depsR (R.drop (j + 1)) (acc ++ [c])) = RR) := by
                                        show _ = _
                                        rw [← hG2.out, if_neg hng]
                                      have hrl20 : acc.length < 100000 := by have := hTn.out; omega
                                      have hIn := Lib.hid (In_any acc c hrl20 u13 w3.heap.size 9 w5 hO5.out)
                                      clear hp58 hp10 hG2
                                      go_wp2_with fail
                                      refine (hIn.out).mono ?_
                                      rintro e w6 ⟨rfl, hb6⟩
                                      have hB6 := Lib.hid (belowN hB5.out hb6)
                                      have hO6 := Lib.hid (pw_own_below hO5.out hb6)
                                      clear hb6 hIn
                                      by_cases hmem : c ∈ acc
                                      · have hG4 : Hid (depsR (R.drop (j + 1)) acc = RR) := by show _ = _; rw [← hG3.out, if_pos hmem]
                                        rw [decide_eq_true hmem]
                                        clear hmem
                                        go_wp2_with fail
                                        go_roundg gk
                                        case measure => omega
                                        case rel => exact ⟨j + 1, acc, by first | rfl | (congr 1; omega) | (simp; omega), by omega, hG4, hO6, hB6, by omega⟩
                                      · have hG4 : Hid (depsR (R.drop (j + 1)) (acc ++ [c]) = RR) := by show _ = _; rw [← hG3.out, if_neg hmem]
                                        rw [decide_eq_false hmem]
                                        clear hmem
                                        go_wp2_with (at_builtin; go_loud (refine print_append_cells (w0 := w3) (W := w6) w3.heap.size rfl _ _ 22 9 (.string ⟨#[]⟩) 1 16 rfl Tryz.underlying22 infoStr rfl (by decide) (by decide) u13 acc.length _ [.string (B c)] rfl rfl rfl (by intro u hu; rw [List.mem_singleton.1 hu]; rfl) hO6.out hB6.out hB6.out.size (by omega) ?_))
                                        intro v7 w7 hown hb7 _ _
                                        have hO7 : Hid (w7.ownsRow w3.heap.size 9 1 v7 (acc ++ [c]).length ((acc ++ [c]).map fun x => Value.string (B x))) := by
                                          show World.ownsRow _ _ _ _ _ _ _
                                          simpa using hown
                                        have hB7 := Lib.hid hb7
                                        clear hown hb7
                                        go_wp2_with fail
                                        go_roundg gk
                                        case measure => omega
                                        case rel => exact ⟨j + 1, acc ++ [c], by first | rfl | (congr 1; omega) | (simp; omega), by omega, hG4, hO7, hB7, by simp; omega⟩
                        · have b58 : (b == [58]) = false := by rw [beq_eq_false_iff_ne]; exact hb58
                          have b58n : (b != [58]) = true := by rw [bne, b58]; rfl
                          have hres : Hid (refL text = ([], [], false)) := by show _ = _; rw [hP3.out, if_pos (.inr hb58)]
                          clear hx58 hb58
                          go_wp2_with fail
                          go_ret3
                          exact ref_bad hres.out hBe.out
                  | succ gk =>
                    have cz : wr.cell? ⟨g, z, none⟩ = some (.string (B [10])) := by rw [← cR.out gk (by omega)]; congr 2; omega
                    go_wp2_with fail
                    go_roundg gk
                    case measure => omega
                    case rel => exact ⟨by congr 1; omega, by omega, rfl⟩
              | succ gk =>
                have c1 := cL.out j (by omega)
                go_wp2_with fail
                go_roundg gk
                case measure => omega
                case rel => exact ⟨j + 1, by first | rfl | simp, by omega, rfl⟩
def bellowsref14_Parse.f (a0 : ByteArray) : Option (ByteArray × List ByteArray × Bool) := some (B (refL a0.data.toList).1, (refL a0.data.toList).2.1.map B, (refL a0.data.toList).2.2)
theorem bellowsref14_Parse.calls (a0 : ByteArray) (r1 : ByteArray) (r2 : List ByteArray) (r3 : Bool) (w : World) (h : bellowsref14_Parse.f a0 = some (r1, r2, r3)) :
    Calls Tryz.prog 9 #[.string a0] w fun e w' => ∃ v0_ : Value, e = .returned (.tuple #[.string r1, v0_, .bool r3]) ∧ Kd.R Kd.string 9 w' w.heap.size (fun _ => True) v0_ r2 ∧ Below w.heap.size w w' := by
  have h' := Option.some.inj h
  have e1 : B (refL a0.data.toList).1 = r1 := congrArg (·.1) h'
  have e2 : (refL a0.data.toList).2.1.map B = r2 := congrArg (·.2.1) h'
  have e3 : (refL a0.data.toList).2.2 = r3 := congrArg (·.2.2) h'
  have := RefParse_any a0.data.toList w
  rw [← B_of] at this
  refine this.mono ?_
  rintro e w' ⟨hb, v, rfl, hR⟩
  subst e1 e2 e3
  exact ⟨v, rfl, hR, hb⟩
end Go.Proofs.YtbklhcjcgiblkaaGreatDoor.P
end
section
set_option linter.unusedSimpArgs false
set_option linter.unusedVariables false
namespace Go.Proofs.YtbklhcjcgiblkaaGreatDoor.Ck
open Go.RowKit Go.Lib Go.Shelf Go.Maps Go.ChangeShapes Go.WideShapes Go.Proofs.YtbklhcjcgiblkaaGreatDoorW.PrintWords Go.Proofs.YtbklhcjcgiblkaaGreatDoorW.PrintLast Go.Proofs.YtbklhcjcgiblkaaGreatDoorW.PrintMore Go.Proofs.YtbklhcjcgiblkaaGreatDoor.U Go.Proofs.YtbklhcjcgiblkaaGreatDoor.P Go.Proofs.YtbklhcjcgiblkaaGreatDoor.PTh Go.Proofs.YtbklhcjcgiblkaaGreatDoor.MapV
open Go.Proofs.YtbklhcjcgiblkaaGreatDoor.Fld (fieldsT)
section
variable {P : Program} {ops : Array Oper} {o : Oper} {a : Act} {Q : Exit → Act → World → Prop} {K : Act → World → Prop}
theorem step_append_at {w0 W : World} (base : Nat) (hw : Region.wanted o (yielded ops a.tmps) = true) (s x : Operand) (t e : TypeId) (z : Value) (size bytes : Nat)
    (ho : o.op = .call { callee := .builtin .append, args := #[s, x], argTypes := #[t, t] })
    (ht : P.underlying t = some (.slice e)) (hinfo : (P.info? e).map (fun i => (i.zero, i.size, i.bytes)) = some (some z, size, bytes)) (hz : z.cells.size = size) (hs0 : 0 < size) (hb0 : 0 < bytes)
    (v : Value) (n : Nat) (xs ys : List Value) (p : Nat) (hs : a.eval s = v) (hx : a.eval x = .slice (some ⟨p, 0, none⟩) 1 1) (hys : ys.length = size) (h1 : ∀ u ∈ ys, u.oneCell' = true)
    (hp : W.heap[p]? = some (.cells ys.toArray e (0, 0))) (HO : W.ownsRow base e size v n xs) (HB : Below base w0 W) (hbase : base ≤ W.heap.size) (hl : (n + 1) * bytes ≤ 140737488355328)
    (h : ∀ v1 w1, w1.ownsRow base e size v1 (n + 1) (xs ++ ys) → Below base w0 w1 → W.grownBy w1 v.ownBlock → (v1.ownBlock = v.ownBlock ∨ ∃ b, v1.ownBlock = some b ∧ W.heap.size ≤ b) → K (a.put o.dst v1) w1) :
    if Region.wanted o (yielded ops a.tmps) = true then Oper.wp P o a W K Q else K (a.put o.dst undef) W := by
  obtain ⟨i0, hi, hzz⟩ := Option.map_eq_some_iff.1 hinfo
  simp only [Prod.mk.injEq] at hzz
  obtain ⟨hz0, hz1, hz2⟩ := hzz
  have hlen : n + 1 ≤ 140737488355328 := Nat.le_trans (Nat.le_mul_of_pos_right _ hb0) hl
  rw [if_pos hw]
  obtain ⟨v1, w1, hr, hown, hg, _, hat⟩ := run_append_own_at (P := P) W base t o.type e i0 z size bytes ht hi hz0 hz1 hz2 hz hs0 v n xs HO ⟨p, 0, none⟩ 1 1 ys (by rw [hys]; simp)
    (by simpa using World.news_of_block (cs := ys.toArray) (t := e) (fr := (0, 0)) hp) h1 (by simp only [maxLen]; omega) hl hbase
  unfold Oper.wp execOp
  simp only [ho, resolve, invoke, builtin, Sem.run_bind, Sem.run_pure, Result.andThen_ok, List.map_toArray, List.map_cons, List.map_nil, hs, hx, hr]
  refine h v1 w1 hown (HB.grown hg hbase (own_base HO)) hg ?_
  rcases hat with hat | hat
  · exact .inl hat
  · exact .inr ⟨_, hat, Nat.le_refl _⟩
end
structure Ent where
  f : FileL
  A : Option Addr
  c : Nat
def ecells : List Ent → List Value
  | [] => []
  | x :: l => [.string (B x.f.n), .slice x.A x.f.b.length x.c] ++ ecells l
theorem ecells_len : ∀ l : List Ent, (ecells l).length = l.length * 2
  | [] => rfl
  | x :: l => by simp only [ecells, List.length_append, ecells_len l, List.length_cons, List.length_nil]; omega
theorem ecells_append (x : Ent) : ∀ l : List Ent, ecells (l ++ [x]) = ecells l ++ [.string (B x.f.n), .slice x.A x.f.b.length x.c]
  | [] => rfl
  | y :: l => by simp only [List.cons_append, ecells, ecells_append x l, List.append_assoc]
theorem ecells_at : ∀ (l : List Ent) (j : Nat) (h : j < l.length), ((ecells l).drop (j * 2)).take 2 = [.string (B l[j].f.n), .slice l[j].A l[j].f.b.length l[j].c]
  | [], j, h => absurd h (by simp)
  | x :: l, 0, h => by simp [ecells]
  | x :: l, j + 1, h => by
    have := ecells_at l j (by simpa using h)
    simp only [List.getElem_cons_succ]
    rw [← this, ecells, show (j + 1) * 2 = 2 + j * 2 by omega, ← List.drop_drop]
    rfl
def Reads (w : World) (l : List Ent) : Prop := ∀ x ∈ l, x.f.b.length ≤ x.c ∧ (Kd.int .u8).C w x.A x.f.b.length (ints x.f.b)
theorem Reads.below {w w' : World} {l : List Ent} (h : Reads w l) (hb : Below w.heap.size w w') : Reads w' l := fun x hx => ⟨(h x hx).1, Kd.C_below (h x hx).2 hb⟩
theorem Reads.push {w : World} {l : List Ent} {x : Ent} (h : Reads w l) (h1 : x.f.b.length ≤ x.c) (h2 : (Kd.int .u8).C w x.A x.f.b.length (ints x.f.b)) : Reads w (l ++ [x]) := fun y hy => by
  rcases List.mem_append.1 hy with hy | hy
  · exact h y hy
  · rw [List.mem_singleton.1 hy]; exact ⟨h1, h2⟩
abbrev GF : TypeId := 41
theorem ents_C {w : World} {base : Nat} {v : Value} {l : List Ent} (h : w.ownsRow base GF 2 v l.length (ecells l)) (hr : Reads w l) : ∃ A c, v = .slice A (l.map Ent.f).length c ∧ (l.map Ent.f).length ≤ c ∧ Kd.C KG w A ((l.map Ent.f).map toG).length ((l.map Ent.f).map toG) := by
  obtain ⟨A, c, e, hl, hC⟩ := OwnRow.reads (R := KG.K w) (e := GF) (base := base) (v := v) (ps := (l.map Ent.f).map toG) ⟨ecells l, by rw [List.length_map, List.length_map]; exact h, by rw [ecells_len, List.length_map, List.length_map], fun j p hp => by
    rw [List.getElem?_map, List.getElem?_map] at hp
    obtain ⟨y, hy, rfl⟩ := Option.map_eq_some_iff.1 hp
    obtain ⟨x, hx, rfl⟩ := Option.map_eq_some_iff.1 hy
    obtain ⟨hj, rfl⟩ := List.getElem?_eq_some_iff.1 hx
    have := ecells_at l j hj
    rw [this]
    obtain ⟨r1, r2⟩ := hr l[j] (List.getElem_mem hj)
    have hl : (toG l[j].f).f1.length = l[j].f.b.length := ints_len _
    have := k41_mk w (toG l[j].f) (A1 := l[j].A) (c1 := l[j].c) (by rw [hl]; exact r1) (by rw [hl]; exact r2)
    rw [hl] at this
    exact this⟩
  rw [List.length_map] at e hl
  exact ⟨A, c, e, hl, hC⟩
structure Two (Wb X : World) (vs : Value) (sl : List Ent) (vt : Value) (tl : List Ent) : Prop where
  s : X.ownsRow Wb.heap.size GF 2 vs sl.length (ecells sl)
  t : X.ownsRow Wb.heap.size GF 2 vt tl.length (ecells tl)
  ap : ∀ k, vs.ownBlock = some k → vt.ownBlock = some k → False
  b : Below Wb.heap.size Wb X
theorem Two.below {Wb X Y : World} {vs vt : Value} {sl tl : List Ent} (h : Two Wb X vs sl vt tl) (hb : Below X.heap.size X Y) : Two Wb Y vs sl vt tl :=
  ⟨own_move h.s (fun k e => hb.block k (own_lt h.s k e)), own_move h.t (fun k e => hb.block k (own_lt h.t k e)), h.ap, h.b.trans (hb.mono h.b.size)⟩
theorem Two.pushS {Wb X Y : World} {vs vt v1 : Value} {sl tl : List Ent} {x : Ent} (h : Two Wb X vs sl vt tl) (ho : Y.ownsRow Wb.heap.size GF 2 v1 (sl.length + 1) (ecells sl ++ [.string (B x.f.n), .slice x.A x.f.b.length x.c])) (hb : Below Wb.heap.size Wb Y) (hg : X.grownBy Y vs.ownBlock)
    (hf : v1.ownBlock = vs.ownBlock ∨ ∃ b, v1.ownBlock = some b ∧ X.heap.size ≤ b) : Two Wb Y v1 (sl ++ [x]) vt tl := by
  refine ⟨?_, own_move h.t (fun k e => hg.block k (own_lt h.t k e) (fun e2 => h.ap k e2.symm e)), fun k e1 e2 => ?_, hb⟩
  · rw [ecells_append, List.length_append, List.length_singleton]; exact ho
  · rcases hf with hf | ⟨b, hf, hb⟩
    · rw [hf] at e1; exact h.ap k e1 e2
    · rw [hf] at e1; injection e1 with e1; subst e1
      have := own_lt h.t _ e2
      omega
theorem Two.pushT {Wb X Y : World} {vs vt v1 : Value} {sl tl : List Ent} {x : Ent} (h : Two Wb X vs sl vt tl) (ho : Y.ownsRow Wb.heap.size GF 2 v1 (tl.length + 1) (ecells tl ++ [.string (B x.f.n), .slice x.A x.f.b.length x.c])) (hb : Below Wb.heap.size Wb Y) (hg : X.grownBy Y vt.ownBlock)
    (hf : v1.ownBlock = vt.ownBlock ∨ ∃ b, v1.ownBlock = some b ∧ X.heap.size ≤ b) : Two Wb Y vs sl v1 (tl ++ [x]) := by
  refine ⟨own_move h.s (fun k e => hg.block k (own_lt h.s k e) (fun e2 => h.ap k e e2.symm)), ?_, fun k e1 e2 => ?_, hb⟩
  · rw [ecells_append, List.length_append, List.length_singleton]; exact ho
  · rcases hf with hf | ⟨b, hf, hb⟩
    · rw [hf] at e2; exact h.ap k e1 e2
    · rw [hf] at e2; injection e2 with e2; subst e2
      have := own_lt h.s _ e1
      omega
theorem row_form {w : World} {base : Nat} {e : TypeId} {size n : Nat} {v : Value} {xs : List Value} (h : w.ownsRow base e size v n xs) : ∃ A c, v = .slice A n c := by
  rcases h.2 with ⟨e, hz⟩ | ⟨g, cap, cur, e, _⟩
  · exact ⟨none, 0, by rw [e, hz]⟩
  · exact ⟨_, _, e⟩
set_option maxRecDepth 100000 in
set_option maxHeartbeats 8000000 in
theorem sameD_any (names : List Txt) (b : Txt) (once : Bool) (dep deps : Txt) (A0 A1 : Option Addr) (c0 c1 : Nat) (w : World) (hn : names.length < 100000) (h0 : Kd.C KF w A0 (names.map fun n => toF ⟨n, b⟩).length (names.map fun n => toF ⟨n, b⟩)) (h1 : Kd.C KG w A1 (names.map fun n => toG ⟨n, b⟩).length (names.map fun n => toG ⟨n, b⟩)) :
    Calls Tryz.prog 12 #[.agg #[.slice A0 names.length c0, .bool once, .string (B dep), .string (B deps)], .agg #[.slice A1 names.length c1, .bool once, .string (B dep), .string (B deps)]] w fun e w' => e = .returned (.bool true) ∧ Below w.heap.size w w' := by
  have h0H := Lib.hid h0
  have h1H := Lib.hid h1
  obtain ⟨n, hn'⟩ : ∃ n, names.length = n := ⟨_, rfl⟩
  have hnH := Lib.hid hn'
  rw [hn'] at hn ⊢
  clear h0 h1 hn'
  obtain ⟨w2, hw2⟩ : ∃ x, (w.alloc (.cells #[.slice A0 n c0, .bool once, .string (B dep), .string (B deps)] 30)).alloc (.cells #[.slice A1 n c1, .bool once, .string (B dep), .string (B deps)] 43) = x := ⟨_, rfl⟩
  have hb1 : Below w.heap.size w (w.alloc (.cells #[.slice A0 n c0, .bool once, .string (B dep), .string (B deps)] 30)) := (Below.refl _ _).alloc (Nat.le_refl _) _
  have hb2 : Below w.heap.size w w2 := by rw [← hw2]; exact hb1.alloc hb1.size _
  have n0 := heap_alloc_new w (.cells #[.slice A0 n c0, .bool once, .string (B dep), .string (B deps)] 30)
  have n1 := heap_alloc_new (w.alloc (.cells #[.slice A0 n c0, .bool once, .string (B dep), .string (B deps)] 30)) (.cells #[.slice A1 n c1, .bool once, .string (B dep), .string (B deps)] 43)
  rw [World.size_alloc, hw2] at n1
  have n2 : w2.heap[w.heap.size]? = some (.cells #[.slice A0 n c0, .bool once, .string (B dep), .string (B deps)] 30 (0, 0)) := by
    rw [← hw2]; exact ((((Below.refl _ _).alloc (Nat.le_refl _) _).block _ (Array.getElem?_eq_some_iff.1 n0).1)).trans n0
  have hB2 := Lib.hid hb2
  have hN1 := Lib.hid n1
  have hN2 := Lib.hid n2
  have hw2H := Lib.hid hw2
  clear n0 n1 n2 hb1 hb2 hw2
  go_enter Tryz.func12, Tryz.ntmps12
  go_upto_region 1 with (fail)
  rw [hw2H.out]
  have x0 := (cell_of_heap (j := 0) hN2.out).trans rfl
  have x1 := (cell_of_heap (j := 1) hN2.out).trans rfl
  have x2 := (cell_of_heap (j := 2) hN2.out).trans rfl
  have x3 := (cell_of_heap (j := 3) hN2.out).trans rfl
  have y0 := (cell_of_heap (j := 0) hN1.out).trans rfl
  have y1 := (cell_of_heap (j := 1) hN1.out).trans rfl
  have y2 := (cell_of_heap (j := 2) hN1.out).trans rfl
  have y3 := (cell_of_heap (j := 3) hN1.out).trans rfl
  go_wp2_with fail
  clear x0 x1 x2 x3 y0 y1 y2 y3
  go_loopg [5] n (fun gk s5 wr => ∃ i : Nat, s5 = .int .i64 (i : Int) ∧ i + gk = n ∧ Hid (Below w2.heap.size w2 wr))
  case atStart => exact ⟨0, rfl, by omega, Below.refl _ _⟩
  case round =>
    obtain ⟨i, rfl, hik, hB⟩ := hrel
    have hx := Lib.hid ((hB.out.block _ (Array.getElem?_eq_some_iff.1 hN2.out).1).trans hN2.out)
    have hy := Lib.hid ((hB.out.block _ (Array.getElem?_eq_some_iff.1 hN1.out).1).trans hN1.out)
    have hBw : Hid (Below w.heap.size w wr) := hB2.out.trans (hB.out.mono hB2.out.size)
    have y0 := (cell_of_heap (j := 0) hy.out).trans rfl
    cases gk with
    | zero =>
      obtain rfl : n = i := by omega
      have hlt : decide ((n : Int) < (n : Int)) = false := by simp
      go_wp2_with fail
      go_ret
      exact ⟨rfl, hBw.out⟩
    | succ gk =>
      have hiN : i < (names.map fun n => (⟨n, b⟩ : FileL)).length := by rw [List.length_map, hnH.out]; omega
      have hlt : decide ((i : Int) < (n : Int)) = true := by rw [decide_eq_true_iff]; omega
      have hi0 : (0 : Int) ≤ (i : Int) := by omega
      have hi1 : (i : Int) < (n : Int) := by omega
      have hi2 : i < n := by omega
      have hwr : IntKind.i64.wrap ((i : Int) + 1) = (i : Int) + 1 := by rw [IntKind.wrap_i64]; omega
      have hBd : Below w.heap.size w wr.drew := hBw.out.drew
      obtain ⟨ad, Ai, ci, hA0, p0, p1, _, g1⟩ := file_at (fs := names.map fun n => ⟨n, b⟩) (by rw [List.map_map]; exact Kd.C_below h0H.out hBd) i hiN
      obtain ⟨bd, Bi, di, hA1, q0, q1, _, g2⟩ := gfile_at (fs := names.map fun n => ⟨n, b⟩) (by rw [List.map_map]; exact Kd.C_below h1H.out hBd) i hiN
      rw [List.getElem_map] at p0 p1 g1 q0 q1 g2
      subst hA0 hA1
      have cv1 := conv_txt (c := ci) g1
      have cv2 := conv_txt (c := di) g2
      obtain ⟨lb, hlb⟩ : ∃ x, b.length = x := ⟨_, rfl⟩
      dsimp only at p0 p1 q0 q1 cv1 cv2
      rw [hlb] at p1 q1 cv1 cv2
      obtain ⟨nm, hnm⟩ : ∃ x, names[i]'(by rw [hnH.out]; exact hi2) = x := ⟨_, rfl⟩
      rw [hnm] at p0 q0
      have hS0 : Hid (wr.drew.cell? ⟨w.heap.size, 0, none⟩ = some (.slice (some ad) n c0) ∧ wr.drew.cell? ⟨w.heap.size + 1, 0, none⟩ = some (.slice (some bd) n c1) ∧ wr.drew.cell? (ad.add (i * 2)) = some (.string (B nm)) ∧ wr.drew.cell? ⟨(ad.add (i * 2)).block, (ad.add (i * 2)).off + 1, none⟩ = some (.slice Ai lb ci) ∧ wr.drew.cell? (bd.add (i * 2)) = some (.string (B nm)) ∧ wr.drew.cell? ⟨(bd.add (i * 2)).block, (bd.add (i * 2)).off + 1, none⟩ = some (.slice Bi lb di) ∧ (convert 24 9 (.slice Ai lb ci)).run Tryz.prog wr.drew = .ok (.string (B b)) wr.drew ∧ (convert 24 9 (.slice Bi lb di)).run Tryz.prog wr.drew = .ok (.string (B b)) wr.drew) :=
        ⟨(cell_of_heap (j := 0) hx.out).trans rfl, (cell_of_heap (j := 0) hy.out).trans rfl, p0, p1, q0, q1, cv1, cv2⟩
      have hBr : Hid (Below w2.heap.size w2 wr.drew) := hB.out.drew
      clear hlb hnm p0 p1 q0 q1 cv1 cv2 g1 g2 hBd
      go_wp2_with fail
      refine RegP.regionH (fun w' => w'.cell? ⟨w.heap.size, 0, none⟩ = some (.slice (some ad) n c0) ∧ w'.cell? ⟨w.heap.size + 1, 0, none⟩ = some (.slice (some bd) n c1) ∧ w'.cell? (ad.add (i * 2)) = some (.string (B nm)) ∧ w'.cell? ⟨(ad.add (i * 2)).block, (ad.add (i * 2)).off + 1, none⟩ = some (.slice Ai lb ci) ∧ w'.cell? (bd.add (i * 2)) = some (.string (B nm)) ∧ w'.cell? ⟨(bd.add (i * 2)).block, (bd.add (i * 2)).off + 1, none⟩ = some (.slice Bi lb di) ∧ (convert 24 9 (.slice Ai lb ci)).run Tryz.prog w' = .ok (.string (B b)) w' ∧ (convert 24 9 (.slice Bi lb di)).run Tryz.prog w' = .ok (.string (B b)) w') [(0, 0), (1, 1), (0, 2), (0, 3), (0, 4), (1, 5), (0, 6), (1, 7), (0, 8), (0, 9), (0, 10), (1, 11), (0, 12), (0, 13), (0, 14), (1, 15), (0, 16), (0, 17), (0, 18), (1, 19), (1, 20), (0, 21), (1, 22), (0, 23), (0, 24), (0, 25), (1, 26), (1, 27), (0, 28), (0, 29)] (by kernel_rfl) (by kernel_rfl) (by rfl) (by kernel_rfl) (by exact hS0.out) ?_
      repeat ((first | refine RegP.pu ?_ | refine RegP.he ?_ | refine RegP.sk ?_); try simp only [Act.put, pA,pB,pC])
      refine RegP.done1 ?_
      try dsimp only
      go_wp2_with fail
      go_roundg gk
      case measure => omega
      case rel => exact ⟨i + 1, by first | rfl | simp, by omega, hBr⟩
theorem filter_light {fs : List FileL} (h : lightB fs = true) (p : FileL → Bool) : lightB (fs.filter p) = true := by
  simp only [lightB, Bool.and_eq_true, decide_eq_true_iff, List.all_eq_true] at h ⊢
  exact ⟨Nat.le_trans (List.length_filter_le _ _) h.1, fun f hf => h.2 f (List.mem_filter.1 hf).1⟩
theorem turned_light {fs : List FileL} {keep : List Txt} {more : Txt} (h : lightB fs = true) (hm : more.length ≤ 200) : lightB (fs.map (turnF keep more)) = true := by
  simp only [lightB, Bool.and_eq_true, decide_eq_true_iff, List.all_eq_true, List.length_map] at h ⊢
  refine ⟨h.1, fun f hf => ?_⟩
  obtain ⟨g, hg, rfl⟩ := List.mem_map.1 hf
  have := h.2 g hg
  unfold turnF
  split
  · exact this
  · exact ⟨hm, this.2⟩
def keepL (cmd : Txt) (D : DishL) : List Txt := fieldsT cmd ++ (if D.dep = [] then [] else (refL D.deps).2.1)
theorem alone_some {cmd : Txt} {ws : List Txt} {fs : List FileL} {D : DishL} (h : cookE cmd ⟨ws, fs⟩ = some D) (hl : fs.length ≤ 10) : cookE cmd ⟨ws, fs.filter fun f => (keepL cmd D).contains f.n⟩ = some D := by
  refine cookE_alone (v := ⟨ws, fs⟩) h hl (fun nm hm => hm) (fun nm hm => findL_filter fs _ nm (List.mem_append_left _ hm)) (fun hd nm hm => findL_filter fs _ nm ?_)
  unfold keepL
  rw [if_neg hd]
  exact List.mem_append_right _ hm
theorem alone_turned {cmd : Txt} {ws : List Txt} {fs : List FileL} {D : DishL} (more z : Txt) (h : cookE cmd ⟨ws, fs⟩ = some D) (hl : fs.length ≤ 10) : cookE cmd ⟨ws ++ [z], fs.map (turnF (keepL cmd D) more)⟩ = some D := by
  refine cookE_alone (v := ⟨ws, fs⟩) h hl (fun nm hm => List.mem_append_left _ hm) (fun nm hm => findL_turned fs _ more nm (List.mem_append_left _ hm)) (fun hd nm hm => findL_turned fs _ more nm ?_)
  unfold keepL
  rw [if_neg hd]
  exact List.mem_append_right _ hm
def AloneAt (W : World) (cs : Array Value) (x : Txt × List Txt × List FileL × Txt) : Prop :=
  ∃ aw lw cw a l c am lm cm, cs = #[.string (B x.1), .slice aw lw cw, .slice a l c, .slice am lm cm] ∧ WordsIn W aw lw cw x.2.1 ∧ FilesIn W a l c x.2.2.1 ∧ BytesIn W am lm cm x.2.2.2
theorem four {cs : List Value} (h : cs.length = 4) : ∃ a b c d, cs = [a, b, c, d] := by
  rcases cs with _ | ⟨a, _ | ⟨b, _ | ⟨c, _ | ⟨d, _ | ⟨e, t⟩⟩⟩⟩⟩ <;> simp at h
  exact ⟨a, b, c, d, rfl⟩
theorem cells_strings : Tryz.prog.cellsOf 22 = 1 := by kernel_rfl
theorem cells_files : Tryz.prog.cellsOf 23 = 1 := by kernel_rfl
theorem cells_alone : Tryz.prog.cellsOf 26 = 4 := by kernel_rfl
theorem alone_open {H : Type} {enc : TypeId × Value → H} {W : World} {cs : Array Value} {d : DataW H} {ps : List MemPlace} (h : DataW.Trod enc Tryz.prog W 0 (fun _ => true) true 26 (.agg cs) d ps) :
    ∃ x, AloneAt W cs x := by
  obtain ⟨fuel, hf⟩ := h
  obtain ⟨xs, m, _, _, hcl, hxs, hF⟩ := DataW.trod_struct Tryz.underlying26 hf
  rw [cells_alone] at hcl
  obtain ⟨p0, p1, p2, p3, hp⟩ := four hcl
  rw [hp] at hF
  have f0 := hF 0 _ rfl
  have f1 := hF 1 _ rfl
  have f2 := hF 2 _ rfl
  have f3 := hF 3 _ rfl
  change DataW.trod enc _ W 0 _ true m 9 (([p0, p1, p2, p3].drop 0).take (Tryz.prog.cellsOf 9)) = xs[0]? at f0
  change DataW.trod enc _ W 0 _ true m 22 (([p0, p1, p2, p3].drop 1).take (Tryz.prog.cellsOf 22)) = xs[1]? at f1
  change DataW.trod enc _ W 0 _ true m 23 (([p0, p1, p2, p3].drop 2).take (Tryz.prog.cellsOf 23)) = xs[2]? at f2
  change DataW.trod enc _ W 0 _ true m 24 (([p0, p1, p2, p3].drop 3).take (Tryz.prog.cellsOf 24)) = xs[3]? at f3
  rw [cells_string] at f0
  rw [cells_strings] at f1
  rw [cells_files] at f2
  rw [cells_bytes] at f3
  have hxl : xs.length = 4 := hxs
  rw [List.getElem?_eq_getElem (by omega)] at f0 f1 f2 f3
  obtain ⟨a0, k0, cmd, rfl⟩ := opensP_string f0
  obtain ⟨a1, ⟨A1, c1, e1, l1, g1⟩, q1⟩ := opensP_slice Tryz.underlying22 cells_string opensP_string f1
  obtain ⟨a2, ⟨A2, c2, e2, l2, g2⟩, q2⟩ := opensP_slice Tryz.underlying23 cells_file opensP_file f2
  obtain ⟨a3, ⟨A3, c3, e3, l3, g3⟩, q3⟩ := opensP_slice Tryz.underlying24 cells_u8 opensP_u8 f3
  obtain ⟨ws, rfl⟩ := txts_of a1 q1
  obtain ⟨fs, rfl⟩ := files_of a2 q2
  obtain ⟨mb, rfl⟩ := txt_of a3 q3
  have e0 : p0 = .string (B cmd) := by
    have : [p0] = [Value.string (B cmd)] := k0
    injection this
  have r1 : p1 = .slice A1 (ws.map B).length c1 := by injection e1
  have r2 : p2 = .slice A2 (fs.map toG).length c2 := by injection e2
  have r3 : p3 = .slice A3 (ints mb).length c3 := by injection e3
  rw [List.length_map] at r1 l1 g1 r2 l2
  rw [ints_len] at r3 l3 g3
  refine ⟨(cmd, ws, fs, mb), A1, ws.length, c1, A2, fs.length, c2, A3, mb.length, c3, ?_, ⟨rfl, l1, g1⟩, ⟨rfl, l2, g2⟩, ⟨rfl, l3, g3⟩⟩
  apply Array.toList_inj.1
  show (Value.agg cs).cells.toList = _
  rw [hp, e0, r1, r2, r3]
end Go.Proofs.YtbklhcjcgiblkaaGreatDoor.Ck
end
section
set_option linter.unusedSimpArgs false
set_option linter.unusedVariables false
namespace Go.Proofs.YtbklhcjcgiblkaaGreatDoor.Ck
open Go.RowKit Go.Lib Go.Shelf Go.Maps Go.Proofs.YtbklhcjcgiblkaaGreatDoorW.PrintWords Go.Proofs.YtbklhcjcgiblkaaGreatDoorW.PrintLast Go.Proofs.YtbklhcjcgiblkaaGreatDoorW.PrintMore Go.Proofs.YtbklhcjcgiblkaaGreatDoor.U Go.Proofs.YtbklhcjcgiblkaaGreatDoor.P Go.Proofs.YtbklhcjcgiblkaaGreatDoor.PTh Go.Proofs.YtbklhcjcgiblkaaGreatDoor.MapV
open Go.Proofs.YtbklhcjcgiblkaaGreatDoor.Fld (fieldsT)
structure DishR (w : World) (base db : Nat) (A : Option Addr) (n c : Nat) (names : List Txt) (b : Txt) (once : Bool) (dep deps : Txt) : Prop where
  h : w.heap[db]? = some (.cells #[.slice A n c, .bool once, .string (B dep), .string (B deps)] 30 (0, 0))
  o : OutsAt w base (.slice A n c) names b
  n : names.length = n
theorem DishR.below {w w' : World} {base db : Nat} {A : Option Addr} {n c : Nat} {names : List Txt} {b : Txt} {once : Bool} {dep deps : Txt} (h : DishR w base db A n c names b once dep deps) (hb : Below w.heap.size w w') : DishR w' base db A n c names b once dep deps :=
  ⟨(hb.block _ (Array.getElem?_eq_some_iff.1 h.h).1).trans h.h, h.o.move (fun k _ h2 => hb.block k h2), h.n⟩
theorem DishR.reads {w : World} {base db : Nat} {A : Option Addr} {n c : Nat} {names : List Txt} {b : Txt} {once : Bool} {dep deps : Txt} (h : DishR w base db A n c names b once dep deps) : Kd.C KF w A (names.map fun n => toF ⟨n, b⟩).length (names.map fun n => toF ⟨n, b⟩) := by
  obtain ⟨A', c', he, _, hC⟩ := h.o.C
  injection he with he _ _
  subst he
  exact hC
theorem same_names {names names2 : List Txt} {b b2 : Txt} (h : (names.map fun n => (⟨n, b⟩ : FileL)) = names2.map fun n => ⟨n, b2⟩) (hne : names ≠ []) : names2 = names ∧ b2 = b := by
  have h1 : names = names2 := by
    have := congrArg (List.map FileL.n) h
    simpa [List.map_map, Function.comp_def] using this
  subst h1
  cases names with
  | nil => exact absurd rfl hne
  | cons x xs => simp at h; exact ⟨rfl, h.1.symm⟩
theorem light_parts {fs : List FileL} (h : lightB fs = true) : fs.length ≤ 10 ∧ (∀ f ∈ fs, f.b.length ≤ 200) ∧ ∀ f ∈ fs, f.n.length ≤ 200 := by
  simp only [lightB, Bool.and_eq_true, decide_eq_true_iff, List.all_eq_true] at h
  exact ⟨h.1, fun f hf => (h.2 f hf).1, fun f hf => (h.2 f hf).2⟩
theorem told_few {c : Txt} {v : Env} {D : DishL} (h : cookE c v = some D) (hl : v.fs.length ≤ 10) (hd : D.dep ≠ []) : (refL D.deps).2.2 = true ∧ (refL D.deps).2.1.length ≤ 10 := by
  obtain ⟨s, b, found, hs, hx, hb, rfl⟩ := cookE_parts h
  obtain ⟨ho, hi⟩ := shapeE_facts hs
  have hF := (doE_found hx).1
  have hdd : s.dep ≠ [] := hd
  have ho0 : rightL (s.outs.getD 0 []) = true := by
    cases hq : s.outs with
    | nil => exact absurd hq ho.ne
    | cons o os => exact ho.right o (by rw [hq]; simp)
  have hfl := nodup_len found _ hF.nd hF.there
  rw [List.length_map] at hfl
  dsimp only
  rw [if_neg hdd, parse_printed ho0 hF.right hF.nd (by omega)]
  refine ⟨rfl, ?_⟩
  show found.length ≤ 10
  omega
theorem cookE_len2 {c : Txt} {v : Env} {d : DishL} (h : cookE c v = some d) : d.outs.length ≤ c.length + 1 := by
  obtain ⟨s, b, found, hs, hx, hb, rfl⟩ := cookE_parts h
  have h1 := (shapeE_words hs).2.2.1
  have h2 := fieldsT_len c
  simp only [List.length_map]
  omega
theorem Reads.below' {Wb w' : World} {l : List Ent} (h : Reads Wb l) (hb : Below Wb.heap.size Wb w') : Reads w' l := h.below hb
theorem strs_cells {w : World} {A : Option Addr} {ws : List Txt} (h : Kd.C Kd.string w A ws.length (ws.map B)) : ∀ b, A = some b → ∀ j u, (strs ws)[j]? = some u → w.cell? (b.add j) = some u := fun b hb j u hu => by
  subst hb
  obtain ⟨hj, rfl⟩ := List.getElem?_eq_some_iff.1 hu
  have hj' : j < ws.length := by simpa [strs] using hj
  obtain ⟨ad, e, k⟩ := text_at h j hj'
  injection e with e
  subst e
  rw [k]; simp [strs]
theorem none_zero {w : World} {A : Option Addr} {ws : List Txt} {n : Nat} (h : Kd.C Kd.string w A ws.length (ws.map B)) (hn : ws.length = n) : A = none → n = 0 ∧ n = 0 := fun hA => by
  have : n = 0 := by
    rcases Nat.eq_zero_or_pos n with h0 | h0
    · exact h0
    · obtain ⟨ad, e, _⟩ := text_at h 0 (by omega)
      rw [hA] at e; cases e
  exact ⟨this, this⟩
theorem encs_strs (l : List Txt) : encs Value.string (l.map B) = strs l := by
  induction l with
  | nil => rfl
  | cons x xs ih => simp only [encs, strs, List.map_cons] at ih ⊢; rw [ih]
set_option maxRecDepth 100000 in
set_option maxHeartbeats 16000000 in
theorem alone_walk (cs : Array Value) (x : Txt × List Txt × List FileL × Txt) (W : World) (ht : Tab W) (hx : AloneAt W cs x) :
    Calls Tryz.prog 3 #[.agg cs] W fun e w' => e = .returned (.bool true) ∧ Below W.heap.size W w' := by
  obtain ⟨infS, hinfS, hz0, hz1, hz2⟩ := info_parts infoStr
  obtain ⟨aw, M, capw, a, N, cap, am, lm, capm, rfl, ⟨hM, hcapw, hCw⟩, ⟨hN, hcap, hC⟩, hlm, hcapm, hCm⟩ := hx
  obtain ⟨cmd, ws, fs, mb⟩ := x
  dsimp only at hM hCw hN hC hlm hCm ⊢
  have hsz := size_B cmd
  have hCH := Lib.hid hC
  have hCwH := Lib.hid hCw
  have hCmH := Lib.hid hCm
  have htH := Lib.hid ht
  have hNH := Lib.hid hN
  have hMH := Lib.hid hM
  have hlmH := Lib.hid hlm
  have hLt : Hid (∀ w, Below W.heap.size W w → Calls Tryz.prog 4 #[.slice a N cap] w fun e w' => e = .returned (.bool (lightB fs)) ∧ Below w.heap.size w w') := fun w hb => by
    have := light_any a cap fs w (Kd.C_below hC hb) (by rw [hN]; exact hcap)
    rw [hN] at this; exact this
  have hAw : Hid (∀ w, Below W.heap.size W w → Calls Tryz.prog 7 #[] w fun e w' => e = .returned (.bool true) ∧ Below w.heap.size w w') := fun w hb => awake_any w (htH.out.below hb)
  obtain ⟨W1, hW1⟩ : ∃ x, W.alloc (.cells #[.string (B cmd), .slice aw M capw, .slice a N cap, .slice am lm capm] 26) = x := ⟨_, rfl⟩
  have hx1 : W1.heap[W.heap.size]? = some (.cells #[.string (B cmd), .slice aw M capw, .slice a N cap, .slice am lm capm] 26 (0, 0)) := by rw [← hW1]; exact heap_alloc_new _ _
  have hS0 : Hid (W1.drew.cell? ⟨W.heap.size, 0, none⟩ = some (.string (B cmd)) ∧ W1.drew.cell? ⟨W.heap.size, 1, none⟩ = some (.slice aw M capw) ∧ W1.drew.cell? ⟨W.heap.size, 2, none⟩ = some (.slice a N cap) ∧ W1.drew.cell? ⟨W.heap.size, 3, none⟩ = some (.slice am lm capm)) :=
    ⟨(cell_of_heap (j := 0) hx1).trans rfl, (cell_of_heap (j := 1) hx1).trans rfl, (cell_of_heap (j := 2) hx1).trans rfl, (cell_of_heap (j := 3) hx1).trans rfl⟩
  have hB2 : Hid (Below W.heap.size W W1.drew) := by show Below _ _ _; rw [← hW1]; exact ((Below.refl _ _).alloc (Nat.le_refl _) _).drew
  have hW1H := Lib.hid hW1
  clear hC hCw hCm ht hN hM hlm hW1 hx1
  go_enter Tryz.func3, Tryz.ntmps3
  go_upto_region 1 with (fail)
  rw [hW1H.out]
  refine RegP.regionH (fun w' => w'.cell? ⟨W.heap.size, 0, none⟩ = some (.string (B cmd)) ∧ w'.cell? ⟨W.heap.size, 1, none⟩ = some (.slice aw M capw) ∧ w'.cell? ⟨W.heap.size, 2, none⟩ = some (.slice a N cap) ∧ w'.cell? ⟨W.heap.size, 3, none⟩ = some (.slice am lm capm)) [(0, 0), (1, 1), (0, 2), (1, 3), (0, 4), (1, 5), (0, 6), (1, 7), (0, 8), (0, 9), (0, 10), (0, 11)] (by kernel_rfl) (by kernel_rfl) (by rfl) (by kernel_rfl) (by exact hS0.out) ?_
  repeat ((first | refine RegP.pu ?_ | refine RegP.he ?_ | refine RegP.sk ?_); try simp only [Act.put, pA,pB,pC])
  refine RegP.done1 ?_
  try dsimp only
  clear hS0
  generalize W1.drew = W2 at *
  by_cases hc3 : cmd.length ≤ 300
  case neg =>
    have hd : decide ((cmd.length : Int) > 300) = true := by rw [decide_eq_true_iff]; omega
    go_wp2_with fail
    go_ret
    exact ⟨rfl, hB2.out⟩
  have hd1 : decide ((cmd.length : Int) > 300) = false := by rw [decide_eq_false_iff_not]; omega
  by_cases hw3 : M ≤ 20
  case neg =>
    have hd : decide ((M : Int) > 20) = true := by rw [decide_eq_true_iff]; omega
    go_wp2_with fail
    go_ret
    exact ⟨rfl, hB2.out⟩
  have hd2 : decide ((M : Int) > 20) = false := by rw [decide_eq_false_iff_not]; omega
  go_wp2_with fail
  refine (hLt.out _ hB2.out).mono ?_
  rintro e W3 ⟨rfl, hb3⟩
  have hB3 := Lib.hid (hB2.out.trans (hb3.mono hB2.out.size))
  clear hb3 hB2 hLt
  cases hl : lightB fs with
  | false =>
    go_wp2_with fail
    go_ret
    exact ⟨rfl, hB3.out⟩
  | true =>
    by_cases hm3 : lm ≤ 200
    case neg =>
      have hd : decide ((lm : Int) > 200) = true := by rw [decide_eq_true_iff]; omega
      go_wp2_with fail
      go_ret
      exact ⟨rfl, hB3.out⟩
    have hd3 : decide ((lm : Int) > 200) = false := by rw [decide_eq_false_iff_not]; omega
    obtain ⟨f1, f2, f3⟩ := light_parts hl
    have f2H : Hid (∀ f ∈ fs, f.b.length ≤ 200) := f2
    have hN10 : N ≤ 10 := by rw [← hNH.out]; exact f1
    have hlH := Lib.hid hl
    have hO := of_any a cap fs W3 (Kd.C_below hCH.out hB3.out) (by rw [hNH.out]; exact hcap) hl
    rw [hNH.out] at hO
    have hOH := Lib.hid hO
    clear f1 f2 f3 hl hO
    go_wp2_with fail
    refine hOH.out.mono ?_
    rintro e W4 ⟨A2, c2, rfl, hC2, hb4⟩
    have hB4 := Lib.hid (hB3.out.trans (hb4.mono hB3.out.size))
    have hK := Lib.hid (Cook_at cmd (by omega) ⟨ws, fs⟩ M N capw c2 aw A2 W4 ⟨Kd.C_below hCwH.out hB4.out, hC2, by show ws.length ≤ _; rw [hMH.out]; omega, by show fs.length ≤ _; rw [hNH.out]; omega, fun f hf => by have := f2H.out f hf; omega⟩ (htH.out.below hB4.out) hMH.out hNH.out (B cmd) rfl)
    clear hb4 hC2 hOH
    go_wp2_with fail
    refine hK.out.mono ?_
    rintro e W5 ⟨hb5, hP5⟩
    have hB5 := Lib.hid (hB4.out.trans (hb5.mono hB4.out.size))
    clear hb5 hK
    cases hce : cookE cmd ⟨ws, fs⟩ with
    | none =>
      rw [hce] at hP5
      obtain rfl : e = _ := hP5
      have hB6 := Lib.hid (hB5.out.alloc hB5.out.size (.cells #[.slice none 0 0, .bool false, .string (B []), .string (B [])] 30))
      go_wp2_with fail
      refine (hAw.out _ hB6.out).mono ?_
      rintro e W7 ⟨rfl, hb7⟩
      have hB7 := Lib.hid (hB6.out.trans (hb7.mono hB6.out.size))
      go_wp2_with fail
      go_ret
      exact ⟨rfl, hB7.out⟩
    | some D =>
      rw [hce] at hP5
      have hDF := Lib.hid (cookE_facts hce)
      have hcS := Lib.hid (alone_some hce (by rw [hNH.out]; exact hN10))
      have hcT := Lib.hid (alone_turned mb [122, 122] hce (by rw [hNH.out]; exact hN10))
      have hTold : Hid (D.dep ≠ [] → (refL D.deps).2.2 = true ∧ (refL D.deps).2.1.length ≤ 10) := fun hd => told_few hce (by rw [hNH.out]; exact hN10) hd
      have hceH := Lib.hid hce
      have hDlen := cookE_len2 hce
      obtain ⟨vo, names, b, hD, rfl, ho⟩ := hP5
      obtain ⟨kl, hkl⟩ : ∃ x, keepL cmd D = x := ⟨_, rfl⟩
      rw [hkl] at hcS hcT
      obtain ⟨Do, once, dep, deps⟩ := D
      dsimp only at hD hDF ho hTold hDlen ⊢
      injection hD with hD _ _ _
      subst hD
      have hne : Hid (names ≠ []) := fun h => hDF.out.ne (by rw [h]; rfl)
      obtain ⟨Ao, co, rfl⟩ := ho.form
      obtain ⟨n, hn⟩ : ∃ n, names.length = n := ⟨_, rfl⟩
      have hnH := Lib.hid hn
      have hn0 : 0 < n := by rw [← hn]; exact List.length_pos_iff.2 hne.out
      have hn300 : n ≤ 400 := by rw [← hn]; rw [List.length_map] at hDlen; omega
      rw [hn] at ho ⊢
      obtain ⟨W6, hW6⟩ : ∃ W6, W5.alloc (.cells #[.slice Ao n co, .bool once, .string (B dep), .string (B deps)] 30) = W6 := ⟨_, rfl⟩
      have hb56 : Below W5.heap.size W5 W6 := by rw [← hW6]; exact (Below.refl _ _).alloc (Nat.le_refl _) _
      obtain ⟨db, hdb⟩ : ∃ d, W5.heap.size = d := ⟨_, rfl⟩
      have hDA : Hid (DishR W6 W4.heap.size db Ao n co names b once dep deps) := ⟨by rw [← hdb, ← hW6]; exact heap_alloc_new _ _, ho.move (fun k _ h2 => hb56.block k h2), hn⟩
      have hB6 := Lib.hid (hB5.out.trans (hb56.mono hB5.out.size))
      have hklE : Hid (kl = fieldsT cmd ++ (if dep = [] then [] else (refL deps).2.1)) := hkl.symm
      have hnk : Hid (kl.length ≤ 400) := by
        show kl.length ≤ 400
        rw [hklE.out, List.length_append]
        have h1 := fieldsT_len cmd
        by_cases hd : dep = []
        · rw [if_pos hd]; simp; omega
        · rw [if_neg hd]; have := (hTold.out hd).2; omega
      clear ho hn hb56 hce hkl hDlen
      go_upto_region 7 with (fail)
      clear hdb hW6
      go_wp2_with fail
      refine (Words_any cmd (by omega) _).mono ?_
      rintro e W7 ⟨vk, rfl, hok, hb7⟩
      obtain ⟨Ak, ck, rfl, hlk, hCk⟩ := row_reads hok
      have hB7 := Lib.hid (hB6.out.trans (hb7.mono hB6.out.size))
      have hD7 := Lib.hid (hDA.out.below hb7)
      have hs67 : Hid (W6.heap.size ≤ W7.heap.size) := hb7.size
      have hB67 := Lib.hid hb7
      have hokH := Lib.hid hok
      have hCkH := Lib.hid hCk
      obtain ⟨nw, hnw⟩ : ∃ x, (fieldsT cmd).length = x := ⟨_, rfl⟩
      have hnwH := Lib.hid hnw
      have hnw3 : nw ≤ 301 := by rw [← hnw]; have := fieldsT_len cmd; omega
      obtain ⟨nk, hnk'⟩ : ∃ x, kl.length = x := ⟨_, rfl⟩
      have hnkH := Lib.hid hnk'
      have hnk4 : nk ≤ 400 := by rw [← hnk']; exact hnk.out
      rw [hnw] at hlk ⊢
      have p2 := (cell_of_heap (j := 2) hD7.out.h).trans rfl
      clear hb7 hok hCk hnw hnk'
      go_upto_if 63 with (fail)
      go_cut [9] (fun s9 wx => ∃ A9 c9, s9 = .slice A9 nk c9 ∧ nk ≤ c9 ∧ Hid (Kd.C Kd.string wx A9 nk (kl.map B)) ∧ Hid (Below W6.heap.size W6 wx))
      case first =>
        cases dep with
        | nil =>
          have hkk : kl = fieldsT cmd := by rw [hklE.out]; simp
          obtain rfl : nk = nw := by rw [← hnkH.out, ← hnwH.out, hkk]
          have hkkH := Lib.hid hkk
          clear hkk
          go_wp2_with fail
          go_meet
          exact ⟨Ak, ck, rfl, hlk, by show Kd.C _ _ _ _ _; rw [hkkH.out, ← hnwH.out]; exact hCkH.out, hB67⟩
        | cons d0 dr =>
          have hkk : Hid (kl = fieldsT cmd ++ (refL deps).2.1) := hklE.out
          have hT := Lib.hid (hTold.out (by simp))
          have p3 := (cell_of_heap (j := 3) hD7.out.h).trans rfl
          go_wp2_with fail
          refine (RefParse_any deps _).mono ?_
          rintro e W8 ⟨hb8, vd, rfl, hR8⟩
          rw [hT.out.1]
          have hown8 := Kd.own_of_R (enc := Value.string) hR8
          obtain ⟨Ad, cd, rfl⟩ := row_form hown8
          obtain ⟨Ad', cd', he8, hld, hCd⟩ := row_reads (l := (refL deps).2.1) (by rw [← encs_strs]; have := hown8; rw [List.length_map] at this; exact this)
          rw [List.length_map]
          injection he8 with e1 _ e3
          subst e1 e3
          have hlt8 := hT.out.2
          obtain ⟨dl, hdl⟩ : ∃ x, (refL deps).2.1 = x := ⟨_, rfl⟩
          rw [hdl] at hld hCd hkk hlt8 ⊢
          have hB8 : Hid (Below W6.heap.size W6 W8) := hB67.out.trans (hb8.mono hs67.out)
          have hok8 := Lib.hid (own_move hokH.out (w1 := W8) (fun k e => hb8.block k (own_lt hokH.out k e)))
          have hCdH := Lib.hid hCd
          have hbase : W6.heap.size ≤ W8.heap.size := Nat.le_trans hs67.out hb8.size
          obtain ⟨nd, hnd⟩ : ∃ x, dl.length = x := ⟨_, rfl⟩
          have hndH := Lib.hid hnd
          rw [hnd] at hld hlt8 ⊢
          clear hR8 hown8 hdl hb8 hCd hnd p2 p3
          go_wp2_with (at_builtin; go_loud (refine print_append_row_of (w0 := W8) Value.string ByteArray.empty W6.heap.size rfl _ _ 22 9 (.string ⟨#[]⟩) 16 rfl Tryz.underlying22 infoStr rfl (by decide) (fun _ => rfl) (.slice Ak nw ck) ((fieldsT cmd).map B) (dl.map B) Ad nd cd rfl rfl ?hO ?hR (Below.refl _ _) hbase ?hl ?_))
          case hO => rw [List.length_map, encs_strs]; rw [← hnwH.out]; exact hok8.out
          case hR => rw [← hndH.out]; exact Kd.reads_of_C hCdH.out
          case hl => rw [List.length_map, hnwH.out]; omega
          intro v9 W9 ho9 hb9 hg9 _
          have ho9' : W9.ownsRow W6.heap.size 9 1 v9 kl.length (strs kl) := by
            have h1 := ho9
            rw [← List.map_append, ← hkk.out, encs_strs] at h1
            rw [← List.length_append, ← hkk.out] at h1
            exact h1
          obtain ⟨A9, c9, rfl, hl9, hC9⟩ := row_reads ho9'
          rw [hnkH.out] at hl9 hC9 ⊢
          have hC9H := Lib.hid hC9
          have hB9 : Hid (Below W6.heap.size W6 W9) := hB8.out.trans hb9
          clear ho9 ho9' hb9 hg9 hC9
          go_wp2_with fail
          go_meet
          exact ⟨A9, c9, rfl, hl9, hC9H, hB9⟩
      case rest =>
        obtain ⟨A9, c9, rfl, hl9, hC9, hB9⟩ := hcut
        obtain ⟨Wb, hWb⟩ : ∃ x, x = wc := ⟨_, rfl⟩
        subst hWb
        have hBb : Hid (Below W.heap.size W Wb) := hB6.out.trans (hB9.out.mono hB6.out.size)
        have hDb : Hid (DishR Wb W4.heap.size db Ao n co names b once dep deps) := hDA.out.below hB9.out
        clear hB7 hD7 hokH hCkH hnwH hlk hs67 hB67 hDA p2 hB9
        go_wp2_with fail
        go_loopg [13, 14, 15] N (fun gk s13 s14 s15 wx => ∃ (i : Nat) (As At : Option Addr) (cs ct : Nat) (sl tl : List Ent), s13 = .slice As sl.length cs ∧ s14 = .slice At tl.length ct ∧ s15 = .int .i64 (i : Int) ∧ i + gk = N ∧ sl.length ≤ 10 ∧ tl.length ≤ 10 ∧ Hid (Two Wb wx (.slice As sl.length cs) sl (.slice At tl.length ct) tl) ∧
          Hid (Reads Wb sl ∧ Reads Wb tl ∧ sl.map Ent.f = (fs.take i).filter (fun f => kl.contains f.n) ∧ tl.map Ent.f = (fs.take i).map (turnF kl mb)))
        case atStart => exact ⟨0, none, none, 0, 0, [], [], rfl, rfl, rfl, by omega, by simp, by simp, ⟨World.ownsRow_nil _ _ _ _, World.ownsRow_nil _ _ _ _, fun k e => by simp [Value.ownBlock] at e, Below.refl _ _⟩, ⟨fun x hx => by simp at hx, fun x hx => by simp at hx, by simp, by simp⟩⟩
        case round =>
          obtain ⟨i, As, At, cs, ct, sl, tl, rfl, rfl, rfl, hik, hsl, htl, hTw, hEq⟩ := hrel
          cases gk with
          | succ gk =>
            have hin : i < fs.length := by rw [hNH.out]; omega
            have hlt : decide ((i : Int) < (N : Int)) = true := by rw [decide_eq_true_iff]; omega
            have hi0 : (0 : Int) ≤ (i : Int) := by omega
            have hi1 : (i : Int) < (N : Int) := by omega
            have hi2 : i < N := by omega
            have hwr : IntKind.i64.wrap ((i : Int) + 1) = (i : Int) + 1 := by rw [IntKind.wrap_i64]; omega
            obtain ⟨ad, A1, c1, hA, k0, k1, l1, g1⟩ := gfile_at (Kd.C_below hCH.out hBb.out) i hin
            subst hA
            have hlen1 : sl.length + 1 ≤ 10 ∧ tl.length + 1 ≤ 10 := by
              have h1 := congrArg List.length hEq.out.2.2.1
              have h2 := congrArg List.length hEq.out.2.2.2
              have h3 := List.length_filter_le (fun f => kl.contains f.n) (fs.take i)
              rw [List.length_map] at h1 h2
              rw [List.length_map] at h2
              rw [List.length_take] at h2 h3
              omega
            obtain ⟨f, hf⟩ : ∃ f, fs[i] = f := ⟨_, rfl⟩
            have hfl := f2H.out fs[i] (List.getElem_mem hin)
            rw [hf] at k0 k1 l1 g1 hfl
            have hTk : Hid (fs.take (i + 1) = fs.take i ++ [f]) := by show _ = _; rw [List.take_succ_eq_append_getElem hin, hf]
            have hKc : Hid (∀ X, Below Wb.heap.size Wb X → X.cell? (ad.add (i * 2)) = some (.string (B f.n)) ∧ X.cell? ⟨(ad.add (i * 2)).block, (ad.add (i * 2)).off + 1, none⟩ = some (.slice A1 f.b.length c1)) := fun X hX => ⟨below_cell hX k0, below_cell hX k1⟩
            have hRd : Hid (f.b.length ≤ c1 ∧ (Kd.int .u8).C Wb A1 f.b.length (ints f.b)) := ⟨l1, g1⟩
            have q0 := (hKc.out _ hTw.out.b).1
            have hIn := In_C A9 c9 kl f.n wr (by rw [hnkH.out]; omega) (by rw [hnkH.out]; exact Kd.C_below hC9.out hTw.out.b) (by rw [hnkH.out]; exact hl9)
            rw [hnkH.out] at hIn
            have hInH := Lib.hid hIn
            clear hf k0 k1 l1 g1 hIn
            go_wp2_with fail
            refine hInH.out.mono ?_
            rintro e X1 ⟨rfl, hx1⟩
            have hTw1 := Lib.hid (hTw.out.below hx1)
            have q1 := (hKc.out _ hTw1.out.b).1
            clear hx1 hInH hTw q0
            cases hdm : decide (f.n ∈ kl) with
            | true =>
              have hE2 : Hid (Reads Wb (sl ++ [⟨f, A1, c1⟩]) ∧ Reads Wb (tl ++ [⟨f, A1, c1⟩]) ∧ (sl ++ [(⟨f, A1, c1⟩ : Ent)]).map Ent.f = (fs.take (i + 1)).filter (fun f => kl.contains f.n) ∧ (tl ++ [(⟨f, A1, c1⟩ : Ent)]).map Ent.f = (fs.take (i + 1)).map (turnF kl mb)) := by
                obtain ⟨r1, r2, r3, r4⟩ := hEq.out
                have hct : kl.contains f.n = true := by rw [contains_iff]; exact hdm
                refine ⟨r1.push hRd.out.1 hRd.out.2, r2.push hRd.out.1 hRd.out.2, ?_, ?_⟩
                · rw [List.map_append, r3, hTk.out, List.filter_append]
                  simp [List.filter_cons, hct]
                  exact of_decide_eq_true hdm
                · rw [List.map_append, r4, hTk.out, List.map_append]
                  simp only [List.map_cons, List.map_nil, turnF, hct, if_true]
              have hls : (sl ++ [(⟨f, A1, c1⟩ : Ent)]).length ≤ 10 := by rw [List.length_append, List.length_singleton]; exact hlen1.1
              have hlt2 : (tl ++ [(⟨f, A1, c1⟩ : Ent)]).length ≤ 10 := by rw [List.length_append, List.length_singleton]; exact hlen1.2
              have hTwd : Hid (Two Wb X1.drew (.slice As sl.length cs) sl (.slice At tl.length ct) tl) := hTw1.out.below (Below.refl _ _).drew
              have hS0 : Hid (X1.drew.cell? (ad.add (i * 2)) = some (.string (B f.n)) ∧ X1.drew.cell? ⟨(ad.add (i * 2)).block, (ad.add (i * 2)).off + 1, none⟩ = some (.slice A1 f.b.length c1)) := hKc.out _ hTwd.out.b
              clear hdm hEq hTw1 q1
              go_wp2_with fail
              refine RegP.regionT (fun w' => w'.cell? (ad.add (i * 2)) = some (.string (B f.n)) ∧ w'.cell? ⟨(ad.add (i * 2)).block, (ad.add (i * 2)).off + 1, none⟩ = some (.slice A1 f.b.length c1)) (.cons 0 0 (.cons 0 1 (.cons 0 2 (.cons 0 3 (.cons 1 4 (.cons 0 7 (.cons 0 8 (.cons 0 9 (.cons 0 10 (.cons 1 11 (.fork 5 (.fork 6 (.cons 2 12 (.cons 2 13 (.cons 0 14 (.cons 0 15 .nil)))) 12 (.cons 2 6 (.cons 2 13 (.cons 0 14 (.cons 0 15 .nil))))) 12 (.cons 2 5 (.cons 2 6 (.cons 2 13 (.cons 0 14 (.cons 0 15 .nil)))))))))))))))) (by kernel_rfl) (by kernel_rfl) (by kernel_rfl) (by exact hS0.out) ?_
              generalize X1.drew = wd at *
              repeat ((first | refine RegP.puT ?_ | refine RegP.heT ?_); try simp only [Act.put, pA,pB,pC])
              refine RegP.forkT (by (simp only [gA,gB,gC]); rfl) (by (simp only [gA,gB,gC]); rfl) (fun K hK => ?_) (fun K hK => ?_)
              · go_simp
                have hbq := (Below.refl wd.heap.size wd).alloc (Nat.le_refl _) (.cells #[.string (B f.n), .slice A1 f.b.length c1] GF)
                have hP5_5 : Hid ((wd.alloc (.cells #[.string (B f.n), .slice A1 f.b.length c1] GF)).heap[wd.heap.size]? = some (.cells #[.string (B f.n), .slice A1 f.b.length c1] GF (0, 0))) := heap_alloc_new _ _
                have hT5 := Lib.hid (hTwd.out.below hbq)
                clear hbq
                generalize wd.alloc (.cells #[.string (B f.n), .slice A1 f.b.length c1] GF) = Y5 at *
                refine hK.out _ _ ?_ (fun hHeld => ?_)
                · (try dsimp only); exact hKc.out _ hT5.out.b
                clear hK K
                try simp only [Act.put, pA,pB,pC]
                refine RegP.forkT (by (simp only [gA,gB,gC]); rfl) (by (simp only [gA,gB,gC]); rfl) (fun K hK => ?_) (fun K hK => ?_)
                · refine step_append_at (w0 := Wb) (W := Y5) Wb.heap.size rfl _ _ 23 GF (.agg #[.string ⟨#[]⟩, .slice none 0 0]) 2 40 rfl Tryz.underlying23 (by kernel_rfl) rfl (by decide) (by decide) (.slice As sl.length cs) sl.length (ecells sl) [.string (B f.n), .slice A1 f.b.length c1] wd.heap.size rfl rfl rfl (by intro u hu; rcases List.mem_cons.1 hu with rfl | hu; rfl; rw [List.mem_singleton.1 hu]; rfl) hP5_5.out hT5.out.s hT5.out.b hT5.out.b.size (by omega) ?_
                  intro v6 Y5_6 ho6 hb6 hg6 hf6
                  have hT5_6 : Hid (Two Wb Y5_6 v6 (sl ++ [⟨f, A1, c1⟩]) (.slice At tl.length ct) tl) := hT5.out.pushS (x := ⟨f, A1, c1⟩) ho6 hb6 hg6 hf6
                  obtain ⟨A6, c6, rfl⟩ := row_form hT5_6.out.s
                  clear ho6 hb6 hg6 hf6
                  refine hK.out _ _ ?_ (fun hHeld => ?_)
                  · (try dsimp only); exact hKc.out _ hT5_6.out.b
                  clear hK K
                  try simp only [Act.put, pA,pB,pC]
                  refine RegP.evT (by (simp only [gA,gB,gC]); rfl) (fun K hK => ?_)
                  go_simp
                  have hbq := (Below.refl Y5_6.heap.size Y5_6).alloc (Nat.le_refl _) (.cells #[.string (B f.n), .slice A1 f.b.length c1] GF)
                  have hP12_5_6_12 : Hid ((Y5_6.alloc (.cells #[.string (B f.n), .slice A1 f.b.length c1] GF)).heap[Y5_6.heap.size]? = some (.cells #[.string (B f.n), .slice A1 f.b.length c1] GF (0, 0))) := heap_alloc_new _ _
                  have hT5_6_12 := Lib.hid (hT5_6.out.below hbq)
                  clear hbq
                  generalize Y5_6.alloc (.cells #[.string (B f.n), .slice A1 f.b.length c1] GF) = Y5_6_12 at *
                  refine hK.out _ _ ?_ (fun hHeld => ?_)
                  · (try dsimp only); exact hKc.out _ hT5_6_12.out.b
                  clear hK K
                  try simp only [Act.put, pA,pB,pC]
                  refine RegP.evT (by (simp only [gA,gB,gC]); rfl) (fun K hK => ?_)
                  refine step_append_at (w0 := Wb) (W := Y5_6_12) Wb.heap.size rfl _ _ 23 GF (.agg #[.string ⟨#[]⟩, .slice none 0 0]) 2 40 rfl Tryz.underlying23 (by kernel_rfl) rfl (by decide) (by decide) (.slice At tl.length ct) tl.length (ecells tl) [.string (B f.n), .slice A1 f.b.length c1] Y5_6.heap.size rfl rfl rfl (by intro u hu; rcases List.mem_cons.1 hu with rfl | hu; rfl; rw [List.mem_singleton.1 hu]; rfl) hP12_5_6_12.out hT5_6_12.out.t hT5_6_12.out.b hT5_6_12.out.b.size (by omega) ?_
                  intro v13 Y5_6_12_13 ho13 hb13 hg13 hf13
                  have hT5_6_12_13 : Hid (Two Wb Y5_6_12_13 (.slice A6 (sl ++ [(⟨f, A1, c1⟩ : Ent)]).length c6) (sl ++ [⟨f, A1, c1⟩]) v13 (tl ++ [⟨f, A1, c1⟩])) := hT5_6_12.out.pushT (x := ⟨f, A1, c1⟩) ho13 hb13 hg13 hf13
                  obtain ⟨A13, c13, rfl⟩ := row_form hT5_6_12_13.out.t
                  clear ho13 hb13 hg13 hf13
                  refine hK.out _ _ ?_ (fun hHeld => ?_)
                  · (try dsimp only); exact hKc.out _ hT5_6_12_13.out.b
                  clear hK K
                  try simp only [Act.put, pA,pB,pC]
                  repeat ((first | refine RegP.puT ?_ | refine RegP.heT ?_); try simp only [Act.put, pA,pB,pC])
                  refine RegP.doneT ?_
                  clear hHeld
                  try dsimp only
                  go_wp2_with fail
                  go_roundg gk
                  case measure => omega
                  case rel => exact ⟨i + 1, A6, A13, c6, c13, sl ++ [⟨f, A1, c1⟩], tl ++ [⟨f, A1, c1⟩], by simp, by simp, by first | rfl | simp, by omega, hls, hlt2, hT5_6_12_13, hE2⟩
                · go_simp
                  have hbq := (Below.refl Y5.heap.size Y5).alloc (Nat.le_refl _) (.cells #[.string (B f.n), .slice A1 f.b.length c1] GF)
                  have hP12_5_12 : Hid ((Y5.alloc (.cells #[.string (B f.n), .slice A1 f.b.length c1] GF)).heap[Y5.heap.size]? = some (.cells #[.string (B f.n), .slice A1 f.b.length c1] GF (0, 0))) := heap_alloc_new _ _
                  have hT5_12 := Lib.hid (hT5.out.below hbq)
                  have hP5_5_12 := Lib.hid ((hbq.block _ (Array.getElem?_eq_some_iff.1 hP5_5.out).1).trans hP5_5.out)
                  have hL12 : Hid (∀ k, (Value.slice As sl.length cs).ownBlock = some k → k < Y5.heap.size) := fun k e => own_lt hT5.out.s k e
                  clear hbq
                  generalize Y5.alloc (.cells #[.string (B f.n), .slice A1 f.b.length c1] GF) = Y5_12 at *
                  refine hK.out _ _ ?_ (fun hHeld => ?_)
                  · (try dsimp only); exact hKc.out _ hT5_12.out.b
                  clear hK K
                  try simp only [Act.put, pA,pB,pC]
                  refine RegP.evT (by (simp only [gA,gB,gC]); rfl) (fun K hK => ?_)
                  refine step_append_at (w0 := Wb) (W := Y5_12) Wb.heap.size rfl _ _ 23 GF (.agg #[.string ⟨#[]⟩, .slice none 0 0]) 2 40 rfl Tryz.underlying23 (by kernel_rfl) rfl (by decide) (by decide) (.slice As sl.length cs) sl.length (ecells sl) [.string (B f.n), .slice A1 f.b.length c1] wd.heap.size rfl rfl rfl (by intro u hu; rcases List.mem_cons.1 hu with rfl | hu; rfl; rw [List.mem_singleton.1 hu]; rfl) hP5_5_12.out hT5_12.out.s hT5_12.out.b hT5_12.out.b.size (by omega) ?_
                  intro v6 Y5_12_6 ho6 hb6 hg6 hf6
                  have hT5_12_6 : Hid (Two Wb Y5_12_6 v6 (sl ++ [⟨f, A1, c1⟩]) (.slice At tl.length ct) tl) := hT5_12.out.pushS (x := ⟨f, A1, c1⟩) ho6 hb6 hg6 hf6
                  have hP12_5_12_6 := Lib.hid ((hg6.block _ (Array.getElem?_eq_some_iff.1 hP12_5_12.out).1 (fun e => absurd (hL12.out _ e.symm) (Nat.lt_irrefl _))).trans hP12_5_12.out)
                  obtain ⟨A6, c6, rfl⟩ := row_form hT5_12_6.out.s
                  clear ho6 hb6 hg6 hf6
                  refine hK.out _ _ ?_ (fun hHeld => ?_)
                  · (try dsimp only); exact hKc.out _ hT5_12_6.out.b
                  clear hK K
                  try simp only [Act.put, pA,pB,pC]
                  refine RegP.evT (by (simp only [gA,gB,gC]); rfl) (fun K hK => ?_)
                  refine step_append_at (w0 := Wb) (W := Y5_12_6) Wb.heap.size rfl _ _ 23 GF (.agg #[.string ⟨#[]⟩, .slice none 0 0]) 2 40 rfl Tryz.underlying23 (by kernel_rfl) rfl (by decide) (by decide) (.slice At tl.length ct) tl.length (ecells tl) [.string (B f.n), .slice A1 f.b.length c1] Y5.heap.size rfl rfl rfl (by intro u hu; rcases List.mem_cons.1 hu with rfl | hu; rfl; rw [List.mem_singleton.1 hu]; rfl) hP12_5_12_6.out hT5_12_6.out.t hT5_12_6.out.b hT5_12_6.out.b.size (by omega) ?_
                  intro v13 Y5_12_6_13 ho13 hb13 hg13 hf13
                  have hT5_12_6_13 : Hid (Two Wb Y5_12_6_13 (.slice A6 (sl ++ [(⟨f, A1, c1⟩ : Ent)]).length c6) (sl ++ [⟨f, A1, c1⟩]) v13 (tl ++ [⟨f, A1, c1⟩])) := hT5_12_6.out.pushT (x := ⟨f, A1, c1⟩) ho13 hb13 hg13 hf13
                  obtain ⟨A13, c13, rfl⟩ := row_form hT5_12_6_13.out.t
                  clear ho13 hb13 hg13 hf13
                  refine hK.out _ _ ?_ (fun hHeld => ?_)
                  · (try dsimp only); exact hKc.out _ hT5_12_6_13.out.b
                  clear hK K
                  try simp only [Act.put, pA,pB,pC]
                  repeat ((first | refine RegP.puT ?_ | refine RegP.heT ?_); try simp only [Act.put, pA,pB,pC])
                  refine RegP.doneT ?_
                  clear hHeld
                  try dsimp only
                  go_wp2_with fail
                  go_roundg gk
                  case measure => omega
                  case rel => exact ⟨i + 1, A6, A13, c6, c13, sl ++ [⟨f, A1, c1⟩], tl ++ [⟨f, A1, c1⟩], by simp, by simp, by first | rfl | simp, by omega, hls, hlt2, hT5_12_6_13, hE2⟩
              · go_simp
                have hbq := (Below.refl wd.heap.size wd).alloc (Nat.le_refl _) (.cells #[.string (B f.n), .slice A1 f.b.length c1] GF)
                have hP12_12 : Hid ((wd.alloc (.cells #[.string (B f.n), .slice A1 f.b.length c1] GF)).heap[wd.heap.size]? = some (.cells #[.string (B f.n), .slice A1 f.b.length c1] GF (0, 0))) := heap_alloc_new _ _
                have hT12 := Lib.hid (hTwd.out.below hbq)
                have hL12 : Hid (∀ k, (Value.slice As sl.length cs).ownBlock = some k → k < wd.heap.size) := fun k e => own_lt hTwd.out.s k e
                clear hbq
                generalize wd.alloc (.cells #[.string (B f.n), .slice A1 f.b.length c1] GF) = Y12 at *
                refine hK.out _ _ ?_ (fun hHeld => ?_)
                · (try dsimp only); exact hKc.out _ hT12.out.b
                clear hK K
                try simp only [Act.put, pA,pB,pC]
                refine RegP.evT (by (simp only [gA,gB,gC]); rfl) (fun K hK => ?_)
                go_simp
                have hbq := (Below.refl Y12.heap.size Y12).alloc (Nat.le_refl _) (.cells #[.string (B f.n), .slice A1 f.b.length c1] GF)
                have hP5_12_5 : Hid ((Y12.alloc (.cells #[.string (B f.n), .slice A1 f.b.length c1] GF)).heap[Y12.heap.size]? = some (.cells #[.string (B f.n), .slice A1 f.b.length c1] GF (0, 0))) := heap_alloc_new _ _
                have hT12_5 := Lib.hid (hT12.out.below hbq)
                have hP12_12_5 := Lib.hid ((hbq.block _ (Array.getElem?_eq_some_iff.1 hP12_12.out).1).trans hP12_12.out)
                clear hbq
                generalize Y12.alloc (.cells #[.string (B f.n), .slice A1 f.b.length c1] GF) = Y12_5 at *
                refine hK.out _ _ ?_ (fun hHeld => ?_)
                · (try dsimp only); exact hKc.out _ hT12_5.out.b
                clear hK K
                try simp only [Act.put, pA,pB,pC]
                refine RegP.evT (by (simp only [gA,gB,gC]); rfl) (fun K hK => ?_)
                refine step_append_at (w0 := Wb) (W := Y12_5) Wb.heap.size rfl _ _ 23 GF (.agg #[.string ⟨#[]⟩, .slice none 0 0]) 2 40 rfl Tryz.underlying23 (by kernel_rfl) rfl (by decide) (by decide) (.slice As sl.length cs) sl.length (ecells sl) [.string (B f.n), .slice A1 f.b.length c1] Y12.heap.size rfl rfl rfl (by intro u hu; rcases List.mem_cons.1 hu with rfl | hu; rfl; rw [List.mem_singleton.1 hu]; rfl) hP5_12_5.out hT12_5.out.s hT12_5.out.b hT12_5.out.b.size (by omega) ?_
                intro v6 Y12_5_6 ho6 hb6 hg6 hf6
                have hT12_5_6 : Hid (Two Wb Y12_5_6 v6 (sl ++ [⟨f, A1, c1⟩]) (.slice At tl.length ct) tl) := hT12_5.out.pushS (x := ⟨f, A1, c1⟩) ho6 hb6 hg6 hf6
                have hP12_12_5_6 := Lib.hid ((hg6.block _ (Array.getElem?_eq_some_iff.1 hP12_12_5.out).1 (fun e => absurd (hL12.out _ e.symm) (Nat.lt_irrefl _))).trans hP12_12_5.out)
                obtain ⟨A6, c6, rfl⟩ := row_form hT12_5_6.out.s
                clear ho6 hb6 hg6 hf6
                refine hK.out _ _ ?_ (fun hHeld => ?_)
                · (try dsimp only); exact hKc.out _ hT12_5_6.out.b
                clear hK K
                try simp only [Act.put, pA,pB,pC]
                refine RegP.evT (by (simp only [gA,gB,gC]); rfl) (fun K hK => ?_)
                refine step_append_at (w0 := Wb) (W := Y12_5_6) Wb.heap.size rfl _ _ 23 GF (.agg #[.string ⟨#[]⟩, .slice none 0 0]) 2 40 rfl Tryz.underlying23 (by kernel_rfl) rfl (by decide) (by decide) (.slice At tl.length ct) tl.length (ecells tl) [.string (B f.n), .slice A1 f.b.length c1] wd.heap.size rfl rfl rfl (by intro u hu; rcases List.mem_cons.1 hu with rfl | hu; rfl; rw [List.mem_singleton.1 hu]; rfl) hP12_12_5_6.out hT12_5_6.out.t hT12_5_6.out.b hT12_5_6.out.b.size (by omega) ?_
                intro v13 Y12_5_6_13 ho13 hb13 hg13 hf13
                have hT12_5_6_13 : Hid (Two Wb Y12_5_6_13 (.slice A6 (sl ++ [(⟨f, A1, c1⟩ : Ent)]).length c6) (sl ++ [⟨f, A1, c1⟩]) v13 (tl ++ [⟨f, A1, c1⟩])) := hT12_5_6.out.pushT (x := ⟨f, A1, c1⟩) ho13 hb13 hg13 hf13
                obtain ⟨A13, c13, rfl⟩ := row_form hT12_5_6_13.out.t
                clear ho13 hb13 hg13 hf13
                refine hK.out _ _ ?_ (fun hHeld => ?_)
                · (try dsimp only); exact hKc.out _ hT12_5_6_13.out.b
                clear hK K
                try simp only [Act.put, pA,pB,pC]
                repeat ((first | refine RegP.puT ?_ | refine RegP.heT ?_); try simp only [Act.put, pA,pB,pC])
                refine RegP.doneT ?_
                clear hHeld
                try dsimp only
                go_wp2_with fail
                go_roundg gk
                case measure => omega
                case rel => exact ⟨i + 1, A6, A13, c6, c13, sl ++ [⟨f, A1, c1⟩], tl ++ [⟨f, A1, c1⟩], by simp, by simp, by first | rfl | simp, by omega, hls, hlt2, hT12_5_6_13, hE2⟩
            | false =>
              have hE2 : Hid (Reads Wb sl ∧ Reads Wb (tl ++ [⟨⟨f.n, mb⟩, am, capm⟩]) ∧ sl.map Ent.f = (fs.take (i + 1)).filter (fun f => kl.contains f.n) ∧ (tl ++ [(⟨⟨f.n, mb⟩, am, capm⟩ : Ent)]).map Ent.f = (fs.take (i + 1)).map (turnF kl mb)) := by
                obtain ⟨r1, r2, r3, r4⟩ := hEq.out
                have hct : kl.contains f.n = false := by rw [contains_iff]; exact hdm
                refine ⟨r1, r2.push (by rw [hlmH.out]; exact hcapm) (by rw [hlmH.out]; exact Kd.C_below (by have := hCmH.out; rw [hlmH.out] at this; exact this) hBb.out), ?_, ?_⟩
                · rw [r3, hTk.out, List.filter_append]
                  simp [List.filter_cons, hct]
                  exact of_decide_eq_false hdm
                · rw [List.map_append, r4, hTk.out, List.map_append]
                  simp only [List.map_cons, List.map_nil, turnF, hct]
                  rfl
              have hlt2 : (tl ++ [(⟨⟨f.n, mb⟩, am, capm⟩ : Ent)]).length ≤ 10 := by rw [List.length_append, List.length_singleton]; exact hlen1.2
              have hbase := hTw1.out.b.size
              clear hdm hEq
              go_wp2_with (at_builtin; go_loud (refine print_append_cells (w0 := Wb) (W := X1) Wb.heap.size rfl _ _ 23 GF (.agg #[.string ⟨#[]⟩, .slice none 0 0]) 2 40 rfl Tryz.underlying23 (by kernel_rfl) rfl (by decide) (by decide) (.slice At tl.length ct) tl.length (ecells tl) [.string (B f.n), .slice am lm capm] rfl rfl rfl (by intro u hu; rcases List.mem_cons.1 hu with rfl | hu; rfl; rw [List.mem_singleton.1 hu]; rfl) hTw1.out.t hTw1.out.b hbase (by omega) ?_))
              intro v2 X2 ho2 hb2 hg2 hf2
              have hTw2 : Hid (Two Wb X2 (.slice As sl.length cs) sl v2 (tl ++ [⟨⟨f.n, mb⟩, am, capm⟩])) := hTw1.out.pushT (x := ⟨⟨f.n, mb⟩, am, capm⟩) (by dsimp only; rw [hlmH.out]; exact ho2) hb2 hg2 hf2
              obtain ⟨A2', c2', rfl⟩ := row_form hTw2.out.t
              clear ho2 hb2 hg2 hf2 hTw1 q1
              go_wp2_with fail
              go_roundg gk
              case measure => omega
              case rel => exact ⟨i + 1, As, A2', cs, c2', sl, tl ++ [⟨⟨f.n, mb⟩, am, capm⟩], by first | rfl | simp, by first | rfl | simp, by first | rfl | simp, by omega, by omega, hlt2, hTw2, hE2⟩
          | zero =>
            obtain rfl : N = i := by omega
            have hlt : decide ((N : Int) < (N : Int)) = false := by simp
            obtain ⟨r1, r2, r3, r4⟩ := hEq.out
            rw [List.take_of_length_le (by rw [hNH.out]; exact Nat.le_refl _)] at r3 r4
            have hSC := ents_C hTw.out.s (r1.below' hTw.out.b)
            have hTC := ents_C hTw.out.t (r2.below' hTw.out.b)
            rw [List.length_map, List.length_map, List.length_map] at hSC hTC
            obtain ⟨A', c', he, hlcs, hCs⟩ := hSC
            injection he with e1 _ e3
            subst e1 e3
            obtain ⟨A', c', he, hlct, hCt⟩ := hTC
            injection he with e1 _ e3
            subst e1 e3
            have hslS : Hid (lightB (sl.map Ent.f) = true) := by show _ = _; rw [r3]; exact filter_light hlH.out _
            have hslT : Hid (lightB (tl.map Ent.f) = true) := by show _ = _; rw [r4]; exact turned_light hlH.out (by rw [hlmH.out]; exact hm3)
            have hcS2 := hcS.out
            have hcT2 := hcT.out
            rw [← r3] at hcS2
            rw [← r4] at hcT2
            have hcSH := Lib.hid hcS2
            have hcTH := Lib.hid hcT2
            obtain ⟨SS, hSS⟩ : ∃ x, sl.map Ent.f = x := ⟨_, rfl⟩
            obtain ⟨TT, hTT⟩ : ∃ x, tl.map Ent.f = x := ⟨_, rfl⟩
            have hSl : SS.length = sl.length := by rw [← hSS, List.length_map]
            have hTl : TT.length = tl.length := by rw [← hTT, List.length_map]
            rw [hSS] at hCs hslS hcSH
            rw [hTT] at hCt hslT hcTH
            obtain ⟨ns, hns⟩ : ∃ x, sl.length = x := ⟨_, rfl⟩
            obtain ⟨nt, hnt⟩ : ∃ x, tl.length = x := ⟨_, rfl⟩
            rw [hns] at hlcs hCs hSl hsl ⊢
            rw [hnt] at hlct hCt hTl htl ⊢
            obtain ⟨Wc, hWc⟩ : ∃ x, x = wr := ⟨_, rfl⟩
            subst hWc
            have hBc : Hid (Below W.heap.size W Wc) := hBb.out.trans (hTw.out.b.mono hBb.out.size)
            have hDc : Hid (DishR Wc W4.heap.size db Ao n co names b once dep deps) := hDb.out.below hTw.out.b
            have hSlH := Lib.hid hSl
            have hTlH := Lib.hid hTl
            have hCsH : Hid (Kd.C KG Wc As (SS.map toG).length (SS.map toG)) := by show Kd.C _ _ _ _ _; rw [List.length_map, hSlH.out]; exact hCs
            have hCtH : Hid (Kd.C KG Wc At (TT.map toG).length (TT.map toG)) := by show Kd.C _ _ _ _ _; rw [List.length_map, hTlH.out]; exact hCt
            clear r1 r2 r3 r4 hEq hTw hcS hcT hcS2 hcT2 hSS hTT hns hnt hSl hTl hCs hCt hDb hBb hC9
            clear hDc
            have hl1 : Hid (∀ f ∈ SS, f.b.length ≤ 100000) := fun f hf => by have := (light_parts hslS.out).2.1 f hf; omega
            have hl2 : Hid (∀ f ∈ TT, f.b.length ≤ 100000) := fun f hf => by have := (light_parts hslT.out).2.1 f hf; omega
            have hO := of_any As cs SS Wc hCsH.out (by rw [hSlH.out]; exact hlcs) hslS.out
            rw [hSlH.out] at hO
            have hOH := Lib.hid hO
            clear hO
            go_wp2_with fail
            refine hOH.out.mono ?_
            rintro e X1 ⟨A3, c3, rfl, hC3, hx1⟩
            have hB1 := Lib.hid (hBc.out.trans (hx1.mono hBc.out.size))
            have hCt1 := Lib.hid (Kd.C_below hCtH.out hx1)
            have hK := Lib.hid (Cook_at cmd (by omega) ⟨ws, SS⟩ M ns capw c3 aw A3 X1 ⟨Kd.C_below hCwH.out hB1.out, hC3, by show ws.length ≤ _; rw [hMH.out]; omega, by show SS.length ≤ _; rw [hSlH.out]; omega, hl1.out⟩ (htH.out.below hB1.out) hMH.out hSlH.out (B cmd) rfl)
            clear hx1 hC3 hOH
            go_wp2_with fail
            refine hK.out.mono ?_
            rintro e X2 ⟨hx2, hP2⟩
            rw [hcSH.out] at hP2
            obtain ⟨vx, names2, b2, hD2, rfl, ho2⟩ := hP2
            dsimp only at hD2 ho2 ⊢
            injection hD2 with hD2 _ _ _
            obtain ⟨rfl, rfl⟩ := same_names hD2 hne.out
            obtain ⟨Ax, cx, rfl⟩ := ho2.form
            rw [hnH.out] at ho2 ⊢
            obtain ⟨X3, hX3⟩ : ∃ X3, X2.alloc (.cells #[.slice Ax n cx, .bool once, .string (B dep), .string (B deps)] 30) = X3 := ⟨_, rfl⟩
            have hx23 : Below X2.heap.size X2 X3 := by rw [← hX3]; exact (Below.refl _ _).alloc (Nat.le_refl _) _
            obtain ⟨xb, hxb⟩ : ∃ d, X2.heap.size = d := ⟨_, rfl⟩
            have hDx : Hid (DishR X3 X1.heap.size xb Ax n cx names2 b2 once dep deps) := ⟨by rw [← hxb, ← hX3]; exact heap_alloc_new _ _, ho2.move (fun k _ h2 => hx23.block k h2), hnH.out⟩
            have hB3 := Lib.hid ((hB1.out.trans (hx2.mono hB1.out.size)).trans (hx23.mono (hB1.out.trans (hx2.mono hB1.out.size)).size))
            have hCt3 := Lib.hid (Kd.C_below (Kd.C_below hCt1.out hx2) hx23)
            clear hx2 hx23 hD2 ho2 hK
            go_upto_region 21 with (fail)
            clear hX3 hxb
            have hMi : (M : Int) ≤ (capw : Int) := by omega
            have hcut3 : ∀ Wq : World, (Instr.slice 22 (.slice aw M capw) none (some (.int .i64 (M : Int))) (some (.int .i64 (M : Int)))).run Tryz.prog Wq = .ok (.slice aw M M) Wq := fun Wq => by
              have hel : (Tryz.prog).elem 22 = 9 := by simp [Program.elem, Tryz.underlying22]
              have h1 := run_slice_hm (P := Tryz.prog) Wq 22 aw M capw (by rw [hel]; exact Tryz.underlying22) .i64 .i64 (M : Int) (M : Int) (by omega) (Int.le_refl _) hMi
              rw [h1, hel]
              have ha : (aw.map fun x => x.add 0) = aw := by cases aw <;> simp [Addr.add]
              simp [sizeOf, typeInfo, hinfS, sliced, Result.andThen, ha]
            have hCw3 := Kd.C_below hCwH.out hB3.out
            have hcells := Lib.hid (strs_cells hCw3)
            have hnone := Lib.hid (none_zero hCw3 hMH.out)
            have hbz : Below X3.heap.size X3 (X3.alloc (.cells #[.string ⟨#[122, 122]⟩] 9)) := (Below.refl _ _).alloc (Nat.le_refl _) _
            have hcz : ∀ b, aw = some b → ∀ j u, (strs ws)[j]? = some u → (X3.alloc (.cells #[.string ⟨#[122, 122]⟩] 9)).cell? (b.add j) = some u := fun b hb j u hu => below_cell hbz (hcells.out b hb j u hu)
            have hczH := Lib.hid hcz
            have hnz : Hid (∀ (j : Nat) (u : Value), ([.string ⟨#[122, 122]⟩] : List Value)[j]? = some u → (X3.alloc (.cells #[.string ⟨#[122, 122]⟩] 9)).cell? ((⟨X3.heap.size, 0, none⟩ : Addr).add j) = some u) := by
              have h1 := World.news_of_block (cs := #[.string ⟨#[122, 122]⟩]) (t := 9) (fr := (0, 0)) (heap_alloc_new X3 (.cells #[.string ⟨#[122, 122]⟩] 9))
              intro j u hu
              simpa using h1 j u (by simpa using hu)
            have hbzH := Lib.hid hbz
            have hz0H := Lib.hid hz0
            have hz1H := Lib.hid hz1
            have hz2H := Lib.hid hz2
            have hinfH := Lib.hid hinfS
            have hwsL : Hid ((strs ws).length = M * 1) := by show _ = _; rw [Nat.mul_one, ← hMH.out]; simp [strs]
            clear hCw3 hcz hbz hz0 hz1 hz2 hinfS
            go_wp2_with (at_builtin; go_loud (refine wpList_append_grows _ rfl _ _ 22 rfl 9 infS _ 1 16 Tryz.underlying22 hinfH.out hz0H.out hz1H.out hz2H.out rfl (by decide) aw M M (strs ws) rfl hnone.out hwsL.out hczH.out ⟨X3.heap.size, 0, none⟩ 1 1 [.string ⟨#[122, 122]⟩] rfl rfl hnz.out (by intro u hu; rw [List.mem_singleton.1 hu]; rfl) (by omega) (by simp only [maxLen]; omega) (by omega) ?_))
            intro v4 X4 ho4 hg4
            have hB4' : Hid (Below X3.heap.size X3 X4) := hbzH.out.trans ⟨hg4.os, hg4.tape, hg4.output, Nat.le_trans (by simp) hg4.size, fun k hk => hg4.block k (by simp; omega) (by simp)⟩
            obtain ⟨A4, c4, rfl, hl4, hC4⟩ := row_reads (l := ws ++ [[122, 122]]) (by
              rw [List.length_append, List.length_singleton, hMH.out]
              have h1 := ho4
              rw [show strs ws ++ [Value.string ⟨#[122, 122]⟩] = strs (ws ++ [[122, 122]]) by simp [strs]] at h1
              exact h1)
            rw [List.length_append, List.length_singleton, hMH.out] at hl4 ⊢
            have hC4H := Lib.hid hC4
            have hB4 := Lib.hid (hB3.out.trans (hB4'.out.mono hB3.out.size))
            have hDx4 := Lib.hid (hDx.out.below hB4'.out)
            have hO := of_any At ct TT X4 (Kd.C_below hCt3.out hB4'.out) (by rw [hTlH.out]; exact hlct) hslT.out
            rw [hTlH.out] at hO
            have hOH := Lib.hid hO
            clear hO ho4 hg4 hC4 hB4' hcut3
            go_wp2_with fail
            refine hOH.out.mono ?_
            rintro e X5 ⟨A5, c5, rfl, hC5, hx5⟩
            have hB5' := Lib.hid (hB4.out.trans (hx5.mono hB4.out.size))
            have hDx5 := Lib.hid (hDx4.out.below hx5)
            have hML : Hid ((ws ++ [[122, 122]]).length = M + 1) := by show _ = _; rw [List.length_append, List.length_singleton, hMH.out]
            have hK := Lib.hid (Cook_at cmd (by omega) ⟨ws ++ [[122, 122]], TT⟩ (M + 1) nt c4 c5 A4 A5 X5 ⟨Kd.C_below hC4H.out hx5, hC5, by show (ws ++ [[122, 122]]).length ≤ _; rw [hML.out]; omega, by show TT.length ≤ _; rw [hTlH.out]; omega, hl2.out⟩ (htH.out.below hB5'.out) hML.out hTlH.out (B cmd) rfl)
            clear hx5 hC5 hOH
            go_wp2_with fail
            refine hK.out.mono ?_
            rintro e X6 ⟨hx6, hP6⟩
            rw [hcTH.out] at hP6
            obtain ⟨vy, names3, b3, hD3, rfl, ho6⟩ := hP6
            dsimp only at hD3 ho6 ⊢
            injection hD3 with hD3 _ _ _
            obtain ⟨rfl, rfl⟩ := same_names hD3 hne.out
            obtain ⟨Ay, cy, rfl⟩ := ho6.form
            rw [hnH.out] at ho6 ⊢
            obtain ⟨X7, hX7⟩ : ∃ X7, X6.alloc (.cells #[.slice Ay n cy, .bool once, .string (B dep), .string (B deps)] 30) = X7 := ⟨_, rfl⟩
            have hx67 : Below X6.heap.size X6 X7 := by rw [← hX7]; exact (Below.refl _ _).alloc (Nat.le_refl _) _
            obtain ⟨yb, hyb⟩ : ∃ d, X6.heap.size = d := ⟨_, rfl⟩
            have hDy : Hid (DishR X7 X5.heap.size yb Ay n cy names3 b3 once dep deps) := ⟨by rw [← hyb, ← hX7]; exact heap_alloc_new _ _, ho6.move (fun k _ h2 => hx67.block k h2), hnH.out⟩
            have hB7' := Lib.hid ((hB5'.out.trans (hx6.mono hB5'.out.size)).trans (hx67.mono (hB5'.out.trans (hx6.mono hB5'.out.size)).size))
            have hDx7 := Lib.hid ((hDx5.out.below hx6).below hx67)
            clear hx6 hx67 hD3 ho6 hK
            go_upto_region 22 with (fail)
            clear hX7 hyb
            have hRC := refCook_any cmd (by omega) ⟨ws, fs⟩ _ hceH.out aw a capw cap X7 (Kd.C_below hCwH.out hB7'.out) (by show ws.length ≤ _; rw [hMH.out]; omega) (by show ws.length ≤ _; rw [hMH.out]; exact hcapw) (Kd.C_below hCH.out hB7'.out) (by show fs.length ≤ _; rw [hNH.out]; omega) f2H.out
            dsimp only at hRC
            rw [hMH.out, hNH.out] at hRC
            have hRCH := Lib.hid hRC
            clear hRC
            go_wp2_with fail
            refine hRCH.out.mono ?_
            rintro e X8 ⟨hx8, names4, b4, Aw, cw, hD4, rfl, hlw, hCw8⟩
            dsimp only at hD4 ⊢
            injection hD4 with hD4 _ _ _
            obtain ⟨rfl, rfl⟩ := same_names hD4 hne.out
            rw [hnH.out] at hlw hCw8 ⊢
            obtain ⟨X9, hX9⟩ : ∃ X9, X8.alloc (.cells #[.slice Aw n cw, .bool once, .string (B dep), .string (B deps)] 43) = X9 := ⟨_, rfl⟩
            have hx89 : Below X8.heap.size X8 X9 := by rw [← hX9]; exact (Below.refl _ _).alloc (Nat.le_refl _) _
            obtain ⟨wb, hwb⟩ : ∃ d, X8.heap.size = d := ⟨_, rfl⟩
            have hDw : Hid (X9.heap[wb]? = some (.cells #[.slice Aw n cw, .bool once, .string (B dep), .string (B deps)] 43 (0, 0))) := by show _ = _; rw [← hwb, ← hX9]; exact heap_alloc_new _ _
            have hCw9 := Lib.hid (Kd.C_below hCw8 hx89)
            have hB9' := Lib.hid ((hB7'.out.trans (hx8.mono hB7'.out.size)).trans (hx89.mono (hB7'.out.trans (hx8.mono hB7'.out.size)).size))
            have hDx9 := Lib.hid ((hDx7.out.below hx8).below hx89)
            have hDy9 := Lib.hid ((hDy.out.below hx8).below hx89)
            clear hx8 hx89 hD4 hCw8 hRCH
            go_upto_region 23 with (fail)
            clear hX9 hwb
            have hSm : Hid (∀ X, Below X9.heap.size X9 X → ∀ A0 c0, Kd.C KF X A0 (names4.map fun n => toF ⟨n, b4⟩).length (names4.map fun n => toF ⟨n, b4⟩) → Calls Tryz.prog 12 #[.agg #[.slice A0 n c0, .bool once, .string (B dep), .string (B deps)], .agg #[.slice Aw n cw, .bool once, .string (B dep), .string (B deps)]] X fun e w' => e = .returned (.bool true) ∧ Below X.heap.size X w') := fun X hX A0 c0 h0 => by
              have := sameD_any names4 b4 once dep deps A0 Aw c0 cw X (by rw [hnH.out]; omega) h0 (by rw [List.length_map, hnH.out]; exact Kd.C_below hCw9.out hX)
              rw [hnH.out] at this; exact this
            have x0 := (cell_of_heap (j := 0) hDx9.out.h).trans rfl
            have x1 := (cell_of_heap (j := 1) hDx9.out.h).trans rfl
            have x2 := (cell_of_heap (j := 2) hDx9.out.h).trans rfl
            have x3 := (cell_of_heap (j := 3) hDx9.out.h).trans rfl
            have w0 := (cell_of_heap (j := 0) hDw.out).trans rfl
            have w1 := (cell_of_heap (j := 1) hDw.out).trans rfl
            have w2 := (cell_of_heap (j := 2) hDw.out).trans rfl
            have w3 := (cell_of_heap (j := 3) hDw.out).trans rfl
            go_wp2_with fail
            refine (hSm.out X9 (Below.refl _ _) Ax cx hDx9.out.reads).mono ?_
            rintro e Y1 ⟨rfl, hy1⟩
            have hBy1 := Lib.hid (hB9'.out.trans (hy1.mono hB9'.out.size))
            have hDy1 := Lib.hid (hDy9.out.below hy1)
            have hDw1 := Lib.hid ((hy1.block _ (Array.getElem?_eq_some_iff.1 hDw.out).1).trans hDw.out)
            have hy1H := Lib.hid hy1
            clear hy1 x0 x1 x2 x3 w0 w1 w2 w3
            have x0 := (cell_of_heap (j := 0) hDy1.out.h).trans rfl
            have x1 := (cell_of_heap (j := 1) hDy1.out.h).trans rfl
            have x2 := (cell_of_heap (j := 2) hDy1.out.h).trans rfl
            have x3 := (cell_of_heap (j := 3) hDy1.out.h).trans rfl
            have w0 := (cell_of_heap (j := 0) hDw1.out).trans rfl
            have w1 := (cell_of_heap (j := 1) hDw1.out).trans rfl
            have w2 := (cell_of_heap (j := 2) hDw1.out).trans rfl
            have w3 := (cell_of_heap (j := 3) hDw1.out).trans rfl
            go_wp2_with fail
            refine (hSm.out Y1 hy1H.out Ay cy hDy1.out.reads).mono ?_
            rintro e Y2 ⟨rfl, hy2⟩
            have hBy2 := Lib.hid (hBy1.out.trans (hy2.mono hBy1.out.size))
            clear hy2 x0 x1 x2 x3 w0 w1 w2 w3
            go_wp2_with fail
            refine (hAw.out _ hBy2.out).mono ?_
            rintro e Y3 ⟨rfl, hy3⟩
            have hBy3 := Lib.hid (hBy2.out.trans (hy3.mono hBy2.out.size))
            go_wp2_with fail
            go_ret
            exact ⟨rfl, hBy3.out⟩
end Go.Proofs.YtbklhcjcgiblkaaGreatDoor.Ck
end
section
namespace Go.Proofs.YtbklhcjcgiblkaaGreatDoor.cookAlone
open Go.ChangeShapes Go.WideShapes Go.ChangeAt Go.RowKit
open Go.ChangeMaps (open_string shut_string)
set_option linter.unusedVariables false
theorem own : ownKnob Tryz.prog.godebug = none := by kernel_rfl
theorem laidOut : laidOutB Tryz.prog = true := by kernel_rfl
set_option maxRecDepth 100000 in
theorem lifted (os : Os) (started : os.Started) (H : Type) (enc : TypeId × Value → H) :
    ReturnsInHanded {} Tryz.checked os 3 .any (fun w args => (Rows.cookAloneSpec.pre enc Tryz.prog Tryz.f3 Rows.cookAloneRow.domain false w args ∧ laidMetH Tryz.prog Rows.cookAloneRow.laid w) ∧ sizedMet enc Tryz.prog Tryz.f3 (OpenSpec.ofChange Rows.cookAloneSpec) false w args) (Rows.cookAloneSpec.post enc Tryz.prog Tryz.f3 false true false false) := by
  refine returnsInHanded_of_change_and (C := Tryz.checked) (X := fun w _ => laidMetH Tryz.prog Rows.cookAloneRow.laid w) (fun _ _ _ hh h => h.of_heap hh) own started (by kernel_rfl) Tryz.func3
    (ChangeSpec.witness_shaped (enc := enc) (C := Tryz.checked) (os := os) (X := fun w _ => laidMetH Tryz.prog Rows.cookAloneRow.laid w) false (World.laidAll Tryz.prog os Rows.cookAloneRow.laid) #[.agg #[.string ByteArray.empty, .slice none 0 0, .slice none 0 0, .slice none 0 0]] 8 (World.laidAll_os _ _ _)
      (World.shaped_of_ZipB (by kernel_rfl) (by kernel_rfl)) (by kernel_rfl) (by kernel_rfl) (by kernel_rfl)
      (by rw [MakeChecks.laidMetH_plain _ _ _ (by kernel_rfl)]; exact laidMet_laidAll _ (by kernel_rfl) (by kernel_rfl))) ?_
  intro W base args ds gs before hval0 hW hcnd hsz0 hL _
  have hsz : (DataW.weightsEach Tryz.prog (Tryz.f3.params.toList ++ Rows.cookAloneSpec.plain.varTypes Tryz.prog) (ds ++ gs)).all (· ≤ reachBytes) = true := hsz0
  have hval : ∀ (j : Nat) t v, Tryz.f3.params[j]? = some t → args[j]? = some v → Value.okWide Tryz.prog W .any base t v := hval0
  have hW' := hW
  obtain ⟨p, q, hA0, hV, rfl, hfz, hnd⟩ := hW
  have hA : DataW.TrodAll enc Tryz.prog W 0 (fun _ => true) true Tryz.f3.params.toList args.toList ds p := hA0
  rw [Tryz.params3] at hA hval hsz
  obtain ⟨v0, vs0, d0, ds0, p0, q0, hargs, rfl, rfl, h0, r0⟩ := trodAll_cons hA
  obtain ⟨rfl, rfl, rfl⟩ := trodAll_nil r0
  obtain rfl : args = #[v0] := by cases args; simp_all
  obtain ⟨rfl, rfl⟩ := trodVars_none hV
  obtain ⟨a0, rfl, z0⟩ := okWide_struct Tryz.underlying26 (hval 0 26 v0 rfl rfl)
  have k0 := h0
  have lt0 : ∀ x ∈ p0, x.block < W.heap.size := by obtain ⟨m, hm⟩ := k0; exact DataW.trod_lt m _ _ _ hm
  obtain ⟨l0, w0⟩ := Ck.alone_open k0
  clear hA0 hval0 hsz0 hsz
  refine (Ck.alone_walk a0 l0 W (Tab.of_laid hL) w0).mono fun e W' ⟨he, bel⟩ => ?_
  subst he
  exact ⟨_, rfl, _, _, _, [], _, [], hW', trodAll_mk1 (shut_bool Tryz.underlying4 _), (trodAll_cons_mk (Below.trod laidOut (by kernel_rfl) (of_decide_eq_true (by kernel_rfl)) k0 bel lt0) trodAll_mk0), rfl, bel.frame _, fun h => by cases h⟩
theorem over : Rows.cookAloneRow.holds Tryz.pinned (OpenSpec.ofChange Rows.cookAloneSpec) :=
  OpenClaim.holds_of_wide 3 Tryz.f3 rfl rfl rfl rfl rfl rfl rfl ⟨rfl, rfl, rfl, rfl, rfl⟩ rfl rfl rfl rfl rfl (by kernel_rfl) Tryz.func3 (by kernel_rfl)
    (of_decide_eq_true (by kernel_rfl)) (by unfold Func.isWrapper; first | (rw [if_pos (by decide +kernel)]; kernel_rfl) | (rw [if_neg (by decide +kernel)]; exact ⟨rfl, rfl⟩))
    (fun os started H enc _ => lifted os started H enc)
theorem card : Rows.CookAloneCardSaid :=
  Claim7.holds_tied_plain_at .later [] [.data, .data, .data, .data, .pinned] true (true, "11392765a1b6f158479ca346436399a4f0f436776d6f0b5ae2629f08cf875c79") true over (fun _ h => by cases h) (by kernel_rfl) (fun _ h => by cases h) cookAlone_row_tie rfl ⟨rfl, rfl⟩ (by kernel_rfl) rfl
    (fun f fn hf hfn => by
      obtain rfl : f = 3 := Option.some.inj ((show Tryz.prog.funcNamed "bellows/bellowslaw15.CookAlone" = some 3 by kernel_rfl).symm.trans hf) |>.symm
      obtain rfl : fn = Tryz.f3 := (Option.some.inj (Tryz.func3.symm.trans hfn)).symm
      have hall : (Tryz.f3.params.toList.all fun u => !Tryz.prog.wantsStandIn u) = true := by kernel_rfl
      exact ⟨by kernel_rfl, fun j t ht => by
        have hm : t ∈ Tryz.f3.params.toList := by simpa using Array.mem_of_getElem? ht
        exact (show Tryz.prog.wantsStandIn t = false by simpa using List.all_eq_true.1 hall t hm)⟩)
    (by kernel_rfl)
#print axioms card
end Go.Proofs.YtbklhcjcgiblkaaGreatDoor.cookAlone
namespace Go.Proofs.YtbklhcjcgiblkaaGreatDoor
theorem cookAlone_card : Rows.CookAloneCardSaid := cookAlone.card
end Go.Proofs.YtbklhcjcgiblkaaGreatDoor
end
