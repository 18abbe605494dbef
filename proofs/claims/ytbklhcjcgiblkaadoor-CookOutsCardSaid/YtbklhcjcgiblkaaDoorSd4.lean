/- Laid together by wip/tools/shake.py from texts of this claim: CkOpen, CkFinds, CkOuts, CardCookOuts. -/
import Derived.Test.YtbklhcjcgiblkaaDoorSd3
import Derived.ChangeSlices
import Derived.ChangeArms
import Derived.ProofKit
import Derived.KernelRfl
import Derived.Test.YtbklhcjcgiblkaaDoorRows
import Derived.WalkKit
import Derived.OpenShut
import Derived.ShutString
import Derived.ChangeOld
import Derived.Below
import Derived.SizedLaws
import Derived.Carry
import Derived.LaidMore
import Derived.Lay
import Derived.SevenTiedAt
import Derived.Stop.Joined
import Derived.Test.YtbklhcjcgiblkaaDoorTie
import Derived.Test.YtbklhcjcgiblkaaDoorCards
section
set_option linter.unusedVariables false
namespace Go.Proofs.YtbklhcjcgiblkaaDoor.Ck
open Go.RowKit Go.ChangeShapes Go.WideShapes Go.Proofs.YtbklhcjcgiblkaaDoorW.PrintWords Go.Proofs.YtbklhcjcgiblkaaDoor.U Go.Proofs.YtbklhcjcgiblkaaDoor.P Go.Proofs.YtbklhcjcgiblkaaDoor.PTh Go.Proofs.YtbklhcjcgiblkaaDoor.MapV
def OpensP {α : Type} (t : TypeId) (d : Kd α) (Q : α → Prop) : Prop :=
  ∀ {H : Type} {enc : TypeId × Value → H} {W : World} {fuel : Nat} {cs : List Value} {x : DataW H × List MemPlace}, DataW.trod enc Tryd.prog W 0 (fun _ => true) true fuel t cs = some x → ∃ a, d.K W a cs ∧ Q a
theorem opensP_string : OpensP 9 Kd.string (fun s => ∃ l, s = B l) := by
  intro H enc W fuel cs x h
  obtain ⟨s, e, _, _⟩ := DataW.trod_string Tryd.underlying9 h
  obtain ⟨l, rfl⟩ := B_surj s
  exact ⟨_, e, l, rfl⟩
theorem opensP_u8 : OpensP 5 (Kd.int .u8) (fun z => ∃ c : UInt8, z = (c.toNat : Int)) := by
  intro H enc W fuel cs x h
  obtain ⟨lv, e0, _, wf⟩ := DataW.trod_int Tryd.underlying5 h
  have hw : 0 ≤ lv ∧ lv ≤ 255 := by have := wf; simp [Lit.wf] at this; exact ⟨this.1, this.2⟩
  refine ⟨lv, e0, UInt8.ofNat lv.toNat, ?_⟩
  rw [UInt8.toNat_ofNat']
  omega
theorem row_open {α : Type} {t e : TypeId} {d : Kd α} {Q : α → Prop} (ht : Tryd.prog.underlying t = some (.slice e)) (hsz : Tryd.prog.cellsOf e = d.sz) (hd : OpensP e d Q)
    {H : Type} {enc : TypeId × Value → H} {W : World} {fuel : Nat} {a : Option Addr} {len cap : Nat} {y : DataW H × List MemPlace} (h : DataW.trod enc Tryd.prog W 0 (fun _ => true) true fuel t (Value.slice a len cap).cells.toList = some y) :
    ∃ xs, xs.length = len ∧ len ≤ cap ∧ d.C W a len xs ∧ ∀ x ∈ xs, Q x := by
  rcases DataW.trod_slice ht h with ⟨hcs, _⟩ | ⟨x, len', cap', elems, rest, n, _, hcs, _, hb, hl, hm, hlen, hel, _, _⟩
  · simp [Value.cells] at hcs
    obtain ⟨rfl, rfl, rfl⟩ := hcs
    exact ⟨[], rfl, Nat.le_refl _, ⟨rfl, Nat.zero_le _, fun h => absurd h (Nat.lt_irrefl 0)⟩, by simp⟩
  · simp [Value.cells] at hcs
    obtain ⟨rfl, rfl, rfl⟩ := hcs
    have each : ∀ i, i < len → ∃ a c, c.length = d.sz ∧ d.K W a c ∧ (∀ j u, c[j]? = some u → W.cell? (x.add (i * d.sz + j)) = some u) ∧ Q a := by
      intro i hi
      have hE := hel i hi
      have hy : elems[i]? = some (elems[i]'(by omega)) := List.getElem?_eq_getElem (by omega)
      rw [hy, Option.bind_eq_some_iff, hsz] at hE
      obtain ⟨c, hc, hT⟩ := hE
      obtain ⟨_, hcl, hcj⟩ := World.cells?_some hc
      obtain ⟨a, ha, hq⟩ := hd hT
      refine ⟨a, c, hcl, ha, fun j u hu => ?_, hq⟩
      have hj : j < d.sz := by rw [← hcl]; exact (List.getElem?_eq_some_iff.1 hu).1
      have := hcj j hj
      rw [Addr.add_add] at this
      rw [this]; exact hu
    refine ⟨List.ofFn fun i : Fin len => Classical.choose (each i.val i.isLt), List.length_ofFn, hl, ⟨List.length_ofFn, by unfold maxLen at hm; omega, fun _ => ⟨x, rfl, fun j p hj => ?_⟩⟩, fun y hy => ?_⟩
    · rw [List.getElem?_ofFn] at hj
      split at hj
      · rename_i hjl
        obtain rfl := Option.some.inj hj
        obtain ⟨c, h1, h2, h3, _⟩ := Classical.choose_spec (each j hjl)
        exact ⟨c, h1, h2, h3⟩
      · cases hj
    · obtain ⟨i, rfl⟩ := List.mem_ofFn.1 hy
      obtain ⟨c, _, _, _, h4⟩ := Classical.choose_spec (each i.val i.isLt)
      exact h4
theorem opensP_slice {α : Type} {t e : TypeId} {d : Kd α} {Q : α → Prop} (ht : Tryd.prog.underlying t = some (.slice e)) (hsz : Tryd.prog.cellsOf e = d.sz) (hd : OpensP e d Q) : OpensP t (Kd.slice e d) (fun xs => ∀ x ∈ xs, Q x) := by
  intro H enc W fuel cs y h
  have h' := h
  rcases DataW.trod_slice ht h with ⟨hcs, _⟩ | ⟨x, len', cap', elems, rest, n, _, hcs, _⟩
  · subst hcs
    obtain ⟨xs, h1, h2, h3, h4⟩ := row_open (a := none) (len := 0) (cap := 0) ht hsz hd h'
    exact ⟨xs, ⟨none, 0, by rw [h1], by rw [h1]; exact h2, by rw [h1]; exact h3⟩, h4⟩
  · subst hcs
    obtain ⟨xs, h1, h2, h3, h4⟩ := row_open (a := some x) (len := len') (cap := cap') ht hsz hd h'
    exact ⟨xs, ⟨some x, cap', by rw [h1], by rw [h1]; exact h2, by rw [h1]; exact h3⟩, h4⟩
theorem cells_u8 : Tryd.prog.cellsOf 5 = 1 := by kernel_rfl
theorem cells_string : Tryd.prog.cellsOf 9 = 1 := by kernel_rfl
theorem cells_bytes : Tryd.prog.cellsOf 24 = 1 := by kernel_rfl
theorem cells_file : Tryd.prog.cellsOf 43 = 2 := by kernel_rfl
theorem txt_of (zs : List Int) (h : ∀ z ∈ zs, ∃ c : UInt8, z = (c.toNat : Int)) : ∃ b : Txt, zs = ints b := by
  induction zs with
  | nil => exact ⟨[], rfl⟩
  | cons z zs ih =>
    obtain ⟨c, rfl⟩ := h z (by simp)
    obtain ⟨b, rfl⟩ := ih (fun x hx => h x (by simp [hx]))
    exact ⟨c :: b, rfl⟩
theorem txts_of (l : List ByteArray) (h : ∀ s ∈ l, ∃ t, s = B t) : ∃ ws : List Txt, l = ws.map B := by
  induction l with
  | nil => exact ⟨[], rfl⟩
  | cons s l ih =>
    obtain ⟨t, rfl⟩ := h s (by simp)
    obtain ⟨ws, rfl⟩ := ih (fun x hx => h x (by simp [hx]))
    exact ⟨t :: ws, rfl⟩
theorem files_of (l : List SG) (h : ∀ s ∈ l, ∃ f, s = toG f) : ∃ fs : List FileL, l = fs.map toG := by
  induction l with
  | nil => exact ⟨[], rfl⟩
  | cons s l ih =>
    obtain ⟨t, rfl⟩ := h s (by simp)
    obtain ⟨ws, rfl⟩ := ih (fun x hx => h x (by simp [hx]))
    exact ⟨t :: ws, rfl⟩
theorem opensP_file : OpensP 43 KG (fun x => ∃ f, x = toG f) := by
  intro H enc W fuel cs x h
  obtain ⟨xs, m, _, _, hcl, hxs, hF⟩ := DataW.trod_struct Tryd.underlying43 h
  rw [cells_file] at hcl
  obtain ⟨p0, p1, rfl⟩ : ∃ a b, cs = [a, b] := by
    rcases cs with _ | ⟨a, _ | ⟨b, _ | ⟨c, t⟩⟩⟩ <;> simp at hcl
    exact ⟨a, b, rfl⟩
  have f0 := hF 0 _ rfl
  have f1 := hF 1 _ rfl
  change DataW.trod enc _ W 0 _ true m 9 (([p0, p1].drop 0).take (Tryd.prog.cellsOf 9)) = xs[0]? at f0
  change DataW.trod enc _ W 0 _ true m 24 (([p0, p1].drop 1).take (Tryd.prog.cellsOf 24)) = xs[1]? at f1
  rw [cells_string] at f0
  rw [cells_bytes] at f1
  have hxl : xs.length = 2 := hxs
  rw [List.getElem?_eq_getElem (by omega)] at f0 f1
  obtain ⟨a0, k0, n, rfl⟩ := opensP_string f0
  obtain ⟨a1, ⟨A1, c1, e1, l1, g1⟩, q1⟩ := opensP_slice Tryd.underlying24 cells_u8 opensP_u8 f1
  obtain ⟨b, rfl⟩ := txt_of a1 q1
  have hc0 : p0 = .string (B n) := by
    have : [p0] = [Value.string (B n)] := k0
    injection this
  have hc1 : p1 = .slice A1 (ints b).length c1 := by
    have : [p1] = [Value.slice A1 (ints b).length c1] := e1
    injection this
  subst hc0 hc1
  exact ⟨toG ⟨n, b⟩, k43_mk W (toG ⟨n, b⟩) l1 g1, ⟨n, b⟩, rfl⟩
def FilesIn (W : World) (a : Option Addr) (len cap : Nat) (fs : List FileL) : Prop := fs.length = len ∧ len ≤ cap ∧ Kd.C KG W a (fs.map toG).length (fs.map toG)
def WordsIn (W : World) (a : Option Addr) (len cap : Nat) (ws : List Txt) : Prop := ws.length = len ∧ len ≤ cap ∧ Kd.C Kd.string W a ws.length (ws.map B)
theorem files_open {H : Type} {enc : TypeId × Value → H} {W : World} {a : Option Addr} {len cap : Nat} {d : DataW H} {ps : List MemPlace} (h : DataW.Trod enc Tryd.prog W 0 (fun _ => true) true 22 (.slice a len cap) d ps) : ∃ l : List FileL, FilesIn W a len cap l := by
  obtain ⟨fuel, hf⟩ := h
  obtain ⟨xs, h1, h2, h3, h4⟩ := row_open Tryd.underlying22 cells_file opensP_file hf
  obtain ⟨fs, rfl⟩ := files_of xs h4
  rw [List.length_map] at h1
  exact ⟨fs, h1, h2, by rw [List.length_map, h1]; exact h3⟩
theorem words_open {H : Type} {enc : TypeId × Value → H} {W : World} {a : Option Addr} {len cap : Nat} {d : DataW H} {ps : List MemPlace} (h : DataW.Trod enc Tryd.prog W 0 (fun _ => true) true 32 (.slice a len cap) d ps) : ∃ l : List Txt, WordsIn W a len cap l := by
  obtain ⟨fuel, hf⟩ := h
  obtain ⟨xs, h1, h2, h3, h4⟩ := row_open Tryd.underlying32 cells_string opensP_string hf
  obtain ⟨fs, rfl⟩ := txts_of xs h4
  rw [List.length_map] at h1
  exact ⟨fs, h1, h2, by rw [h1]; exact h3⟩
end Go.Proofs.YtbklhcjcgiblkaaDoor.Ck
end
section
set_option linter.unusedSimpArgs false
set_option linter.unusedVariables false
namespace Go.Proofs.YtbklhcjcgiblkaaDoor.Ck
open Go.RowKit Go.Lib Go.Shelf Go.Maps Go.Proofs.YtbklhcjcgiblkaaDoorW.PrintWords Go.Proofs.YtbklhcjcgiblkaaDoorW.PrintLast Go.Proofs.YtbklhcjcgiblkaaDoorW.PrintMore Go.Proofs.YtbklhcjcgiblkaaDoor.U Go.Proofs.YtbklhcjcgiblkaaDoor.P Go.Proofs.YtbklhcjcgiblkaaDoor.PTh Go.Proofs.YtbklhcjcgiblkaaDoor.MapV
theorem light_facts {fs : List FileL} (h : lightB fs = true) : fs.length ≤ 10 ∧ (∀ f ∈ fs, f.b.length ≤ 200) ∧ ∀ f ∈ fs, f.n.length ≤ 200 := by
  simp only [lightB, Bool.and_eq_true, decide_eq_true_iff, List.all_eq_true] at h
  exact ⟨h.1, fun f hf => (h.2 f hf).1, fun f hf => (h.2 f hf).2⟩
end Go.Proofs.YtbklhcjcgiblkaaDoor.Ck
end
section
set_option linter.unusedSimpArgs false
set_option linter.unusedVariables false
namespace Go.Proofs.YtbklhcjcgiblkaaDoor.Ck
open Go.RowKit Go.Lib Go.Shelf Go.Maps Go.Proofs.YtbklhcjcgiblkaaDoorW.PrintWords Go.Proofs.YtbklhcjcgiblkaaDoorW.PrintLast Go.Proofs.YtbklhcjcgiblkaaDoorW.PrintMore Go.Proofs.YtbklhcjcgiblkaaDoor.U Go.Proofs.YtbklhcjcgiblkaaDoor.P Go.Proofs.YtbklhcjcgiblkaaDoor.PTh Go.Proofs.YtbklhcjcgiblkaaDoor.MapV
structure DishAt (w : World) (base db : Nat) (A : Option Addr) (n c : Nat) (names : List Txt) (b : Txt) (once : Bool) (dep deps : Txt) : Prop where
  h : w.heap[db]? = some (.cells #[.slice A n c, .bool once, .string (B dep), .string (B deps)] 34 (0, 0))
  o : OutsAt w base (.slice A n c) names b
  n : names.length = n
theorem DishAt.below {w w' : World} {base db : Nat} {A : Option Addr} {n c : Nat} {names : List Txt} {b : Txt} {once : Bool} {dep deps : Txt} (h : DishAt w base db A n c names b once dep deps) (hb : Below w.heap.size w w') : DishAt w' base db A n c names b once dep deps :=
  ⟨(hb.block _ (Array.getElem?_eq_some_iff.1 h.h).1).trans h.h, h.o.move (fun k _ h2 => hb.block k h2), h.n⟩
theorem DishAt.at_ {w : World} {base db : Nat} {A : Option Addr} {n c : Nat} {names : List Txt} {b : Txt} {once : Bool} {dep deps : Txt} (h : DishAt w base db A n c names b once dep deps) (i : Nat) (hi : i < n) : ∃ ad Ai ci, A = some ad ∧
    w.cell? ⟨(ad.add (i * 2)).block, (ad.add (i * 2)).off + 1, none⟩ = some (.slice Ai b.length ci) ∧ (convert 24 9 (.slice Ai b.length ci)).run Tryd.prog w = .ok (.string (B b)) w ∧ (Kd.int .u8).C w Ai b.length (ints b) ∧ w.cell? (ad.add (i * 2)) = some (.string (B (names.getD i []))) := by
  obtain ⟨A', c', he, hl, hC⟩ := h.o.C
  injection he with he _ he2
  subst he he2
  have hiN : i < (names.map fun n => (⟨n, b⟩ : FileL)).length := by rw [List.length_map, h.n]; exact hi
  obtain ⟨ad, A1, c1, rfl, k0, k1, l1, g1⟩ := file_at (fs := names.map fun n => ⟨n, b⟩) (by rw [List.map_map]; exact hC) i hiN
  rw [List.getElem_map] at k0 k1 l1 g1
  have hin : i < names.length := by rw [h.n]; exact hi
  refine ⟨ad, A1, c1, rfl, k1, conv_txt g1, g1, ?_⟩
  rw [k0, List.getD_eq_getElem?_getD, List.getElem?_eq_getElem hin]; rfl
theorem DishAt.first {w : World} {base db : Nat} {A : Option Addr} {n c : Nat} {names : List Txt} {b : Txt} {once : Bool} {dep deps : Txt} (h : DishAt w base db A n c names b once dep deps) (hi : 0 < n) : ∃ ad Ai ci, A = some ad ∧
    w.cell? ⟨ad.block, ad.off + 1, none⟩ = some (.slice Ai b.length ci) ∧ (convert 24 9 (.slice Ai b.length ci)).run Tryd.prog w = .ok (.string (B b)) w := by
  obtain ⟨ad, Ai, ci, rfl, h1, h2, _, _⟩ := h.at_ 0 hi
  have e0 : ad.add (0 * 2) = ad := by simp [Addr.add]
  rw [e0] at h1
  exact ⟨ad, Ai, ci, rfl, h1, h2⟩
theorem cookE_len {c : Txt} {v : Env} {d : DishL} (h : cookE c v = some d) : d.outs.length ≤ c.length + 1 := by
  unfold cookE at h
  split at h
  · cases h
  · rename_i s hs
    split at h
    · cases h
    · split at h
      · injection h with h
        subst h
        have h1 := (shapeE_words hs).2.2.1
        have h2 := fieldsT_len c
        simp only [List.length_map]
        omega
      · cases h
theorem names_eq {names names2 : List Txt} {b b2 : Txt} (h : (names.map fun n => (⟨n, b⟩ : FileL)) = names2.map fun n => ⟨n, b2⟩) (hne : names ≠ []) : names2 = names ∧ b2 = b := by
  have h1 : names = names2 := by
    have := congrArg (List.map FileL.n) h
    simpa [List.map_map, Function.comp_def] using this
  subst h1
  cases names with
  | nil => exact absurd rfl hne
  | cons x xs => simp at h; exact ⟨rfl, h.1.symm⟩
set_option maxRecDepth 100000 in
set_option maxHeartbeats 16000000 in
theorem outs_walk (s : ByteArray) (aw : Option Addr) (lenw capw : Nat) (ws : List Txt) (a : Option Addr) (len cap : Nat) (fs : List FileL) (W : World) (ht : Tab W) (hs : s.size ≤ 140737488351232) (hw : WordsIn W aw lenw capw ws) (hf : FilesIn W a len cap fs) :
    Calls Tryd.prog 4 #[.string s, .slice aw lenw capw, .slice a len cap] W fun e w' => e = .returned (.bool true) ∧ Below W.heap.size W w' := by
  obtain ⟨rfl, hcap, hC⟩ := hf
  obtain ⟨rfl, hcapw, hCw⟩ := hw
  obtain ⟨cmd, rfl⟩ := B_surj s
  have hsz := size_B cmd
  have hCH := Lib.hid hC
  have hCwH := Lib.hid hCw
  have htH := Lib.hid ht
  have hLt := Lib.hid (light_any a cap fs W hC hcap)
  obtain ⟨N, hN⟩ : ∃ N, fs.length = N := ⟨_, rfl⟩
  have hNH := Lib.hid hN
  obtain ⟨M, hM⟩ : ∃ M, ws.length = M := ⟨_, rfl⟩
  have hMH := Lib.hid hM
  rw [hN] at hLt hcap ⊢
  rw [hM] at hcapw ⊢
  clear hC hCw ht hN hM
  go_enter Tryd.func4, Tryd.ntmps4
  by_cases hc3 : cmd.length ≤ 300
  case neg =>
    have hd : decide ((cmd.length : Int) > 300) = true := by rw [decide_eq_true_iff]; omega
    go_wp2_with fail
    go_ret
    exact ⟨rfl, Below.refl _ _⟩
  have hd1 : decide ((cmd.length : Int) > 300) = false := by rw [decide_eq_false_iff_not]; omega
  by_cases hw3 : M ≤ 20
  case neg =>
    have hd : decide ((M : Int) > 20) = true := by rw [decide_eq_true_iff]; omega
    go_wp2_with fail
    go_ret
    exact ⟨rfl, Below.refl _ _⟩
  have hd2 : decide ((M : Int) > 20) = false := by rw [decide_eq_false_iff_not]; omega
  go_wp2_with fail
  refine hLt.out.mono ?_
  rintro e W1 ⟨rfl, hb1⟩
  have hB1 := Lib.hid hb1
  clear hb1
  cases hl : lightB fs with
  | false =>
    go_wp2_with fail
    go_ret
    exact ⟨rfl, hB1.out⟩
  | true =>
    obtain ⟨f1, f2, f3⟩ := light_facts hl
    have f2H : Hid (∀ f ∈ fs, f.b.length ≤ 200) := f2
    have hCall : Hid (∀ (cm : Txt) (st : ByteArray), st = B cm → cm.length ≤ 400 → ∀ (w : World), Below W.heap.size W w → Calls Tryd.prog 9 #[.slice a N cap] w fun e w' => ∃ A2 c2, e = .returned (.slice A2 N c2) ∧ Below w.heap.size w w' ∧ Calls Tryd.prog 12 #[.string st, .slice aw M capw, .slice A2 N c2] w' (Cooked (cookE cm ⟨ws, fs⟩) w')) := by
      intro cm st hst hcm w hbw
      have hO := of_any a cap fs w (Kd.C_below hCH.out hbw) (by rw [hNH.out]; exact hcap) hl
      rw [hNH.out] at hO
      refine hO.mono ?_
      rintro e w' ⟨A2, c2, rfl, hC2, hb⟩
      have hb' := hbw.trans (hb.mono hbw.size)
      exact ⟨A2, c2, rfl, hb, Cook_at cm (by omega) ⟨ws, fs⟩ M N capw c2 _ _ w' ⟨Kd.C_below hCwH.out hb', hC2, by show ws.length ≤ _; rw [hMH.out]; omega, by show fs.length ≤ _; omega, fun f hf => by have := f2H.out f hf; omega⟩ (htH.out.below hb') hMH.out hNH.out st hst⟩
    have hAw : Hid (∀ w, Below W.heap.size W w → Calls Tryd.prog 11 #[] w fun e w' => e = .returned (.bool true) ∧ Below w.heap.size w w') := fun w hb => awake_any w (htH.out.below hb)
    clear f2 f3
    go_wp2_with fail
    refine (hCall.out cmd (B cmd) rfl (by omega) W1 hB1.out).mono ?_
    rintro e W2 ⟨A2, c2, rfl, hb2, hK⟩
    have hB2 := Lib.hid (hB1.out.trans (hb2.mono hB1.out.size))
    have hKH := Lib.hid hK
    clear hb2 hK
    go_wp2_with fail
    refine hKH.out.mono ?_
    rintro e W3 ⟨hb3, hP3⟩
    have hB3 := Lib.hid (hB2.out.trans (hb3.mono hB2.out.size))
    clear hb3
    cases hce : cookE cmd ⟨ws, fs⟩ with
    | none =>
      rw [hce] at hP3
      obtain rfl : e = _ := hP3
      have hB4 := Lib.hid (hB3.out.alloc hB3.out.size (.cells #[.slice none 0 0, .bool false, .string (B []), .string (B [])] 34))
      have hx4 : (W3.alloc (.cells #[.slice none 0 0, .bool false, .string (B []), .string (B [])] 34)).heap[W3.heap.size]? = some (.cells #[.slice none 0 0, .bool false, .string (B []), .string (B [])] 34 (0, 0)) := heap_alloc_new _ _
      have k0 := (cell_of_heap (j := 0) hx4).trans rfl
      clear hx4
      go_wp2_with fail
      refine (hAw.out _ hB4.out).mono ?_
      rintro e W5 ⟨rfl, hb5⟩
      have hB5 := Lib.hid (hB4.out.trans (hb5.mono hB4.out.size))
      go_wp2_with fail
      go_ret
      exact ⟨rfl, hB5.out⟩
    | some D =>
      rw [hce] at hP3
      have hDF := Lib.hid (cookE_facts hce)
      have hOn : Hid (D.once = false → cookE (kOnce ++ 32 :: cmd) ⟨ws, fs⟩ = some { D with once := true }) := fun h => cookE_once hce h
      obtain ⟨vo, names, b, hD, rfl, ho⟩ := hP3
      obtain ⟨Do, once, dep, deps⟩ := D
      dsimp only at hD hOn hDF ho ⊢
      injection hD with hD _ _ _
      subst hD
      have hne : Hid (names ≠ []) := fun h => hDF.out.ne (by rw [h]; rfl)
      obtain ⟨Ao, co, rfl⟩ := ho.form
      obtain ⟨n, hn⟩ : ∃ n, names.length = n := ⟨_, rfl⟩
      have hnH := Lib.hid hn
      have hn0 : 0 < n := by rw [← hn]; exact List.length_pos_iff.2 hne.out
      rw [hn] at ho ⊢
      obtain ⟨W4, hW4⟩ : ∃ W4, W3.alloc (.cells #[.slice Ao n co, .bool once, .string (B dep), .string (B deps)] 34) = W4 := ⟨_, rfl⟩
      have hb34 : Below W3.heap.size W3 W4 := by rw [← hW4]; exact (Below.refl _ _).alloc (Nat.le_refl _) _
      obtain ⟨db, hdb⟩ : ∃ d, W3.heap.size = d := ⟨_, rfl⟩
      have hDA : Hid (DishAt W4 W2.heap.size db Ao n co names b once dep deps) := ⟨by rw [← hdb, ← hW4]; exact heap_alloc_new _ _, ho.move (fun k _ h2 => hb34.block k h2), hn⟩
      have hB4 := Lib.hid (hB3.out.trans (hb34.mono hB3.out.size))
      have k0 := (cell_of_heap (j := 0) hDA.out.h).trans rfl
      have hz : ((n : Int) == 0) = false := by rw [beq_eq_false_iff_ne]; omega
      have hn0' : n ≠ 0 := by omega
      obtain ⟨lb, hlb⟩ : ∃ l, b.length = l := ⟨_, rfl⟩
      have hlbH := Lib.hid hlb
      have hnb : Hid (n ≤ 1000) := by
        show n ≤ 1000
        have h1 := cookE_len hce
        have h2 := hnH.out
        simp only [List.length_map] at h1
        omega
      clear ho hn hb34 hlb hce
      go_wp2_with fail
      go_loopg [9] n (fun gk s9 wr => ∃ i : Nat, s9 = .int .i64 (i : Int) ∧ i + gk = n ∧ Hid (Below W4.heap.size W4 wr))
      case atStart => exact ⟨0, rfl, by omega, Below.refl _ _⟩
      case round =>
        obtain ⟨i, rfl, hik, hbr⟩ := hrel
        have hDr := Lib.hid (hDA.out.below hbr.out)
        have hBr := Lib.hid (hB4.out.trans (hbr.out.mono hB4.out.size))
        have r0 := (cell_of_heap (j := 0) hDr.out.h).trans rfl
        have hnb2 := hnb.out
        cases gk with
        | succ gk =>
          have hlt : decide ((i : Int) < (n : Int)) = true := by rw [decide_eq_true_iff]; omega
          have hi0 : (0 : Int) ≤ (i : Int) := by omega
          have hi1 : (i : Int) < (n : Int) := by omega
          have hi2 : i < n := by omega
          have hn0i : (0 : Int) < (n : Int) := by omega
          have hDd := hDr.out.below ((Below.refl wr.heap.size wr).drew)
          obtain ⟨ad, Ai, ci, hA, p1, p2, _, _⟩ := hDd.at_ i hi2
          obtain ⟨ad', A0, c0, hA', q1, q2⟩ := hDd.first hn0
          have s0 := (cell_of_heap (j := 0) hDd.h).trans rfl
          rw [hA] at hA' s0
          obtain rfl : ad = ad' := by injection hA'
          rw [hlbH.out] at p1 p2 q1 q2
          have hS0 : Hid (wr.drew.cell? ⟨db, 0, none⟩ = some (.slice (some ad) n co) ∧ wr.drew.cell? ⟨(ad.add (i * 2)).block, (ad.add (i * 2)).off + 1, none⟩ = some (.slice Ai lb ci) ∧ wr.drew.cell? ⟨ad.block, ad.off + 1, none⟩ = some (.slice A0 lb c0) ∧ (convert 24 9 (.slice Ai lb ci)).run Tryd.prog wr.drew = .ok (.string (B b)) wr.drew ∧ (convert 24 9 (.slice A0 lb c0)).run Tryd.prog wr.drew = .ok (.string (B b)) wr.drew) := ⟨s0, p1, q1, p2, q2⟩
          have hbr2 := Lib.hid hbr.out.drew
          clear hDd hA hA' p1 p2 q1 q2 s0
          go_wp2_with fail
          refine RegP.regionH (fun w' => w'.cell? ⟨db, 0, none⟩ = some (.slice (some ad) n co) ∧ w'.cell? ⟨(ad.add (i * 2)).block, (ad.add (i * 2)).off + 1, none⟩ = some (.slice Ai lb ci) ∧ w'.cell? ⟨ad.block, ad.off + 1, none⟩ = some (.slice A0 lb c0) ∧ (convert 24 9 (.slice Ai lb ci)).run Tryd.prog w' = .ok (.string (B b)) w' ∧ (convert 24 9 (.slice A0 lb c0)).run Tryd.prog w' = .ok (.string (B b)) w') [(0, 0), (1, 1), (0, 2), (0, 3), (0, 4), (1, 5), (1, 6), (0, 7), (1, 8), (0, 9), (0, 10), (1, 11), (1, 12), (0, 13)] (by kernel_rfl) (by kernel_rfl) (by rfl) (by kernel_rfl) (by exact hS0.out) ?_
          refine RegP.pure1 (by (simp only [gA,gB,gC]); rfl) (by exact fun _ _ _ h => h) (by rfl) (by intro w'; go_simp; try with_reducible rfl) ?_
          try simp only [Act.put, pA,pB,pC]
          refine RegP.held1 (by (simp only [gA,gB,gC]); rfl) (by exact fun _ _ _ h => h) (by rfl) (by intro w' hS_; (try dsimp only at hS_); go_split_ands; go_simp; try with_reducible rfl) ?_
          try simp only [Act.put, pA,pB,pC]
          refine RegP.pure1 (by (simp only [gA,gB,gC]); rfl) (by exact fun _ _ _ h => h) (by rfl) (by intro w'; go_simp; try with_reducible rfl) ?_
          try simp only [Act.put, pA,pB,pC]
          refine RegP.pure1 (by (simp only [gA,gB,gC]); rfl) (by exact fun _ _ _ h => h) (by rfl) (by intro w'; go_simp; try with_reducible rfl) ?_
          try simp only [Act.put, pA,pB,pC]
          refine RegP.pure1 (by (simp only [gA,gB,gC]); rfl) (by exact fun _ _ _ h => h) (by rfl) (by intro w'; go_simp; try with_reducible rfl) ?_
          try simp only [Act.put, pA,pB,pC]
          refine RegP.held1 (by (simp only [gA,gB,gC]); rfl) (by exact fun _ _ _ h => h) (by rfl) (by intro w' hS_; (try dsimp only at hS_); go_split_ands; go_simp; try with_reducible rfl) ?_
          try simp only [Act.put, pA,pB,pC]
          refine RegP.held1 (by (simp only [gA,gB,gC]); rfl) (by exact fun _ _ _ h => h) (by rfl) (by intro w' hS_; (try dsimp only at hS_); go_split_ands; go_simp; try with_reducible rfl) ?_
          try simp only [Act.put, pA,pB,pC]
          refine RegP.pure1 (by (simp only [gA,gB,gC]); rfl) (by exact fun _ _ _ h => h) (by rfl) (by intro w'; go_simp; try with_reducible rfl) ?_
          try simp only [Act.put, pA,pB,pC]
          refine RegP.held1 (by (simp only [gA,gB,gC]); rfl) (by exact fun _ _ _ h => h) (by rfl) (by intro w' hS_; (try dsimp only at hS_); go_split_ands; go_simp; try with_reducible rfl) ?_
          try simp only [Act.put, pA,pB,pC]
          refine RegP.pure1 (by (simp only [gA,gB,gC]); rfl) (by exact fun _ _ _ h => h) (by rfl) (by intro w'; go_simp; try with_reducible rfl) ?_
          try simp only [Act.put, pA,pB,pC]
          refine RegP.pure1 (by (simp only [gA,gB,gC]); rfl) (by exact fun _ _ _ h => h) (by rfl) (by intro w'; go_simp; try with_reducible rfl) ?_
          try simp only [Act.put, pA,pB,pC]
          refine RegP.held1 (by (simp only [gA,gB,gC]); rfl) (by exact fun _ _ _ h => h) (by rfl) (by intro w' hS_; (try dsimp only at hS_); go_split_ands; go_simp; try with_reducible rfl) ?_
          try simp only [Act.put, pA,pB,pC]
          refine RegP.held1 (by (simp only [gA,gB,gC]); rfl) (by exact fun _ _ _ h => h) (by rfl) (by intro w' hS_; (try dsimp only at hS_); go_split_ands; go_simp; try with_reducible rfl) ?_
          try simp only [Act.put, pA,pB,pC]
          refine RegP.pure1 (by (simp only [gA,gB,gC]); rfl) (by exact fun _ _ _ h => h) (by rfl) (by intro w'; go_simp; try with_reducible rfl) ?_
          try simp only [Act.put, pA,pB,pC]
          refine RegP.done1 ?_
          try dsimp only
          have hwr : IntKind.i64.wrap ((i : Int) + 1) = (i : Int) + 1 := by rw [IntKind.wrap_i64]; omega
          go_wp2_with fail
          go_roundg gk
          case measure => omega
          case rel => exact ⟨i + 1, by first | rfl | simp, by omega, hbr2⟩
        | zero =>
          obtain rfl : i = n := by omega
          have hlt : decide ((i : Int) < (i : Int)) = false := by rw [decide_eq_false_iff_not]; omega
          have r1 := (cell_of_heap (j := 1) hDr.out.h).trans rfl
          cases once with
          | true =>
            go_wp2_with fail
            refine (hAw.out _ hBr.out).mono ?_
            rintro e W5 ⟨rfl, hb5⟩
            have hB5 := Lib.hid (hBr.out.trans (hb5.mono hBr.out.size))
            go_wp2_with fail
            go_ret
            exact ⟨rfl, hB5.out⟩
          | false =>
            have hsz2 : (⟨#[111, 110, 99, 101, 32]⟩ : ByteArray).size + (B cmd).size ≤ 9223372036854775807 := by rw [size_B]; show 5 + _ ≤ _; omega
            have hon := hOn.out rfl
            go_wp2_with fail
            refine (hCall.out (kOnce ++ 32 :: cmd) _ (B_append [111, 110, 99, 101, 32] cmd) (by simp [kOnce]; omega) wr hBr.out).mono ?_
            rintro e W5 ⟨A5, c5, rfl, hb5, hK⟩
            have hB5 := Lib.hid (hBr.out.trans (hb5.mono hBr.out.size))
            have hD5 := Lib.hid (hDr.out.below hb5)
            have hKH := Lib.hid hK
            clear hb5 hK
            go_wp2_with fail
            refine hKH.out.mono ?_
            rintro e W6 ⟨hb6, hP6⟩
            rw [hon] at hP6
            obtain ⟨vo2, names2, b2, hDD, rfl, ho2⟩ := hP6
            dsimp only at hDD ho2 ⊢
            injection hDD with hDD _ _ _
            obtain ⟨rfl, rfl⟩ := names_eq hDD hne.out
            obtain ⟨Ao2, co2, rfl⟩ := ho2.form
            rw [hnH.out] at ho2 ⊢
            have hB6 := Lib.hid (hB5.out.trans (hb6.mono hB5.out.size))
            obtain ⟨W7, hW7⟩ : ∃ W7, W6.alloc (.cells #[.slice Ao2 i co2, .bool true, .string (B dep), .string (B deps)] 34) = W7 := ⟨_, rfl⟩
            have hb67 : Below W6.heap.size W6 W7 := by rw [← hW7]; exact (Below.refl _ _).alloc (Nat.le_refl _) _
            obtain ⟨db2, hdb2⟩ : ∃ d, W6.heap.size = d := ⟨_, rfl⟩
            have hD7 : Hid (DishAt W7 W5.heap.size db2 Ao2 i co2 names2 b2 true dep deps) := ⟨by rw [← hdb2, ← hW7]; exact heap_alloc_new _ _, ho2.move (fun k _ h2 => hb67.block k h2), hnH.out⟩
            have hE7 := Lib.hid (hD5.out.below (hb6.trans (hb67.mono hb6.size)))
            have hB7 := Lib.hid (hB6.out.trans (hb67.mono hB6.out.size))
            have hDd := hE7.out.below ((Below.refl W7.heap.size W7).drew)
            have hDe := hD7.out.below ((Below.refl W7.heap.size W7).drew)
            obtain ⟨ad, A0, c0, rfl, q1, q2⟩ := hDd.first hn0
            obtain ⟨ad2, A2', c2', rfl, t1, t2⟩ := hDe.first hn0
            have s0 := (cell_of_heap (j := 0) hDd.h).trans rfl
            have s1 := (cell_of_heap (j := 0) hDe.h).trans rfl
            have s2 := (cell_of_heap (j := 1) hDe.h).trans rfl
            rw [hlbH.out] at q1 q2 t1 t2
            have hS0 : Hid (W7.drew.cell? ⟨db, 0, none⟩ = some (.slice (some ad) i co) ∧ W7.drew.cell? ⟨db2, 0, none⟩ = some (.slice (some ad2) i co2) ∧ W7.drew.cell? ⟨db2, 1, none⟩ = some (.bool true) ∧ W7.drew.cell? ⟨ad.block, ad.off + 1, none⟩ = some (.slice A0 lb c0) ∧ W7.drew.cell? ⟨ad2.block, ad2.off + 1, none⟩ = some (.slice A2' lb c2') ∧ (convert 24 9 (.slice A0 lb c0)).run Tryd.prog W7.drew = .ok (.string (B b2)) W7.drew ∧ (convert 24 9 (.slice A2' lb c2')).run Tryd.prog W7.drew = .ok (.string (B b2)) W7.drew) := ⟨s0, s1, s2, q1, t1, q2, t2⟩
            have hn0i : (0 : Int) < (i : Int) := by omega
            have hDep := hDF.out.deps
            have y2 := (cell_of_heap (j := 2) hDd.h).trans rfl
            have y3 := (cell_of_heap (j := 3) hDd.h).trans rfl
            have hB7d := Lib.hid hB7.out.drew
            have hDepH := Lib.hid hDep
            clear hDd hDe q1 q2 t1 t2 s0 s1 s2 ho2 hb67 hb6 hDep
            go_wp2_with fail
            refine RegP.regionH (fun w' => w'.cell? ⟨db, 0, none⟩ = some (.slice (some ad) i co) ∧ w'.cell? ⟨db2, 0, none⟩ = some (.slice (some ad2) i co2) ∧ w'.cell? ⟨db2, 1, none⟩ = some (.bool true) ∧ w'.cell? ⟨ad.block, ad.off + 1, none⟩ = some (.slice A0 lb c0) ∧ w'.cell? ⟨ad2.block, ad2.off + 1, none⟩ = some (.slice A2' lb c2') ∧ (convert 24 9 (.slice A0 lb c0)).run Tryd.prog w' = .ok (.string (B b2)) w' ∧ (convert 24 9 (.slice A2' lb c2')).run Tryd.prog w' = .ok (.string (B b2)) w') [(0, 0), (0, 1), (0, 2), (0, 3), (1, 4), (0, 5), (0, 6), (0, 7), (0, 8), (1, 9), (0, 10), (0, 11), (1, 12), (0, 13), (0, 14), (0, 15), (0, 16), (0, 17), (1, 18), (0, 19), (0, 20), (1, 21), (1, 22), (0, 23), (1, 24), (0, 25), (0, 26), (1, 27), (1, 28), (0, 29), (0, 30)] (by kernel_rfl) (by kernel_rfl) (by rfl) (by kernel_rfl) (by exact hS0.out) ?_
            refine RegP.pure1 (by (simp only [gA,gB,gC]); rfl) (by exact fun _ _ _ h => h) (by rfl) (by intro w'; go_simp; try with_reducible rfl) ?_
            try simp only [Act.put, pA,pB,pC]
            refine RegP.pure1 (by (simp only [gA,gB,gC]); rfl) (by exact fun _ _ _ h => h) (by rfl) (by intro w'; go_simp; try with_reducible rfl) ?_
            try simp only [Act.put, pA,pB,pC]
            refine RegP.pure1 (by (simp only [gA,gB,gC]); rfl) (by exact fun _ _ _ h => h) (by rfl) (by intro w'; go_simp; try with_reducible rfl) ?_
            try simp only [Act.put, pA,pB,pC]
            refine RegP.pure1 (by (simp only [gA,gB,gC]); rfl) (by exact fun _ _ _ h => h) (by rfl) (by intro w'; go_simp; try with_reducible rfl) ?_
            try simp only [Act.put, pA,pB,pC]
            refine RegP.held1 (by (simp only [gA,gB,gC]); rfl) (by exact fun _ _ _ h => h) (by rfl) (by intro w' hS_; (try dsimp only at hS_); go_split_ands; go_simp; try with_reducible rfl) ?_
            try simp only [Act.put, pA,pB,pC]
            refine RegP.pure1 (by (simp only [gA,gB,gC]); rfl) (by exact fun _ _ _ h => h) (by rfl) (by intro w'; go_simp; try with_reducible rfl) ?_
            try simp only [Act.put, pA,pB,pC]
            refine RegP.pure1 (by (simp only [gA,gB,gC]); rfl) (by exact fun _ _ _ h => h) (by rfl) (by intro w'; go_simp; try with_reducible rfl) ?_
            try simp only [Act.put, pA,pB,pC]
            refine RegP.pure1 (by (simp only [gA,gB,gC]); rfl) (by exact fun _ _ _ h => h) (by rfl) (by intro w'; go_simp; try with_reducible rfl) ?_
            try simp only [Act.put, pA,pB,pC]
            refine RegP.pure1 (by (simp only [gA,gB,gC]); rfl) (by exact fun _ _ _ h => h) (by rfl) (by intro w'; go_simp; try with_reducible rfl) ?_
            try simp only [Act.put, pA,pB,pC]
            refine RegP.held1 (by (simp only [gA,gB,gC]); rfl) (by exact fun _ _ _ h => h) (by rfl) (by intro w' hS_; (try dsimp only at hS_); go_split_ands; go_simp; try with_reducible rfl) ?_
            try simp only [Act.put, pA,pB,pC]
            refine RegP.pure1 (by (simp only [gA,gB,gC]); rfl) (by exact fun _ _ _ h => h) (by rfl) (by intro w'; go_simp; try with_reducible rfl) ?_
            try simp only [Act.put, pA,pB,pC]
            refine RegP.pure1 (by (simp only [gA,gB,gC]); rfl) (by exact fun _ _ _ h => h) (by rfl) (by intro w'; go_simp; try with_reducible rfl) ?_
            try simp only [Act.put, pA,pB,pC]
            refine RegP.held1 (by (simp only [gA,gB,gC]); rfl) (by exact fun _ _ _ h => h) (by rfl) (by intro w' hS_; (try dsimp only at hS_); go_split_ands; go_simp; try with_reducible rfl) ?_
            try simp only [Act.put, pA,pB,pC]
            refine RegP.pure1 (by (simp only [gA,gB,gC]); rfl) (by exact fun _ _ _ h => h) (by rfl) (by intro w'; go_simp; try with_reducible rfl) ?_
            try simp only [Act.put, pA,pB,pC]
            refine RegP.pure1 (by (simp only [gA,gB,gC]); rfl) (by exact fun _ _ _ h => h) (by rfl) (by intro w'; go_simp; try with_reducible rfl) ?_
            try simp only [Act.put, pA,pB,pC]
            refine RegP.pure1 (by (simp only [gA,gB,gC]); rfl) (by exact fun _ _ _ h => h) (by rfl) (by intro w'; go_simp; try with_reducible rfl) ?_
            try simp only [Act.put, pA,pB,pC]
            refine RegP.pure1 (by (simp only [gA,gB,gC]); rfl) (by exact fun _ _ _ h => h) (by rfl) (by intro w'; go_simp; try with_reducible rfl) ?_
            try simp only [Act.put, pA,pB,pC]
            refine RegP.pure1 (by (simp only [gA,gB,gC]); rfl) (by exact fun _ _ _ h => h) (by rfl) (by intro w'; go_simp; try with_reducible rfl) ?_
            try simp only [Act.put, pA,pB,pC]
            refine RegP.held1 (by (simp only [gA,gB,gC]); rfl) (by exact fun _ _ _ h => h) (by rfl) (by intro w' hS_; (try dsimp only at hS_); go_split_ands; go_simp; try with_reducible rfl) ?_
            try simp only [Act.put, pA,pB,pC]
            refine RegP.pure1 (by (simp only [gA,gB,gC]); rfl) (by exact fun _ _ _ h => h) (by rfl) (by intro w'; go_simp; try with_reducible rfl) ?_
            try simp only [Act.put, pA,pB,pC]
            refine RegP.pure1 (by (simp only [gA,gB,gC]); rfl) (by exact fun _ _ _ h => h) (by rfl) (by intro w'; go_simp; try with_reducible rfl) ?_
            try simp only [Act.put, pA,pB,pC]
            refine RegP.held1 (by (simp only [gA,gB,gC]); rfl) (by exact fun _ _ _ h => h) (by rfl) (by intro w' hS_; (try dsimp only at hS_); go_split_ands; go_simp; try with_reducible rfl) ?_
            try simp only [Act.put, pA,pB,pC]
            refine RegP.held1 (by (simp only [gA,gB,gC]); rfl) (by exact fun _ _ _ h => h) (by rfl) (by intro w' hS_; (try dsimp only at hS_); go_split_ands; go_simp; try with_reducible rfl) ?_
            try simp only [Act.put, pA,pB,pC]
            refine RegP.pure1 (by (simp only [gA,gB,gC]); rfl) (by exact fun _ _ _ h => h) (by rfl) (by intro w'; go_simp; try with_reducible rfl) ?_
            try simp only [Act.put, pA,pB,pC]
            refine RegP.held1 (by (simp only [gA,gB,gC]); rfl) (by exact fun _ _ _ h => h) (by rfl) (by intro w' hS_; (try dsimp only at hS_); go_split_ands; go_simp; try with_reducible rfl) ?_
            try simp only [Act.put, pA,pB,pC]
            refine RegP.pure1 (by (simp only [gA,gB,gC]); rfl) (by exact fun _ _ _ h => h) (by rfl) (by intro w'; go_simp; try with_reducible rfl) ?_
            try simp only [Act.put, pA,pB,pC]
            refine RegP.pure1 (by (simp only [gA,gB,gC]); rfl) (by exact fun _ _ _ h => h) (by rfl) (by intro w'; go_simp; try with_reducible rfl) ?_
            try simp only [Act.put, pA,pB,pC]
            refine RegP.held1 (by (simp only [gA,gB,gC]); rfl) (by exact fun _ _ _ h => h) (by rfl) (by intro w' hS_; (try dsimp only at hS_); go_split_ands; go_simp; try with_reducible rfl) ?_
            try simp only [Act.put, pA,pB,pC]
            refine RegP.held1 (by (simp only [gA,gB,gC]); rfl) (by exact fun _ _ _ h => h) (by rfl) (by intro w' hS_; (try dsimp only at hS_); go_split_ands; go_simp; try with_reducible rfl) ?_
            try simp only [Act.put, pA,pB,pC]
            refine RegP.pure1 (by (simp only [gA,gB,gC]); rfl) (by exact fun _ _ _ h => h) (by rfl) (by intro w'; go_simp; try with_reducible rfl) ?_
            try simp only [Act.put, pA,pB,pC]
            refine RegP.pure1 (by (simp only [gA,gB,gC]); rfl) (by exact fun _ _ _ h => h) (by rfl) (by intro w'; go_simp; try with_reducible rfl) ?_
            try simp only [Act.put, pA,pB,pC]
            refine RegP.done1 ?_
            try dsimp only
            cases dep with
            | nil =>
              obtain rfl : deps = [] := hDepH.out.1 rfl
              go_wp2_with fail
              refine (hAw.out _ hB7d.out).mono ?_
              rintro e W8 ⟨rfl, hb8⟩
              have hB8 := Lib.hid (hB7d.out.trans (hb8.mono hB7d.out.size))
              go_wp2_with fail
              go_ret
              exact ⟨rfl, hB8.out⟩
            | cons d0 dp =>
              cases deps with
              | nil => exact absurd (hDepH.out.2 rfl) (by simp)
              | cons e0 ds =>
                go_wp2_with fail
                refine (hAw.out _ hB7d.out).mono ?_
                rintro e W8 ⟨rfl, hb8⟩
                have hB8 := Lib.hid (hB7d.out.trans (hb8.mono hB7d.out.size))
                go_wp2_with fail
                go_ret
                exact ⟨rfl, hB8.out⟩
end Go.Proofs.YtbklhcjcgiblkaaDoor.Ck
end
section
namespace Go.Proofs.YtbklhcjcgiblkaaDoor.cookOuts
open Go.ChangeShapes Go.WideShapes Go.ChangeAt Go.RowKit
open Go.ChangeMaps (open_string shut_string)
set_option linter.unusedVariables false
theorem own : ownKnob Tryd.prog.godebug = none := by kernel_rfl
theorem laidOut : laidOutB Tryd.prog = true := by kernel_rfl
set_option maxRecDepth 100000 in
theorem lifted (os : Os) (started : os.Started) (H : Type) (enc : TypeId × Value → H) :
    ReturnsInHanded {} Tryd.checked os 4 .any (fun w args => (Rows.cookOutsSpec.pre enc Tryd.prog Tryd.f4 Rows.cookOutsRow.domain false w args ∧ laidMetH Tryd.prog Rows.cookOutsRow.laid w) ∧ sizedMet enc Tryd.prog Tryd.f4 (OpenSpec.ofChange Rows.cookOutsSpec) false w args) (Rows.cookOutsSpec.post enc Tryd.prog Tryd.f4 false true false false) := by
  refine returnsInHanded_of_change_and (C := Tryd.checked) (X := fun w _ => laidMetH Tryd.prog Rows.cookOutsRow.laid w) (fun _ _ _ hh h => h.of_heap hh) own started (by kernel_rfl) Tryd.func4
    (ChangeSpec.witness_shaped (enc := enc) (C := Tryd.checked) (os := os) (X := fun w _ => laidMetH Tryd.prog Rows.cookOutsRow.laid w) false (World.laidAll Tryd.prog os Rows.cookOutsRow.laid) #[.string ByteArray.empty, .slice none 0 0, .slice none 0 0] 8 (World.laidAll_os _ _ _)
      (World.shaped_of_ZipB (by kernel_rfl) (by kernel_rfl)) (by kernel_rfl) (by kernel_rfl) (by kernel_rfl)
      (by rw [MakeChecks.laidMetH_plain _ _ _ (by kernel_rfl)]; exact laidMet_laidAll _ (by kernel_rfl) (by kernel_rfl))) ?_
  intro W base args ds gs before hval0 hW hcnd hsz0 hL _
  have hsz : (DataW.weightsEach Tryd.prog (Tryd.f4.params.toList ++ Rows.cookOutsSpec.plain.varTypes Tryd.prog) (ds ++ gs)).all (· ≤ reachBytes) = true := hsz0
  have hval : ∀ (j : Nat) t v, Tryd.f4.params[j]? = some t → args[j]? = some v → Value.okWide Tryd.prog W .any base t v := hval0
  have hW' := hW
  obtain ⟨p, q, hA0, hV, rfl, hfz, hnd⟩ := hW
  have hA : DataW.TrodAll enc Tryd.prog W 0 (fun _ => true) true Tryd.f4.params.toList args.toList ds p := hA0
  rw [Tryd.params4] at hA hval hsz
  obtain ⟨v0, vs0, d0, ds0, p0, q0, hargs, rfl, rfl, h0, r0⟩ := trodAll_cons hA
  obtain ⟨v1, vs1, d1, ds1, p1, q1, rfl, rfl, rfl, h1, r1⟩ := trodAll_cons r0
  obtain ⟨v2, vs2, d2, ds2, p2, q2, rfl, rfl, rfl, h2, r2⟩ := trodAll_cons r1
  obtain ⟨rfl, rfl, rfl⟩ := trodAll_nil r2
  obtain rfl : args = #[v0, v1, v2] := by cases args; simp_all
  obtain ⟨rfl, rfl⟩ := trodVars_none hV
  obtain ⟨a0, rfl, rfl, rfl, y0⟩ := open_string Tryd.underlying9 (hval 0 9 v0 rfl rfl) h0
  have w0 : a0.size ≤ 140737488351232 := by
    have z := sized_string hsz (j := 0) (t := 9) rfl rfl
    rw [Array.length_toList] at z
    exact z
  obtain ⟨a1, len1, cap1, rfl⟩ := okWide_slice Tryd.underlying32 (hval 1 32 v1 rfl rfl)
  have k1 := h1
  have lt1 : ∀ x ∈ p1, x.block < W.heap.size := by obtain ⟨m, hm⟩ := k1; exact DataW.trod_lt m _ _ _ hm
  obtain ⟨l1, w1⟩ := Ck.words_open k1
  obtain ⟨a2, len2, cap2, rfl⟩ := okWide_slice Tryd.underlying22 (hval 2 22 v2 rfl rfl)
  have k2 := h2
  have lt2 : ∀ x ∈ p2, x.block < W.heap.size := by obtain ⟨m, hm⟩ := k2; exact DataW.trod_lt m _ _ _ hm
  obtain ⟨l2, w2⟩ := Ck.files_open k2
  clear hA0 hval0 hsz0 hsz
  refine (Ck.outs_walk a0 a1 len1 cap1 l1 a2 len2 cap2 l2 W (Tab.of_laid hL) w0 w1 w2).mono fun e W' ⟨he, bel⟩ => ?_
  subst he
  exact ⟨_, rfl, _, _, _, [], _, [], hW', trodAll_mk1 (shut_bool Tryd.underlying4 _), (trodAll_cons_mk (shut_string Tryd.underlying9 y0) (trodAll_cons_mk (Below.trod laidOut (by kernel_rfl) (of_decide_eq_true (by kernel_rfl)) k1 bel lt1) (trodAll_cons_mk (Below.trod laidOut (by kernel_rfl) (of_decide_eq_true (by kernel_rfl)) k2 bel lt2) trodAll_mk0))), rfl, bel.frame _, fun h => by cases h⟩
theorem over : Rows.cookOutsRow.holds Tryd.pinned (OpenSpec.ofChange Rows.cookOutsSpec) :=
  OpenClaim.holds_of_wide 4 Tryd.f4 rfl rfl rfl rfl rfl rfl rfl ⟨rfl, rfl, rfl, rfl, rfl⟩ rfl rfl rfl rfl rfl (by kernel_rfl) Tryd.func4 (by kernel_rfl)
    (of_decide_eq_true (by kernel_rfl)) (by unfold Func.isWrapper; first | (rw [if_pos (by decide +kernel)]; kernel_rfl) | (rw [if_neg (by decide +kernel)]; exact ⟨rfl, rfl⟩))
    (fun os started H enc _ => lifted os started H enc)
theorem card : Rows.CookOutsCardSaid :=
  Claim7.holds_tied_plain_at .later [] [.data, .data, .data, .data, .pinned] true (true, "38a24746a22e816a7c20228ce871cbdf67fddb3eb70abfcecec18083f03f6761") true over (fun _ h => by cases h) (by kernel_rfl) (fun _ h => by cases h) cookOuts_row_tie rfl ⟨rfl, rfl⟩ (by kernel_rfl) rfl
    (fun f fn hf hfn => by
      obtain rfl : f = 4 := Option.some.inj ((show Tryd.prog.funcNamed "bellows/bellowslaw15.CookOuts" = some 4 by kernel_rfl).symm.trans hf) |>.symm
      obtain rfl : fn = Tryd.f4 := (Option.some.inj (Tryd.func4.symm.trans hfn)).symm
      have hall : (Tryd.f4.params.toList.all fun u => !Tryd.prog.wantsStandIn u) = true := by kernel_rfl
      exact ⟨by kernel_rfl, fun j t ht => by
        have hm : t ∈ Tryd.f4.params.toList := by simpa using Array.mem_of_getElem? ht
        exact (show Tryd.prog.wantsStandIn t = false by simpa using List.all_eq_true.1 hall t hm)⟩)
    (by kernel_rfl)
#print axioms card
end Go.Proofs.YtbklhcjcgiblkaaDoor.cookOuts
namespace Go.Proofs.YtbklhcjcgiblkaaDoor
theorem cookOuts_card : Rows.CookOutsCardSaid := cookOuts.card
end Go.Proofs.YtbklhcjcgiblkaaDoor
end
