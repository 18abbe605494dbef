/- Laid together by wip/tools/shake.py from texts of this claim: CkOpen, CkFinds, CardCookFinds. -/
import Derived.Test.YtbklhcjcgiblkaaDoorSc3
import Derived.ChangeSlices
import Derived.ChangeArms
import Derived.ProofKit
import Derived.KernelRfl
import Derived.Test.YtbklhcjcgiblkaaDoorRows
import Derived.WalkKit
import Derived.OpenShut
import Derived.ShutString
import Derived.ChangeOld
import Derived.Below
import Derived.SizedLaws
import Derived.Carry
import Derived.LaidMore
import Derived.Lay
import Derived.SevenTiedAt
import Derived.Stop.Joined
import Derived.Test.YtbklhcjcgiblkaaDoorTie
import Derived.Test.YtbklhcjcgiblkaaDoorCards
section
set_option linter.unusedVariables false
namespace Go.Proofs.YtbklhcjcgiblkaaDoor.Ck
open Go.RowKit Go.ChangeShapes Go.WideShapes Go.Proofs.YtbklhcjcgiblkaaDoorW.PrintWords Go.Proofs.YtbklhcjcgiblkaaDoor.U Go.Proofs.YtbklhcjcgiblkaaDoor.P Go.Proofs.YtbklhcjcgiblkaaDoor.PTh Go.Proofs.YtbklhcjcgiblkaaDoor.MapV
def OpensP {α : Type} (t : TypeId) (d : Kd α) (Q : α → Prop) : Prop :=
  ∀ {H : Type} {enc : TypeId × Value → H} {W : World} {fuel : Nat} {cs : List Value} {x : DataW H × List MemPlace}, DataW.trod enc Tryd.prog W 0 (fun _ => true) true fuel t cs = some x → ∃ a, d.K W a cs ∧ Q a
theorem opensP_string : OpensP 9 Kd.string (fun s => ∃ l, s = B l) := by
  intro H enc W fuel cs x h
  obtain ⟨s, e, _, _⟩ := DataW.trod_string Tryd.underlying9 h
  obtain ⟨l, rfl⟩ := B_surj s
  exact ⟨_, e, l, rfl⟩
theorem opensP_u8 : OpensP 5 (Kd.int .u8) (fun z => ∃ c : UInt8, z = (c.toNat : Int)) := by
  intro H enc W fuel cs x h
  obtain ⟨lv, e0, _, wf⟩ := DataW.trod_int Tryd.underlying5 h
  have hw : 0 ≤ lv ∧ lv ≤ 255 := by have := wf; simp [Lit.wf] at this; exact ⟨this.1, this.2⟩
  refine ⟨lv, e0, UInt8.ofNat lv.toNat, ?_⟩
  rw [UInt8.toNat_ofNat']
  omega
theorem row_open {α : Type} {t e : TypeId} {d : Kd α} {Q : α → Prop} (ht : Tryd.prog.underlying t = some (.slice e)) (hsz : Tryd.prog.cellsOf e = d.sz) (hd : OpensP e d Q)
    {H : Type} {enc : TypeId × Value → H} {W : World} {fuel : Nat} {a : Option Addr} {len cap : Nat} {y : DataW H × List MemPlace} (h : DataW.trod enc Tryd.prog W 0 (fun _ => true) true fuel t (Value.slice a len cap).cells.toList = some y) :
    ∃ xs, xs.length = len ∧ len ≤ cap ∧ d.C W a len xs ∧ ∀ x ∈ xs, Q x := by
  rcases DataW.trod_slice ht h with ⟨hcs, _⟩ | ⟨x, len', cap', elems, rest, n, _, hcs, _, hb, hl, hm, hlen, hel, _, _⟩
  · simp [Value.cells] at hcs
    obtain ⟨rfl, rfl, rfl⟩ := hcs
    exact ⟨[], rfl, Nat.le_refl _, ⟨rfl, Nat.zero_le _, fun h => absurd h (Nat.lt_irrefl 0)⟩, by simp⟩
  · simp [Value.cells] at hcs
    obtain ⟨rfl, rfl, rfl⟩ := hcs
    have each : ∀ i, i < len → ∃ a c, c.length = d.sz ∧ d.K W a c ∧ (∀ j u, c[j]? = some u → W.cell? (x.add (i * d.sz + j)) = some u) ∧ Q a := by
      intro i hi
      have hE := hel i hi
      have hy : elems[i]? = some (elems[i]'(by omega)) := List.getElem?_eq_getElem (by omega)
      rw [hy, Option.bind_eq_some_iff, hsz] at hE
      obtain ⟨c, hc, hT⟩ := hE
      obtain ⟨_, hcl, hcj⟩ := World.cells?_some hc
      obtain ⟨a, ha, hq⟩ := hd hT
      refine ⟨a, c, hcl, ha, fun j u hu => ?_, hq⟩
      have hj : j < d.sz := by rw [← hcl]; exact (List.getElem?_eq_some_iff.1 hu).1
      have := hcj j hj
      rw [Addr.add_add] at this
      rw [this]; exact hu
    refine ⟨List.ofFn fun i : Fin len => Classical.choose (each i.val i.isLt), List.length_ofFn, hl, ⟨List.length_ofFn, by unfold maxLen at hm; omega, fun _ => ⟨x, rfl, fun j p hj => ?_⟩⟩, fun y hy => ?_⟩
    · rw [List.getElem?_ofFn] at hj
      split at hj
      · rename_i hjl
        obtain rfl := Option.some.inj hj
        obtain ⟨c, h1, h2, h3, _⟩ := Classical.choose_spec (each j hjl)
        exact ⟨c, h1, h2, h3⟩
      · cases hj
    · obtain ⟨i, rfl⟩ := List.mem_ofFn.1 hy
      obtain ⟨c, _, _, _, h4⟩ := Classical.choose_spec (each i.val i.isLt)
      exact h4
theorem opensP_slice {α : Type} {t e : TypeId} {d : Kd α} {Q : α → Prop} (ht : Tryd.prog.underlying t = some (.slice e)) (hsz : Tryd.prog.cellsOf e = d.sz) (hd : OpensP e d Q) : OpensP t (Kd.slice e d) (fun xs => ∀ x ∈ xs, Q x) := by
  intro H enc W fuel cs y h
  have h' := h
  rcases DataW.trod_slice ht h with ⟨hcs, _⟩ | ⟨x, len', cap', elems, rest, n, _, hcs, _⟩
  · subst hcs
    obtain ⟨xs, h1, h2, h3, h4⟩ := row_open (a := none) (len := 0) (cap := 0) ht hsz hd h'
    exact ⟨xs, ⟨none, 0, by rw [h1], by rw [h1]; exact h2, by rw [h1]; exact h3⟩, h4⟩
  · subst hcs
    obtain ⟨xs, h1, h2, h3, h4⟩ := row_open (a := some x) (len := len') (cap := cap') ht hsz hd h'
    exact ⟨xs, ⟨some x, cap', by rw [h1], by rw [h1]; exact h2, by rw [h1]; exact h3⟩, h4⟩
theorem cells_u8 : Tryd.prog.cellsOf 5 = 1 := by kernel_rfl
theorem cells_string : Tryd.prog.cellsOf 9 = 1 := by kernel_rfl
theorem cells_bytes : Tryd.prog.cellsOf 24 = 1 := by kernel_rfl
theorem cells_file : Tryd.prog.cellsOf 43 = 2 := by kernel_rfl
theorem txt_of (zs : List Int) (h : ∀ z ∈ zs, ∃ c : UInt8, z = (c.toNat : Int)) : ∃ b : Txt, zs = ints b := by
  induction zs with
  | nil => exact ⟨[], rfl⟩
  | cons z zs ih =>
    obtain ⟨c, rfl⟩ := h z (by simp)
    obtain ⟨b, rfl⟩ := ih (fun x hx => h x (by simp [hx]))
    exact ⟨c :: b, rfl⟩
theorem files_of (l : List SG) (h : ∀ s ∈ l, ∃ f, s = toG f) : ∃ fs : List FileL, l = fs.map toG := by
  induction l with
  | nil => exact ⟨[], rfl⟩
  | cons s l ih =>
    obtain ⟨t, rfl⟩ := h s (by simp)
    obtain ⟨ws, rfl⟩ := ih (fun x hx => h x (by simp [hx]))
    exact ⟨t :: ws, rfl⟩
theorem opensP_file : OpensP 43 KG (fun x => ∃ f, x = toG f) := by
  intro H enc W fuel cs x h
  obtain ⟨xs, m, _, _, hcl, hxs, hF⟩ := DataW.trod_struct Tryd.underlying43 h
  rw [cells_file] at hcl
  obtain ⟨p0, p1, rfl⟩ : ∃ a b, cs = [a, b] := by
    rcases cs with _ | ⟨a, _ | ⟨b, _ | ⟨c, t⟩⟩⟩ <;> simp at hcl
    exact ⟨a, b, rfl⟩
  have f0 := hF 0 _ rfl
  have f1 := hF 1 _ rfl
  change DataW.trod enc _ W 0 _ true m 9 (([p0, p1].drop 0).take (Tryd.prog.cellsOf 9)) = xs[0]? at f0
  change DataW.trod enc _ W 0 _ true m 24 (([p0, p1].drop 1).take (Tryd.prog.cellsOf 24)) = xs[1]? at f1
  rw [cells_string] at f0
  rw [cells_bytes] at f1
  have hxl : xs.length = 2 := hxs
  rw [List.getElem?_eq_getElem (by omega)] at f0 f1
  obtain ⟨a0, k0, n, rfl⟩ := opensP_string f0
  obtain ⟨a1, ⟨A1, c1, e1, l1, g1⟩, q1⟩ := opensP_slice Tryd.underlying24 cells_u8 opensP_u8 f1
  obtain ⟨b, rfl⟩ := txt_of a1 q1
  have hc0 : p0 = .string (B n) := by
    have : [p0] = [Value.string (B n)] := k0
    injection this
  have hc1 : p1 = .slice A1 (ints b).length c1 := by
    have : [p1] = [Value.slice A1 (ints b).length c1] := e1
    injection this
  subst hc0 hc1
  exact ⟨toG ⟨n, b⟩, k43_mk W (toG ⟨n, b⟩) l1 g1, ⟨n, b⟩, rfl⟩
def FilesIn (W : World) (a : Option Addr) (len cap : Nat) (fs : List FileL) : Prop := fs.length = len ∧ len ≤ cap ∧ Kd.C KG W a (fs.map toG).length (fs.map toG)
theorem files_open {H : Type} {enc : TypeId × Value → H} {W : World} {a : Option Addr} {len cap : Nat} {d : DataW H} {ps : List MemPlace} (h : DataW.Trod enc Tryd.prog W 0 (fun _ => true) true 22 (.slice a len cap) d ps) : ∃ l : List FileL, FilesIn W a len cap l := by
  obtain ⟨fuel, hf⟩ := h
  obtain ⟨xs, h1, h2, h3, h4⟩ := row_open Tryd.underlying22 cells_file opensP_file hf
  obtain ⟨fs, rfl⟩ := files_of xs h4
  rw [List.length_map] at h1
  exact ⟨fs, h1, h2, by rw [List.length_map, h1]; exact h3⟩
end Go.Proofs.YtbklhcjcgiblkaaDoor.Ck
end
section
set_option linter.unusedSimpArgs false
set_option linter.unusedVariables false
namespace Go.Proofs.YtbklhcjcgiblkaaDoor.Ck
open Go.RowKit Go.Lib Go.Shelf Go.Maps Go.Proofs.YtbklhcjcgiblkaaDoorW.PrintWords Go.Proofs.YtbklhcjcgiblkaaDoorW.PrintLast Go.Proofs.YtbklhcjcgiblkaaDoorW.PrintMore Go.Proofs.YtbklhcjcgiblkaaDoor.U Go.Proofs.YtbklhcjcgiblkaaDoor.P Go.Proofs.YtbklhcjcgiblkaaDoor.PTh Go.Proofs.YtbklhcjcgiblkaaDoor.MapV
theorem light_facts {fs : List FileL} (h : lightB fs = true) : fs.length ≤ 10 ∧ (∀ f ∈ fs, f.b.length ≤ 200) ∧ ∀ f ∈ fs, f.n.length ≤ 200 := by
  simp only [lightB, Bool.and_eq_true, decide_eq_true_iff, List.all_eq_true] at h
  exact ⟨h.1, fun f hf => (h.2 f hf).1, fun f hf => (h.2 f hf).2⟩
set_option maxRecDepth 100000 in
set_option maxHeartbeats 16000000 in
theorem finds_walk (a : Option Addr) (len cap : Nat) (fs : List FileL) (s : ByteArray) (W : World) (ht : Tab W) (hf : FilesIn W a len cap fs) (hs : s.size ≤ 140737488351232) :
    Calls Tryd.prog 3 #[.slice a len cap, .string s] W fun e w' => e = .returned (.bool true) ∧ Below W.heap.size W w' := by
  obtain ⟨rfl, hcap, hC⟩ := hf
  obtain ⟨nm, rfl⟩ := B_surj s
  have hsz := size_B nm
  have hCH := Lib.hid hC
  have htH := Lib.hid ht
  have hLt := Lib.hid (light_any a cap fs W hC hcap)
  obtain ⟨N, hN⟩ : ∃ N, fs.length = N := ⟨_, rfl⟩
  have hNH := Lib.hid hN
  rw [hN] at hLt hcap ⊢
  clear hC ht hN
  go_enter Tryd.func3, Tryd.ntmps3
  go_wp2_with fail
  refine hLt.out.mono ?_
  rintro e W1 ⟨rfl, hb1⟩
  have hB1 := Lib.hid hb1
  clear hb1
  cases hl : lightB fs with
  | false =>
    go_wp2_with fail
    go_ret
    exact ⟨rfl, hB1.out⟩
  | true =>
    by_cases hn : nm.length ≤ 200
    · have hd : decide ((nm.length : Int) > 200) = false := by rw [decide_eq_false_iff_not]; omega
      obtain ⟨f1, f2, f3⟩ := light_facts hl
      have hO := of_any a cap fs W1 (Kd.C_below hCH.out hB1.out) (by rw [hNH.out]; exact hcap) hl
      rw [hNH.out] at hO
      have hOH := Lib.hid hO
      have f2H : Hid (∀ f ∈ fs, f.b.length ≤ 200) := f2
      clear hO f2 f3
      go_wp2_with fail
      refine hOH.out.mono ?_
      rintro e W2 ⟨A2, c2, rfl, hC2, hb2⟩
      have hB2 := Lib.hid (hB1.out.trans (hb2.mono hB1.out.size))
      have hF := Find_any A2 c2 fs nm W2 hC2 (by omega) (fun f hf => by have := f2H.out f hf; omega)
      rw [hNH.out] at hF
      have hFH := Lib.hid hF
      clear hF hC2 hb2
      go_wp2_with fail
      refine hFH.out.mono ?_
      rintro e W3 ⟨hb3, hP3⟩
      have hB3 := Lib.hid (hB2.out.trans (hb3.mono hB2.out.size))
      have hR := refFind_any a cap fs nm W3 (Kd.C_below hCH.out hB3.out) (by omega)
      rw [hNH.out] at hR
      have hRH := Lib.hid hR
      clear hR hb3
      have hend : ∀ (r : Option Txt), findL fs nm = r → Hid (RefFinds (findL fs nm) W3 = RefFinds r W3) := fun r h => by show _ = _; rw [h]
      cases hr : findL fs nm with
      | none =>
        rw [hr] at hP3 hRH
        obtain rfl : e = _ := hP3
        go_wp2_with fail
        refine hRH.out.mono ?_
        rintro e W4 ⟨rfl, A1, c1, rfl, hC1⟩
        have hcv : (convert 24 9 (.slice A1 0 c1)).run Tryd.prog W4 = .ok (.string (B [])) W4 := conv_txt (b := []) hC1
        have hcv2 : (convert 24 9 (.slice none 0 0)).run Tryd.prog W4 = .ok (.string (B [])) W4 := conv_txt (b := []) ⟨rfl, Nat.zero_le _, fun h => absurd h (Nat.lt_irrefl 0)⟩
        go_wp2_with fail
        refine (awake_any W4 (htH.out.below hB3.out)).mono ?_
        rintro e W5 ⟨rfl, hb5⟩
        have hB5 := Lib.hid (hB3.out.trans (hb5.mono hB3.out.size))
        go_wp2_with fail
        go_ret
        exact ⟨rfl, hB5.out⟩
      | some b =>
        rw [hr] at hP3 hRH
        obtain ⟨v, rfl, ho⟩ := hP3
        obtain ⟨Ab, cb, rfl, hlb, hCb⟩ := own_reads ho
        obtain ⟨n, hn'⟩ : ∃ n, b.length = n := ⟨_, rfl⟩
        have hnH := Lib.hid hn'
        have hcv := conv_txt (c := cb) hCb
        rw [hn'] at hcv ⊢
        clear hn' hCb ho
        go_wp2_with fail
        refine hRH.out.mono ?_
        rintro e W4 ⟨rfl, A1, c1, rfl, hC1⟩
        have hcv2 : (convert 24 9 (.slice A1 b.length c1)).run Tryd.prog W4 = .ok (.string (B b)) W4 := conv_txt hC1
        dsimp only [Option.getD_some, Option.isSome_some]
        rw [hnH.out] at hcv2 ⊢
        go_wp2_with fail
        refine (awake_any W4 (htH.out.below hB3.out)).mono ?_
        rintro e W5 ⟨rfl, hb5⟩
        have hB5 := Lib.hid (hB3.out.trans (hb5.mono hB3.out.size))
        go_wp2_with fail
        go_ret
        exact ⟨rfl, hB5.out⟩
    · have hd : decide ((nm.length : Int) > 200) = true := by rw [decide_eq_true_iff]; omega
      go_wp2_with fail
      go_ret
      exact ⟨rfl, hB1.out⟩
end Go.Proofs.YtbklhcjcgiblkaaDoor.Ck
end
section
namespace Go.Proofs.YtbklhcjcgiblkaaDoor.cookFinds
open Go.ChangeShapes Go.WideShapes Go.ChangeAt Go.RowKit
open Go.ChangeMaps (open_string shut_string)
set_option linter.unusedVariables false
theorem own : ownKnob Tryd.prog.godebug = none := by kernel_rfl
theorem laidOut : laidOutB Tryd.prog = true := by kernel_rfl
set_option maxRecDepth 100000 in
theorem lifted (os : Os) (started : os.Started) (H : Type) (enc : TypeId × Value → H) :
    ReturnsInHanded {} Tryd.checked os 3 .any (fun w args => (Rows.cookFindsSpec.pre enc Tryd.prog Tryd.f3 Rows.cookFindsRow.domain false w args ∧ laidMetH Tryd.prog Rows.cookFindsRow.laid w) ∧ sizedMet enc Tryd.prog Tryd.f3 (OpenSpec.ofChange Rows.cookFindsSpec) false w args) (Rows.cookFindsSpec.post enc Tryd.prog Tryd.f3 false true false false) := by
  refine returnsInHanded_of_change_and (C := Tryd.checked) (X := fun w _ => laidMetH Tryd.prog Rows.cookFindsRow.laid w) (fun _ _ _ hh h => h.of_heap hh) own started (by kernel_rfl) Tryd.func3
    (ChangeSpec.witness_shaped (enc := enc) (C := Tryd.checked) (os := os) (X := fun w _ => laidMetH Tryd.prog Rows.cookFindsRow.laid w) false (World.laidAll Tryd.prog os Rows.cookFindsRow.laid) #[.slice none 0 0, .string ByteArray.empty] 8 (World.laidAll_os _ _ _)
      (World.shaped_of_ZipB (by kernel_rfl) (by kernel_rfl)) (by kernel_rfl) (by kernel_rfl) (by kernel_rfl)
      (by rw [MakeChecks.laidMetH_plain _ _ _ (by kernel_rfl)]; exact laidMet_laidAll _ (by kernel_rfl) (by kernel_rfl))) ?_
  intro W base args ds gs before hval0 hW hcnd hsz0 hL _
  have hsz : (DataW.weightsEach Tryd.prog (Tryd.f3.params.toList ++ Rows.cookFindsSpec.plain.varTypes Tryd.prog) (ds ++ gs)).all (· ≤ reachBytes) = true := hsz0
  have hval : ∀ (j : Nat) t v, Tryd.f3.params[j]? = some t → args[j]? = some v → Value.okWide Tryd.prog W .any base t v := hval0
  have hW' := hW
  obtain ⟨p, q, hA0, hV, rfl, hfz, hnd⟩ := hW
  have hA : DataW.TrodAll enc Tryd.prog W 0 (fun _ => true) true Tryd.f3.params.toList args.toList ds p := hA0
  rw [Tryd.params3] at hA hval hsz
  obtain ⟨v0, vs0, d0, ds0, p0, q0, hargs, rfl, rfl, h0, r0⟩ := trodAll_cons hA
  obtain ⟨v1, vs1, d1, ds1, p1, q1, rfl, rfl, rfl, h1, r1⟩ := trodAll_cons r0
  obtain ⟨rfl, rfl, rfl⟩ := trodAll_nil r1
  obtain rfl : args = #[v0, v1] := by cases args; simp_all
  obtain ⟨rfl, rfl⟩ := trodVars_none hV
  obtain ⟨a0, len0, cap0, rfl⟩ := okWide_slice Tryd.underlying22 (hval 0 22 v0 rfl rfl)
  have k0 := h0
  have lt0 : ∀ x ∈ p0, x.block < W.heap.size := by obtain ⟨m, hm⟩ := k0; exact DataW.trod_lt m _ _ _ hm
  obtain ⟨l0, w0⟩ := Ck.files_open k0
  obtain ⟨a1, rfl, rfl, rfl, y1⟩ := open_string Tryd.underlying9 (hval 1 9 v1 rfl rfl) h1
  have w1 : a1.size ≤ 140737488351232 := by
    have z := sized_string hsz (j := 1) (t := 9) rfl rfl
    rw [Array.length_toList] at z
    exact z
  clear hA0 hval0 hsz0 hsz
  refine (Ck.finds_walk a0 len0 cap0 l0 a1 W (Tab.of_laid hL) w0 w1).mono fun e W' ⟨he, bel⟩ => ?_
  subst he
  exact ⟨_, rfl, _, _, _, [], _, [], hW', trodAll_mk1 (shut_bool Tryd.underlying4 _), (trodAll_cons_mk (Below.trod laidOut (by kernel_rfl) (of_decide_eq_true (by kernel_rfl)) k0 bel lt0) (trodAll_cons_mk (shut_string Tryd.underlying9 y1) trodAll_mk0)), rfl, bel.frame _, fun h => by cases h⟩
theorem over : Rows.cookFindsRow.holds Tryd.pinned (OpenSpec.ofChange Rows.cookFindsSpec) :=
  OpenClaim.holds_of_wide 3 Tryd.f3 rfl rfl rfl rfl rfl rfl rfl ⟨rfl, rfl, rfl, rfl, rfl⟩ rfl rfl rfl rfl rfl (by kernel_rfl) Tryd.func3 (by kernel_rfl)
    (of_decide_eq_true (by kernel_rfl)) (by unfold Func.isWrapper; first | (rw [if_pos (by decide +kernel)]; kernel_rfl) | (rw [if_neg (by decide +kernel)]; exact ⟨rfl, rfl⟩))
    (fun os started H enc _ => lifted os started H enc)
theorem card : Rows.CookFindsCardSaid :=
  Claim7.holds_tied_plain_at .later [] [.data, .data, .data, .data, .pinned] true (true, "38a24746a22e816a7c20228ce871cbdf67fddb3eb70abfcecec18083f03f6761") true over (fun _ h => by cases h) (by kernel_rfl) (fun _ h => by cases h) cookFinds_row_tie rfl ⟨rfl, rfl⟩ (by kernel_rfl) rfl
    (fun f fn hf hfn => by
      obtain rfl : f = 3 := Option.some.inj ((show Tryd.prog.funcNamed "bellows/bellowslaw15.CookFinds" = some 3 by kernel_rfl).symm.trans hf) |>.symm
      obtain rfl : fn = Tryd.f3 := (Option.some.inj (Tryd.func3.symm.trans hfn)).symm
      have hall : (Tryd.f3.params.toList.all fun u => !Tryd.prog.wantsStandIn u) = true := by kernel_rfl
      exact ⟨by kernel_rfl, fun j t ht => by
        have hm : t ∈ Tryd.f3.params.toList := by simpa using Array.mem_of_getElem? ht
        exact (show Tryd.prog.wantsStandIn t = false by simpa using List.all_eq_true.1 hall t hm)⟩)
    (by kernel_rfl)
#print axioms card
end Go.Proofs.YtbklhcjcgiblkaaDoor.cookFinds
namespace Go.Proofs.YtbklhcjcgiblkaaDoor
theorem cookFinds_card : Rows.CookFindsCardSaid := cookFinds.card
end Go.Proofs.YtbklhcjcgiblkaaDoor
end
