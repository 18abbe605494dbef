/- Laid together by wip/tools/shake.py from texts of this claim: MfBuild, MfInB, PStringsliteHasPrefix0, PStringsHasPrefix0, PLexSign0, LexSign, LexWords, MfTakesA, MfTakesI, MfTakes, PrJoin, MfEndsA, MfEnds, MfCatch, MfParseA, PPathRight0, PathFsD, PrPaths, PrConcat, PrPlain, PrRight, PPrintRow0. -/
import Derived.Test.YtbjekebkgidhaaaGreatDoorSq3
import Derived.Laws.EntriesVeiled
import Derived.Deep.DeepCutAuto
import Derived.WalkKit
import Derived.WalkSpells
import Derived.Outline
import Derived.Deep.RegionHeld3
import Derived.Deep.RegionLaw
import Derived.Deep.AppendLies
import Derived.RegionTactic
import Derived.OneCell
import Derived.Lib.Hide
import Derived.Recover
import Derived.Defers
import Derived.Tactics2
import Derived.OwnWalk
import Derived.Laws.AppendOwn
import Derived.Laws.OwnMore
import Derived.Lib.AppendZerosOnto
section
set_option linter.unusedSimpArgs false
set_option linter.unusedVariables false
namespace Go.Proofs.YtbjekebkgidhaaaGreatDoor.Mf
open Go.RowKit Go.Lib Go.Shelf Go.Maps Go.Proofs.YtbjekebkgidhaaaGreatDoorW.PrintWords Go.Proofs.YtbjekebkgidhaaaGreatDoor.U Go.Proofs.YtbjekebkgidhaaaGreatDoor.Sc Go.Proofs.YtbjekebkgidhaaaGreatDoor.P Go.Proofs.YtbjekebkgidhaaaGreatDoor.MapV
set_option maxRecDepth 100000 in
set_option maxHeartbeats 8000000 in
theorem build_many (B0 : Nat) (g : Mem) (st : St) (V : Value) (ws : List Txt) (w : World) (hI : Inv B0 w g st) (hm : 200 ≤ st.edges.length) :
    Calls Tryz.prog 44 #[at0 g.r, V] w (Steps B0 g (buildE st g.line ws) w) := by
  have hR : Hid (buildE st g.line ws = .error (g.line, 3)) := by show _ = _; rw [buildE, if_pos hm]
  have hB0 := hI.base
  have hg0 := hI.new g.r (by rw [hI.rr]; decide)
  have hBox := Lib.hid ((Below.refl w.heap.size w).alloc (Nat.le_refl _) (.cells #[at0 g.r] 62))
  have hCell : Hid ((w.alloc (.cells #[at0 g.r] 62)).heap[w.heap.size]? = some (.cells #[at0 g.r] 62 (0, 0))) := heap_alloc_new w _
  have hI0 := Lib.hid (hI.below hBox.out)
  obtain ⟨Ae, ce, hve⟩ : ∃ A c, g.ve = .slice A st.edges.length c := by
    rcases hI.oe.2 with ⟨e, e2⟩ | ⟨b, cap, _, e, _⟩
    · exact ⟨none, 0, by rw [e, e2]⟩
    · exact ⟨_, _, e⟩
  have hlt : decide ((st.edges.length : Int) < 200) = false := by rw [decide_eq_false_iff_not]; omega
  have hVe := Lib.hid hve
  clear hI hm
  go_enter Tryz.func44, Tryz.ntmps44
  go_wp2_with fail
  generalize w.alloc (.cells #[at0 g.r] 62) = w0 at *
  have hc0 := (cell_of_heap (j := 0) hCell.out).trans rfl
  have c2 : w0.cell? ⟨g.r, 2, none⟩ = some (.slice Ae st.edges.length ce) := hve ▸ hI0.out.cell 2
  clear hve hVe
  generalize st.edges.length = ne at *
  refine RegP.regionH (fun w' => w'.cell? ⟨w.heap.size, 0, none⟩ = some (at0 g.r) ∧ w'.cell? ⟨g.r, 2, none⟩ = some (.slice Ae ne ce)) [(1, 0), (1, 1), (0, 2), (0, 3), (1, 4), (0, 5), (0, 6), (2, 7)] (by kernel_rfl) (by kernel_rfl) (by rfl) (by kernel_rfl) (by exact ⟨hc0, c2⟩) ?_
  refine RegP.held1 (by (simp only [gA,gB,gC]); rfl) (by exact fun _ _ _ h => h) (by rfl) (by intro w' hS_; (try dsimp only at hS_); go_split_ands; go_simp; try with_reducible rfl) ?_
  try simp only [Act.put, pA,pB,pC]
  refine RegP.held1 (by (simp only [gA,gB,gC]); rfl) (by exact fun _ _ _ h => h) (by rfl) (by intro w' hS_; (try dsimp only at hS_); go_split_ands; go_simp; try with_reducible rfl) ?_
  try simp only [Act.put, pA,pB,pC]
  refine RegP.pure1 (by (simp only [gA,gB,gC]); rfl) (by exact fun _ _ _ h => h) (by rfl) (by intro w'; go_simp; try with_reducible rfl) ?_
  try simp only [Act.put, pA,pB,pC]
  refine RegP.pure1 (by (simp only [gA,gB,gC]); rfl) (by exact fun _ _ _ h => h) (by rfl) (by intro w'; go_simp; try with_reducible rfl) ?_
  try simp only [Act.put, pA,pB,pC]
  refine RegP.held1 (by (simp only [gA,gB,gC]); rfl) (by exact fun _ _ _ h => h) (by rfl) (by intro w' hS_; (try dsimp only at hS_); go_split_ands; go_simp; try with_reducible rfl) ?_
  try simp only [Act.put, pA,pB,pC]
  refine RegP.pure1 (by (simp only [gA,gB,gC]); rfl) (by exact fun _ _ _ h => h) (by rfl) (by intro w'; go_simp; try with_reducible rfl) ?_
  try simp only [Act.put, pA,pB,pC]
  refine RegP.pure1 (by (simp only [gA,gB,gC]); rfl) (by exact fun _ _ _ h => h) (by rfl) (by intro w'; go_simp; try with_reducible rfl) ?_
  try simp only [Act.put, pA,pB,pC]
  refine RegP.ev1 (by (simp only [gA,gB,gC]); rfl) (fun K hK => ?_)
  go_simp
  refine (need_no g.r g.line 3 _ (hI0.out.rd.below ((Below.refl w0.heap.size w0).drew)).c4).mono ?_
  rintro e w2 ⟨rfl, rfl⟩
  exact ⟨rfl, Steps.bad hR.out ((hBox.out.mono hB0).trans (((Below.refl w0.heap.size w0).drew).mono (Nat.le_trans hB0 hBox.out.size)))⟩
set_option maxRecDepth 100000 in
set_option maxHeartbeats 16000000 in
theorem build_few (B0 : Nat) (g : Mem) (st : St) (A : Option Addr) (c : Nat) (ws : List Txt) (w : World) (hI : Inv B0 w g st) (hin : st.inner = 0) (hW : Kd.C Kd.string w A ws.length (ws.map B)) (hc : ws.length ≤ c) (h1 : 1 ≤ ws.length)
    (hn : ws.length ≤ 20000) (hl : ∀ t ∈ ws, t.length ≤ 1000000) (hm : ¬ 200 ≤ st.edges.length) (hgn : g.n < 1000000) :
    Calls Tryz.prog 44 #[at0 g.r, .slice A ws.length c] w (Steps B0 g (buildE st g.line ws) w) := by
  have hB0 := hI.base
  have hg0 := hI.new g.r (by rw [hI.rr]; decide)
  have hBox := Lib.hid ((Below.refl w.heap.size w).alloc (Nat.le_refl _) (.cells #[at0 g.r] 62))
  have hCell : Hid ((w.alloc (.cells #[at0 g.r] 62)).heap[w.heap.size]? = some (.cells #[at0 g.r] 62 (0, 0))) := heap_alloc_new w _
  have hI0 := Lib.hid (hI.below hBox.out)
  obtain ⟨Ae, ce, hve⟩ : ∃ A c, g.ve = .slice A st.edges.length c := by
    rcases hI.oe.2 with ⟨e, e2⟩ | ⟨b, cap, _, e, _⟩
    · exact ⟨none, 0, by rw [e, e2]⟩
    · exact ⟨_, _, e⟩
  have hlt : decide ((st.edges.length : Int) < 200) = true := by rw [decide_eq_true_iff]; omega
  have hVe := Lib.hid hve
  obtain ⟨ad, hA, hq0⟩ := str_at hW 0 (by omega)
  subst hA
  clear hq0
  have hD := C_drop hW 1
  rw [List.drop_one] at hD
  have htl : ws.tail.length = ws.length - 1 := List.length_tail
  rw [← htl] at hD
  have hsub : ∀ t ∈ ws.tail, t.length ≤ 1000000 := fun t ht => hl t (List.mem_of_mem_tail ht)
  have hCut : Hid (∀ (A' : Option Addr) (c' n' : Nat) (W : World), n' = ws.tail.length → (0 < ws.tail.length → A' = some (ad.add 1)) → ws.tail.length ≤ c' → Below w.heap.size w W → Calls Tryz.prog 74 #[.slice A' n' c', .string ⟨#[58]⟩] W (CutAs (ahead [58] ws.tail) (behind [58] ws.tail) W)) := by
    intro A' c' n' W hn' hA hc' hb
    subst hn'
    refine mcut_any A' c' ws.tail [58] W ?_ hc' (by omega)
    by_cases h0 : 0 < ws.tail.length
    · rw [hA h0]; exact Kd.C_below hD hb
    · have : ws.tail = [] := List.length_eq_zero_iff.1 (by omega)
      rw [this]; exact C_nil _ _
  have hadd : Hid (∀ x : Option Addr, x = some ⟨ad.block, ad.off + 1, none⟩ → x = some (ad.add 1)) := by
    intro x hx; rw [hx]; rfl
  have hBE : buildE st g.line ws = (match ahead [58] ws.tail, behind [58] ws.tail with
      | _ :: _, rn :: r => match ruleAt st.rules rn with
        | none => .error (g.line, 10)
        | some ri => match pathsE g.line st.file [] (ahead [58] ws.tail) with
          | .error e => .error e
          | .ok o => match pathsE g.line st.file [] (ahead [124] (ahead [124, 124] r)) with
            | .error e => .error e
            | .ok i => match pathsE g.line st.file [] (behind [124] (ahead [124, 124] r)) with
              | .error e => .error e
              | .ok m => match pathsE g.line st.file [] (behind [124, 124] r) with
                | .error e => .error e
                | .ok d => .ok { st with edges := st.edges ++ [⟨o, i, m, d, ri, none0, g.line⟩], inner := 2 }
      | _, _ => .error (g.line, 10)) := by rw [buildE, if_neg hm]; rfl
  have hsO : ∀ t ∈ ahead [58] ws.tail, t.length ≤ 1000000 := fun t ht => hsub t ((List.takeWhile_sublist _).subset ht)
  have hsR : ∀ t ∈ behind [58] ws.tail, t.length ≤ 1000000 := fun t ht => hsub t ((List.dropWhile_sublist _).subset (List.mem_of_mem_tail ht))
  have hnO : (ahead [58] ws.tail).length ≤ 20000 := Nat.le_trans (ahead_len _ _) (by omega)
  have hnR : (behind [58] ws.tail).length ≤ 20000 := by rw [← behind_drop, List.length_drop]; omega
  have hBEH := Lib.hid hBE
  have hIH := Lib.hid hI
  have hsOH := Lib.hid hsO
  have hsRH := Lib.hid hsR
  have hi1 : (1 : Int) ≤ (ws.length : Int) := by omega
  have hi2 : (ws.length : Int) ≤ (c : Int) := by omega
  clear hBE hI hD hl hsub hW hsO hsR
  have htn : ws.length - 1 = ws.tail.length := htl.symm
  clear htl
  generalize ahead [58] ws.tail = O at *
  generalize behind [58] ws.tail = RR at *
  obtain ⟨nw, hNW⟩ : ∃ nw, ws.length = nw := ⟨_, rfl⟩
  rw [hNW] at hc h1 hn hi1 hi2 htn ⊢
  have hN1 : nw ≤ ws.length := by omega
  have hN2 : ws.length ≤ nw := by omega
  clear hNW
  go_enter Tryz.func44, Tryz.ntmps44
  go_wp2_with fail
  generalize w.alloc (.cells #[at0 g.r] 62) = w0 at *
  have hc0 := (cell_of_heap (j := 0) hCell.out).trans rfl
  have c2 : w0.cell? ⟨g.r, 2, none⟩ = some (.slice Ae st.edges.length ce) := hve ▸ hI0.out.cell 2
  clear hve hVe
  generalize hNE : st.edges.length = ne at *
  have hNEH := Lib.hid hNE
  clear hNE
  refine RegP.regionH (fun w' => w'.cell? ⟨w.heap.size, 0, none⟩ = some (at0 g.r) ∧ w'.cell? ⟨g.r, 2, none⟩ = some (.slice Ae ne ce)) [(1, 0), (1, 1), (0, 2), (0, 3), (1, 4), (0, 5), (0, 6), (2, 7)] (by kernel_rfl) (by kernel_rfl) (by rfl) (by kernel_rfl) (by exact ⟨hc0, c2⟩) ?_
  refine RegP.held1 (by (simp only [gA,gB,gC]); rfl) (by exact fun _ _ _ h => h) (by rfl) (by intro w' hS_; (try dsimp only at hS_); go_split_ands; go_simp; try with_reducible rfl) ?_
  try simp only [Act.put, pA,pB,pC]
  refine RegP.held1 (by (simp only [gA,gB,gC]); rfl) (by exact fun _ _ _ h => h) (by rfl) (by intro w' hS_; (try dsimp only at hS_); go_split_ands; go_simp; try with_reducible rfl) ?_
  try simp only [Act.put, pA,pB,pC]
  refine RegP.pure1 (by (simp only [gA,gB,gC]); rfl) (by exact fun _ _ _ h => h) (by rfl) (by intro w'; go_simp; try with_reducible rfl) ?_
  try simp only [Act.put, pA,pB,pC]
  refine RegP.pure1 (by (simp only [gA,gB,gC]); rfl) (by exact fun _ _ _ h => h) (by rfl) (by intro w'; go_simp; try with_reducible rfl) ?_
  try simp only [Act.put, pA,pB,pC]
  refine RegP.held1 (by (simp only [gA,gB,gC]); rfl) (by exact fun _ _ _ h => h) (by rfl) (by intro w' hS_; (try dsimp only at hS_); go_split_ands; go_simp; try with_reducible rfl) ?_
  try simp only [Act.put, pA,pB,pC]
  refine RegP.pure1 (by (simp only [gA,gB,gC]); rfl) (by exact fun _ _ _ h => h) (by rfl) (by intro w'; go_simp; try with_reducible rfl) ?_
  try simp only [Act.put, pA,pB,pC]
  refine RegP.pure1 (by (simp only [gA,gB,gC]); rfl) (by exact fun _ _ _ h => h) (by rfl) (by intro w'; go_simp; try with_reducible rfl) ?_
  try simp only [Act.put, pA,pB,pC]
  refine RegP.ev1 (by (simp only [gA,gB,gC]); rfl) (fun K hK => ?_)
  go_simp
  refine (need_ok _ _ _).mono ?_
  rintro e w2 ⟨rfl, rfl⟩
  refine hK.out _ _ ?_ (fun hHeld => ?_)
  · (try dsimp only); exact ⟨hc0, c2⟩
  clear hK K
  try simp only [Act.put, pA,pB,pC]
  refine RegP.done1 ?_
  clear hHeld
  try dsimp only
  go_upto_region 2 with (fail)
  go_cut [4, 5] (fun s4 s5 wx => ∃ A1 c1 A2 c2, s4 = .slice A1 O.length c1 ∧ s5 = .slice A2 RR.length c2 ∧ (O.length ≤ c1 ∧ Hid (Kd.C Kd.string wx A1 O.length (O.map B))) ∧ (RR.length ≤ c2 ∧ Hid (Kd.C Kd.string wx A2 RR.length (RR.map B))) ∧ Hid (Below w0.heap.size w0 wx))
  case first =>
    by_cases hc1 : c = 1
    · have hnw : nw = 1 := by omega
      subst hc1
      subst hnw
      go_wp2_with fail
      refine (hCut.out _ _ _ _ (by omega) (fun h => by omega) (by omega) (hBox.out.trans (((Below.refl w0.heap.size w0).drew).mono hBox.out.size))).mono ?_
      rintro e w2 ⟨A1, c1, A2, c2', rfl, ⟨l1, k1⟩, ⟨l2, k2⟩, hb⟩
      go_wp2_with fail
      go_meet
      exact ⟨A1, c1, A2, c2', rfl, rfl, ⟨l1, k1⟩, ⟨l2, k2⟩, ((Below.refl w0.heap.size w0).drew).trans hb⟩
    · go_wp2_with fail
      refine (hCut.out _ _ _ _ (by omega) (fun h => hadd.out _ rfl) (by omega) (hBox.out.trans (((Below.refl w0.heap.size w0).drew).mono hBox.out.size))).mono ?_
      rintro e w2 ⟨A1, c1, A2, c2', rfl, ⟨l1, k1⟩, ⟨l2, k2⟩, hb⟩
      go_wp2_with fail
      go_meet
      exact ⟨A1, c1, A2, c2', rfl, rfl, ⟨l1, k1⟩, ⟨l2, k2⟩, ((Below.refl w0.heap.size w0).drew).trans hb⟩
  case rest =>
    obtain ⟨A1, c1, A2, c2', rfl, rfl, ⟨l1, k1⟩, ⟨l2, k2⟩, hBc⟩ := hcut
    have hIc := Lib.hid (hI0.out.below hBc.out)
    have hBw := Lib.hid ((hBox.out.mono hB0).trans (hBc.out.mono (Nat.le_trans hB0 hBox.out.size)))
    have hq0 : wc.cell? ⟨w.heap.size, 0, none⟩ = some (at0 g.r) := (hBc.out.cell (World.block_lt_of_cell? w0 _ hc0)).trans hc0
    have hCe : Hid (wc.heap[w.heap.size]? = some (.cells #[at0 g.r] 62 (0, 0))) := (hBc.out.block _ (lt_blk hCell.out)).trans hCell.out
    have hB2 := Lib.hid (hBox.out.trans (hBc.out.mono hBox.out.size))
    clear c2 hc0 hCut hadd hBox hCell hI0 hBc hlt hi1 hi2 hc h1 hn htn hN1 hN2
    by_cases hO : O.length = 0
    · have hOn : O = [] := List.length_eq_zero_iff.1 hO
      have hR : Hid (buildE st g.line ws = .error (g.line, 10)) := by show _ = _; rw [hBEH.out, hOn]
      have hob : decide ((0 : Int) < (O.length : Int)) = false := by rw [decide_eq_false_iff_not]; omega
      have hobn : decide (0 < O.length) = false := by rw [decide_eq_false_iff_not]; omega
      clear hOn hO hBEH
      generalize O.length = lo at *
      generalize RR.length = lr at *
      go_wp2_with fail
      refine RegP.regionH (fun w' => w'.cell? ⟨w.heap.size, 0, none⟩ = some (at0 g.r)) [(1, 0), (0, 1), (0, 2), (0, 3), (0, 4), (4, 5), (4, 6), (4, 7), (0, 8), (0, 9), (4, 10), (4, 11), (4, 12), (4, 13), (4, 14), (4, 15), (4, 16), (4, 17), (4, 18), (0, 19), (2, 20)] (by kernel_rfl) (by kernel_rfl) (by rfl) (by kernel_rfl) (by exact hq0) ?_
      refine RegP.held1 (by (simp only [gA,gB,gC]); rfl) (by exact fun _ _ _ h => h) (by rfl) (by intro w' hS_; (try dsimp only at hS_); go_split_ands; go_simp; try with_reducible rfl) ?_
      try simp only [Act.put, pA,pB,pC]
      refine RegP.pure1 (by (simp only [gA,gB,gC]); rfl) (by exact fun _ _ _ h => h) (by rfl) (by intro w'; go_simp; try with_reducible rfl) ?_
      try simp only [Act.put, pA,pB,pC]
      refine RegP.pure1 (by (simp only [gA,gB,gC]); rfl) (by exact fun _ _ _ h => h) (by rfl) (by intro w'; go_simp; try with_reducible rfl) ?_
      try simp only [Act.put, pA,pB,pC]
      refine RegP.pure1 (by (simp only [gA,gB,gC]); rfl) (by exact fun _ _ _ h => h) (by rfl) (by intro w'; go_simp; try with_reducible rfl) ?_
      try simp only [Act.put, pA,pB,pC]
      refine RegP.pure1 (by (simp only [gA,gB,gC]); rfl) (by exact fun _ _ _ h => h) (by rfl) (by intro w'; go_simp; try with_reducible rfl) ?_
      try simp only [Act.put, pA,pB,pC]
      refine RegP.skip1 (by (simp only [gA,gB,gC]); rfl) (by exact fun _ _ _ h => h) (by rfl) ?_
      try simp only [Act.put, pA,pB,pC]
      refine RegP.skip1 (by (simp only [gA,gB,gC]); rfl) (by exact fun _ _ _ h => h) (by rfl) ?_
      try simp only [Act.put, pA,pB,pC]
      refine RegP.skip1 (by (simp only [gA,gB,gC]); rfl) (by exact fun _ _ _ h => h) (by rfl) ?_
      try simp only [Act.put, pA,pB,pC]
      refine RegP.pure1 (by (simp only [gA,gB,gC]); rfl) (by exact fun _ _ _ h => h) (by rfl) (by intro w'; go_simp; try with_reducible rfl) ?_
      try simp only [Act.put, pA,pB,pC]
      refine RegP.pure1 (by (simp only [gA,gB,gC]); rfl) (by exact fun _ _ _ h => h) (by rfl) (by intro w'; go_simp; try with_reducible rfl) ?_
      try simp only [Act.put, pA,pB,pC]
      refine RegP.skip1 (by (simp only [gA,gB,gC]); rfl) (by exact fun _ _ _ h => h) (by rfl) ?_
      try simp only [Act.put, pA,pB,pC]
      refine RegP.skip1 (by (simp only [gA,gB,gC]); rfl) (by exact fun _ _ _ h => h) (by rfl) ?_
      try simp only [Act.put, pA,pB,pC]
      refine RegP.skip1 (by (simp only [gA,gB,gC]); rfl) (by exact fun _ _ _ h => h) (by rfl) ?_
      try simp only [Act.put, pA,pB,pC]
      refine RegP.skip1 (by (simp only [gA,gB,gC]); rfl) (by exact fun _ _ _ h => h) (by rfl) ?_
      try simp only [Act.put, pA,pB,pC]
      refine RegP.skip1 (by (simp only [gA,gB,gC]); rfl) (by exact fun _ _ _ h => h) (by rfl) ?_
      try simp only [Act.put, pA,pB,pC]
      refine RegP.skip1 (by (simp only [gA,gB,gC]); rfl) (by exact fun _ _ _ h => h) (by rfl) ?_
      try simp only [Act.put, pA,pB,pC]
      refine RegP.skip1 (by (simp only [gA,gB,gC]); rfl) (by exact fun _ _ _ h => h) (by rfl) ?_
      try simp only [Act.put, pA,pB,pC]
      refine RegP.skip1 (by (simp only [gA,gB,gC]); rfl) (by exact fun _ _ _ h => h) (by rfl) ?_
      try simp only [Act.put, pA,pB,pC]
      refine RegP.skip1 (by (simp only [gA,gB,gC]); rfl) (by exact fun _ _ _ h => h) (by rfl) ?_
      try simp only [Act.put, pA,pB,pC]
      refine RegP.pure1 (by (simp only [gA,gB,gC]); rfl) (by exact fun _ _ _ h => h) (by rfl) (by intro w'; go_simp; try with_reducible rfl) ?_
      try simp only [Act.put, pA,pB,pC]
      refine RegP.ev1 (by (simp only [gA,gB,gC]); rfl) (fun K hK => ?_)
      go_simp
      refine (need_no g.r g.line 10 _ (hIc.out.rd.below (Below.refl _ _).drew).c4).mono ?_
      rintro e w2 ⟨rfl, rfl⟩
      exact ⟨rfl, Steps.bad hR.out (hBw.out.drew)⟩
    have hob : decide ((0 : Int) < (O.length : Int)) = true := by rw [decide_eq_true_iff]; omega
    have hobn : decide (0 < O.length) = true := by rw [decide_eq_true_iff]; omega
    by_cases hRR : RR.length = 0
    · have hRn : RR = [] := List.length_eq_zero_iff.1 hRR
      have hR : Hid (buildE st g.line ws = .error (g.line, 10)) := by
        show _ = _
        rw [hBEH.out, hRn]
        cases O <;> rfl
      have hrb : decide ((0 : Int) < (RR.length : Int)) = false := by rw [decide_eq_false_iff_not]; omega
      have hrbn : decide (0 < RR.length) = false := by rw [decide_eq_false_iff_not]; omega
      clear hRn hRR hBEH hO
      generalize O.length = lo at *
      generalize RR.length = lr at *
      go_wp2_with fail
      refine RegP.regionH (fun w' => w'.cell? ⟨w.heap.size, 0, none⟩ = some (at0 g.r)) [(1, 0), (0, 1), (0, 2), (0, 3), (0, 4), (0, 5), (0, 6), (0, 7), (0, 8), (0, 9), (4, 10), (4, 11), (4, 12), (4, 13), (4, 14), (4, 15), (4, 16), (4, 17), (4, 18), (0, 19), (2, 20)] (by kernel_rfl) (by kernel_rfl) (by rfl) (by kernel_rfl) (by exact hq0) ?_
      refine RegP.held1 (by (simp only [gA,gB,gC]); rfl) (by exact fun _ _ _ h => h) (by rfl) (by intro w' hS_; (try dsimp only at hS_); go_split_ands; go_simp; try with_reducible rfl) ?_
      try simp only [Act.put, pA,pB,pC]
      refine RegP.pure1 (by (simp only [gA,gB,gC]); rfl) (by exact fun _ _ _ h => h) (by rfl) (by intro w'; go_simp; try with_reducible rfl) ?_
      try simp only [Act.put, pA,pB,pC]
      refine RegP.pure1 (by (simp only [gA,gB,gC]); rfl) (by exact fun _ _ _ h => h) (by rfl) (by intro w'; go_simp; try with_reducible rfl) ?_
      try simp only [Act.put, pA,pB,pC]
      refine RegP.pure1 (by (simp only [gA,gB,gC]); rfl) (by exact fun _ _ _ h => h) (by rfl) (by intro w'; go_simp; try with_reducible rfl) ?_
      try simp only [Act.put, pA,pB,pC]
      refine RegP.pure1 (by (simp only [gA,gB,gC]); rfl) (by exact fun _ _ _ h => h) (by rfl) (by intro w'; go_simp; try with_reducible rfl) ?_
      try simp only [Act.put, pA,pB,pC]
      refine RegP.pure1 (by (simp only [gA,gB,gC]); rfl) (by exact fun _ _ _ h => h) (by rfl) (by intro w'; go_simp; try with_reducible rfl) ?_
      try simp only [Act.put, pA,pB,pC]
      refine RegP.pure1 (by (simp only [gA,gB,gC]); rfl) (by exact fun _ _ _ h => h) (by rfl) (by intro w'; go_simp; try with_reducible rfl) ?_
      try simp only [Act.put, pA,pB,pC]
      refine RegP.pure1 (by (simp only [gA,gB,gC]); rfl) (by exact fun _ _ _ h => h) (by rfl) (by intro w'; go_simp; try with_reducible rfl) ?_
      try simp only [Act.put, pA,pB,pC]
      refine RegP.pure1 (by (simp only [gA,gB,gC]); rfl) (by exact fun _ _ _ h => h) (by rfl) (by intro w'; go_simp; try with_reducible rfl) ?_
      try simp only [Act.put, pA,pB,pC]
      refine RegP.pure1 (by (simp only [gA,gB,gC]); rfl) (by exact fun _ _ _ h => h) (by rfl) (by intro w'; go_simp; try with_reducible rfl) ?_
      try simp only [Act.put, pA,pB,pC]
      refine RegP.skip1 (by (simp only [gA,gB,gC]); rfl) (by exact fun _ _ _ h => h) (by rfl) ?_
      try simp only [Act.put, pA,pB,pC]
      refine RegP.skip1 (by (simp only [gA,gB,gC]); rfl) (by exact fun _ _ _ h => h) (by rfl) ?_
      try simp only [Act.put, pA,pB,pC]
      refine RegP.skip1 (by (simp only [gA,gB,gC]); rfl) (by exact fun _ _ _ h => h) (by rfl) ?_
      try simp only [Act.put, pA,pB,pC]
      refine RegP.skip1 (by (simp only [gA,gB,gC]); rfl) (by exact fun _ _ _ h => h) (by rfl) ?_
      try simp only [Act.put, pA,pB,pC]
      refine RegP.skip1 (by (simp only [gA,gB,gC]); rfl) (by exact fun _ _ _ h => h) (by rfl) ?_
      try simp only [Act.put, pA,pB,pC]
      refine RegP.skip1 (by (simp only [gA,gB,gC]); rfl) (by exact fun _ _ _ h => h) (by rfl) ?_
      try simp only [Act.put, pA,pB,pC]
      refine RegP.skip1 (by (simp only [gA,gB,gC]); rfl) (by exact fun _ _ _ h => h) (by rfl) ?_
      try simp only [Act.put, pA,pB,pC]
      refine RegP.skip1 (by (simp only [gA,gB,gC]); rfl) (by exact fun _ _ _ h => h) (by rfl) ?_
      try simp only [Act.put, pA,pB,pC]
      refine RegP.skip1 (by (simp only [gA,gB,gC]); rfl) (by exact fun _ _ _ h => h) (by rfl) ?_
      try simp only [Act.put, pA,pB,pC]
      refine RegP.pure1 (by (simp only [gA,gB,gC]); rfl) (by exact fun _ _ _ h => h) (by rfl) (by intro w'; go_simp; try with_reducible rfl) ?_
      try simp only [Act.put, pA,pB,pC]
      refine RegP.ev1 (by (simp only [gA,gB,gC]); rfl) (fun K hK => ?_)
      go_simp
      refine (need_no g.r g.line 10 _ (hIc.out.rd.below (Below.refl _ _).drew).c4).mono ?_
      rintro e w2 ⟨rfl, rfl⟩
      exact ⟨rfl, Steps.bad hR.out (hBw.out.drew)⟩
    have hrb : decide ((0 : Int) < (RR.length : Int)) = true := by rw [decide_eq_true_iff]; omega
    have hrbn : decide (0 < RR.length) = true := by rw [decide_eq_true_iff]; omega
    have hrb1 : (0 : Int) < (RR.length : Int) := by omega
    have hrb2 : 0 < RR.length := by omega
    obtain ⟨rn, r, rfl⟩ : ∃ rn r, RR = rn :: r := by
      cases RR with
      | nil => simp at hRR
      | cons x y => exact ⟨x, y, rfl⟩
    obtain ⟨o0, os, hOe⟩ : ∃ x y, O = x :: y := by
      cases O with
      | nil => simp at hO
      | cons x y => exact ⟨x, y, rfl⟩
    obtain ⟨ad2, hA2, hq2⟩ := str_at k2.out 0 (by simp)
    subst hA2
    have hq2' : wc.cell? ad2 = some (.string (B rn)) := by
      have e : ad2.add 0 = ad2 := by simp [Addr.add]
      rw [e] at hq2; exact hq2
    have hz57 : ∀ w : World, (zeroValue 68).run Tryz.prog w = .ok (.pointer none) w := fun w => by kernel_rfl
    have hrnl := hsRH.out rn (by simp)
    have hLk : Hid (∀ W, Below wc.heap.size wc W → (Instr.lookup 65 (.map (some g.rm)) (.string (B rn)) false).run Tryz.prog W = .ok (((ruleAt st.rules rn).map fun i => at0 (g.rb i)).getD (.pointer none)) W) :=
      fun W hb => (hIc.out.below hb).mr.look Tryz.underlying65 (hz57 W) rn (by unfold maxLen; omega)
    have hq1 : wc.cell? ⟨g.r, 1, none⟩ = some (.map (some g.rm)) := hIc.out.cell 1
    have hd0 := Lib.hid ((Below.refl wc.heap.size wc).drew)
    cases hra : ruleAt st.rules rn with
    | none =>
      have hR : Hid (buildE st g.line ws = .error (g.line, 10)) := by
        show _ = _
        rw [hBEH.out, hOe]
        simp only [hra]
      rw [hra] at hLk
      have hlk := hLk.out wc.drew hd0.out
      have hlkH : Hid (∀ W, Below wc.heap.size wc W → (Instr.lookup 65 (.map (some g.rm)) (.string (B rn)) false).run Tryz.prog W = .ok (.pointer none) W) := hLk.out
      clear hBEH hO hRR hOe hra hLk hq2 hlk
      generalize O.length = lo at *
      generalize (rn :: r).length = lr at *
      go_wp2_with fail
      refine RegP.regionH (fun w' => w'.cell? ⟨w.heap.size, 0, none⟩ = some (at0 g.r) ∧ w'.cell? ⟨g.r, 1, none⟩ = some (.map (some g.rm)) ∧ w'.cell? ad2 = some (.string (B rn)) ∧ (Instr.lookup 65 (.map (some g.rm)) (.string (B rn)) false).run Tryz.prog w' = .ok (.pointer none) w') [(1, 0), (0, 1), (0, 2), (0, 3), (0, 4), (0, 5), (0, 6), (0, 7), (0, 8), (0, 9), (1, 10), (0, 11), (0, 12), (1, 13), (0, 14), (0, 15), (1, 16), (1, 17), (0, 18), (0, 19), (2, 20)] (by kernel_rfl) (by kernel_rfl) (by rfl) (by kernel_rfl) (by exact ⟨hq0, hq1, hq2', hlkH.out _ hd0.out⟩) ?_
      refine RegP.held1 (by (simp only [gA,gB,gC]); rfl) (by exact fun _ _ _ h => h) (by rfl) (by intro w' hS_; (try dsimp only at hS_); go_split_ands; go_simp; try with_reducible rfl) ?_
      try simp only [Act.put, pA,pB,pC]
      refine RegP.pure1 (by (simp only [gA,gB,gC]); rfl) (by exact fun _ _ _ h => h) (by rfl) (by intro w'; go_simp; try with_reducible rfl) ?_
      try simp only [Act.put, pA,pB,pC]
      refine RegP.pure1 (by (simp only [gA,gB,gC]); rfl) (by exact fun _ _ _ h => h) (by rfl) (by intro w'; go_simp; try with_reducible rfl) ?_
      try simp only [Act.put, pA,pB,pC]
      refine RegP.pure1 (by (simp only [gA,gB,gC]); rfl) (by exact fun _ _ _ h => h) (by rfl) (by intro w'; go_simp; try with_reducible rfl) ?_
      try simp only [Act.put, pA,pB,pC]
      refine RegP.pure1 (by (simp only [gA,gB,gC]); rfl) (by exact fun _ _ _ h => h) (by rfl) (by intro w'; go_simp; try with_reducible rfl) ?_
      try simp only [Act.put, pA,pB,pC]
      refine RegP.pure1 (by (simp only [gA,gB,gC]); rfl) (by exact fun _ _ _ h => h) (by rfl) (by intro w'; go_simp; try with_reducible rfl) ?_
      try simp only [Act.put, pA,pB,pC]
      refine RegP.pure1 (by (simp only [gA,gB,gC]); rfl) (by exact fun _ _ _ h => h) (by rfl) (by intro w'; go_simp; try with_reducible rfl) ?_
      try simp only [Act.put, pA,pB,pC]
      refine RegP.pure1 (by (simp only [gA,gB,gC]); rfl) (by exact fun _ _ _ h => h) (by rfl) (by intro w'; go_simp; try with_reducible rfl) ?_
      try simp only [Act.put, pA,pB,pC]
      refine RegP.pure1 (by (simp only [gA,gB,gC]); rfl) (by exact fun _ _ _ h => h) (by rfl) (by intro w'; go_simp; try with_reducible rfl) ?_
      try simp only [Act.put, pA,pB,pC]
      refine RegP.pure1 (by (simp only [gA,gB,gC]); rfl) (by exact fun _ _ _ h => h) (by rfl) (by intro w'; go_simp; try with_reducible rfl) ?_
      try simp only [Act.put, pA,pB,pC]
      refine RegP.held1 (by (simp only [gA,gB,gC]); rfl) (by exact fun _ _ _ h => h) (by rfl) (by intro w' hS_; (try dsimp only at hS_); go_split_ands; go_simp; try with_reducible rfl) ?_
      try simp only [Act.put, pA,pB,pC]
      refine RegP.pure1 (by (simp only [gA,gB,gC]); rfl) (by exact fun _ _ _ h => h) (by rfl) (by intro w'; go_simp; try with_reducible rfl) ?_
      try simp only [Act.put, pA,pB,pC]
      refine RegP.pure1 (by (simp only [gA,gB,gC]); rfl) (by exact fun _ _ _ h => h) (by rfl) (by intro w'; go_simp; try with_reducible rfl) ?_
      try simp only [Act.put, pA,pB,pC]
      refine RegP.held1 (by (simp only [gA,gB,gC]); rfl) (by exact fun _ _ _ h => h) (by rfl) (by intro w' hS_; (try dsimp only at hS_); go_split_ands; go_simp; try with_reducible rfl) ?_
      try simp only [Act.put, pA,pB,pC]
      refine RegP.pure1 (by (simp only [gA,gB,gC]); rfl) (by exact fun _ _ _ h => h) (by rfl) (by intro w'; go_simp; try with_reducible rfl) ?_
      try simp only [Act.put, pA,pB,pC]
      refine RegP.pure1 (by (simp only [gA,gB,gC]); rfl) (by exact fun _ _ _ h => h) (by rfl) (by intro w'; go_simp; try with_reducible rfl) ?_
      try simp only [Act.put, pA,pB,pC]
      refine RegP.held1 (by (simp only [gA,gB,gC]); rfl) (by exact fun _ _ _ h => h) (by rfl) (by intro w' hS_; (try dsimp only at hS_); go_split_ands; go_simp; try with_reducible rfl) ?_
      try simp only [Act.put, pA,pB,pC]
      refine RegP.held1 (by (simp only [gA,gB,gC]); rfl) (by exact fun _ _ _ h => h) (by rfl) (by intro w' hS_; (try dsimp only at hS_); go_split_ands; go_simp; try with_reducible rfl) ?_
      try simp only [Act.put, pA,pB,pC]
      refine RegP.pure1 (by (simp only [gA,gB,gC]); rfl) (by exact fun _ _ _ h => h) (by rfl) (by intro w'; go_simp; try with_reducible rfl) ?_
      try simp only [Act.put, pA,pB,pC]
      refine RegP.pure1 (by (simp only [gA,gB,gC]); rfl) (by exact fun _ _ _ h => h) (by rfl) (by intro w'; go_simp; try with_reducible rfl) ?_
      try simp only [Act.put, pA,pB,pC]
      refine RegP.ev1 (by (simp only [gA,gB,gC]); rfl) (fun K hK => ?_)
      go_simp
      refine (need_no g.r g.line 10 _ (hIc.out.rd.below (Below.refl _ _).drew).c4).mono ?_
      rintro e w2 ⟨rfl, rfl⟩
      exact ⟨rfl, Steps.bad hR.out (hBw.out.drew)⟩
    | some ri =>
      have hlkH : Hid (∀ W, Below wc.heap.size wc W → (Instr.lookup 65 (.map (some g.rm)) (.string (B rn)) false).run Tryz.prog W = .ok (at0 (g.rb ri)) W) := by
        have := hLk.out; rw [hra] at this; exact this
      have hnmr : nameL rn = true := by
        have h1 := ruleAt_lt hra
        have h2 := (hIH.out.rules ri h1).nm
        have h3 := (List.findIdx?_eq_some_iff_getElem.1 hra)
        obtain ⟨h4, h5, _⟩ := h3
        rw [show rn = st.rules[ri].name from (eq_of_beq h5).symm]; exact h2
      have hrn2 : rn ≠ [124, 124] := fun e => by rw [e] at hnmr; exact absurd hnmr (by decide)
      have hah : ahead [124, 124] (rn :: r) = rn :: ahead [124, 124] r := by
        have : (rn == [124, 124]) = false := beq_eq_false_iff_ne.2 hrn2
        simp [ahead, List.takeWhile_cons, this]
      have hbh : behind [124, 124] (rn :: r) = behind [124, 124] r := by
        have : (rn == [124, 124]) = false := beq_eq_false_iff_ne.2 hrn2
        simp [behind, List.dropWhile_cons, this]
      have hCut2 : Hid (∀ W, Below wc.heap.size wc W → Calls Tryz.prog 74 #[.slice (some ad2) (rn :: r).length c2', .string ⟨#[124, 124]⟩] W (CutAs (rn :: ahead [124, 124] r) (behind [124, 124] r) W)) := by
        intro W hb
        have := mcut_any (some ad2) c2' (rn :: r) [124, 124] W (Kd.C_below k2.out hb) l2 (by omega)
        unfold CutPost at this
        rw [hah, hbh] at this
        exact this
      have hnr : r.length ≤ 20000 := by simp only [List.length_cons] at hnR; omega
      have hlQ : (ahead [124, 124] r).length ≤ 20000 := Nat.le_trans (ahead_len _ _) hnr
      have hlD : (behind [124, 124] r).length ≤ 20000 := by rw [← behind_drop, List.length_drop]; omega
      have hsQ : Hid (∀ t ∈ ahead [124, 124] r, t.length ≤ 1000000) := fun t ht => hsRH.out t (List.mem_cons_of_mem _ ((List.takeWhile_sublist _).subset ht))
      have hsD : Hid (∀ t ∈ behind [124, 124] r, t.length ≤ 1000000) := fun t ht => hsRH.out t (List.mem_cons_of_mem _ ((List.dropWhile_sublist _).subset (List.mem_of_mem_tail ht)))
      have hri := ruleAt_lt hra
      have hBE4 : Hid (buildE st g.line ws = (match pathsE g.line st.file [] O with
            | .error e => .error e
            | .ok o => match pathsE g.line st.file [] (ahead [124] (ahead [124, 124] r)) with
              | .error e => .error e
              | .ok i => match pathsE g.line st.file [] (behind [124] (ahead [124, 124] r)) with
                | .error e => .error e
                | .ok m => match pathsE g.line st.file [] (behind [124, 124] r) with
                  | .error e => .error e
                  | .ok d => .ok { st with edges := st.edges ++ [⟨o, i, m, d, ri, none0, g.line⟩], inner := 2 })) := by
        show _ = _
        rw [hBEH.out, hOe]
        simp only [hra]
      clear hah hbh hrn2 hnmr hBEH
      generalize ahead [124, 124] r = Q at *
      generalize behind [124, 124] r = D at *
      have hRaH := Lib.hid hra
      have hOeH := Lib.hid hOe
      clear hO hRR hra hLk hq2 hOe
      generalize hlr : (rn :: r).length = lr at *
      have hLR := Lib.hid hlr
      clear hlr
      generalize hlo : O.length = lo at *
      have hLO := Lib.hid hlo
      clear hlo
      go_wp2_with fail
      refine RegP.regionH (fun w' => w'.cell? ⟨w.heap.size, 0, none⟩ = some (at0 g.r) ∧ w'.cell? ⟨g.r, 1, none⟩ = some (.map (some g.rm)) ∧ w'.cell? ad2 = some (.string (B rn)) ∧ (Instr.lookup 65 (.map (some g.rm)) (.string (B rn)) false).run Tryz.prog w' = .ok (at0 (g.rb ri)) w') [(1, 0), (0, 1), (0, 2), (0, 3), (0, 4), (0, 5), (0, 6), (0, 7), (0, 8), (0, 9), (1, 10), (0, 11), (0, 12), (1, 13), (0, 14), (0, 15), (1, 16), (1, 17), (0, 18), (0, 19), (2, 20)] (by kernel_rfl) (by kernel_rfl) (by rfl) (by kernel_rfl) (by exact ⟨hq0, hq1, hq2', hlkH.out _ hd0.out⟩) ?_
      refine RegP.held1 (by (simp only [gA,gB,gC]); rfl) (by exact fun _ _ _ h => h) (by rfl) (by intro w' hS_; (try dsimp only at hS_); go_split_ands; go_simp; try with_reducible rfl) ?_
      try simp only [Act.put, pA,pB,pC]
      refine RegP.pure1 (by (simp only [gA,gB,gC]); rfl) (by exact fun _ _ _ h => h) (by rfl) (by intro w'; go_simp; try with_reducible rfl) ?_
      try simp only [Act.put, pA,pB,pC]
      refine RegP.pure1 (by (simp only [gA,gB,gC]); rfl) (by exact fun _ _ _ h => h) (by rfl) (by intro w'; go_simp; try with_reducible rfl) ?_
      try simp only [Act.put, pA,pB,pC]
      refine RegP.pure1 (by (simp only [gA,gB,gC]); rfl) (by exact fun _ _ _ h => h) (by rfl) (by intro w'; go_simp; try with_reducible rfl) ?_
      try simp only [Act.put, pA,pB,pC]
      refine RegP.pure1 (by (simp only [gA,gB,gC]); rfl) (by exact fun _ _ _ h => h) (by rfl) (by intro w'; go_simp; try with_reducible rfl) ?_
      try simp only [Act.put, pA,pB,pC]
      refine RegP.pure1 (by (simp only [gA,gB,gC]); rfl) (by exact fun _ _ _ h => h) (by rfl) (by intro w'; go_simp; try with_reducible rfl) ?_
      try simp only [Act.put, pA,pB,pC]
      refine RegP.pure1 (by (simp only [gA,gB,gC]); rfl) (by exact fun _ _ _ h => h) (by rfl) (by intro w'; go_simp; try with_reducible rfl) ?_
      try simp only [Act.put, pA,pB,pC]
      refine RegP.pure1 (by (simp only [gA,gB,gC]); rfl) (by exact fun _ _ _ h => h) (by rfl) (by intro w'; go_simp; try with_reducible rfl) ?_
      try simp only [Act.put, pA,pB,pC]
      refine RegP.pure1 (by (simp only [gA,gB,gC]); rfl) (by exact fun _ _ _ h => h) (by rfl) (by intro w'; go_simp; try with_reducible rfl) ?_
      try simp only [Act.put, pA,pB,pC]
      refine RegP.pure1 (by (simp only [gA,gB,gC]); rfl) (by exact fun _ _ _ h => h) (by rfl) (by intro w'; go_simp; try with_reducible rfl) ?_
      try simp only [Act.put, pA,pB,pC]
      refine RegP.held1 (by (simp only [gA,gB,gC]); rfl) (by exact fun _ _ _ h => h) (by rfl) (by intro w' hS_; (try dsimp only at hS_); go_split_ands; go_simp; try with_reducible rfl) ?_
      try simp only [Act.put, pA,pB,pC]
      refine RegP.pure1 (by (simp only [gA,gB,gC]); rfl) (by exact fun _ _ _ h => h) (by rfl) (by intro w'; go_simp; try with_reducible rfl) ?_
      try simp only [Act.put, pA,pB,pC]
      refine RegP.pure1 (by (simp only [gA,gB,gC]); rfl) (by exact fun _ _ _ h => h) (by rfl) (by intro w'; go_simp; try with_reducible rfl) ?_
      try simp only [Act.put, pA,pB,pC]
      refine RegP.held1 (by (simp only [gA,gB,gC]); rfl) (by exact fun _ _ _ h => h) (by rfl) (by intro w' hS_; (try dsimp only at hS_); go_split_ands; go_simp; try with_reducible rfl) ?_
      try simp only [Act.put, pA,pB,pC]
      refine RegP.pure1 (by (simp only [gA,gB,gC]); rfl) (by exact fun _ _ _ h => h) (by rfl) (by intro w'; go_simp; try with_reducible rfl) ?_
      try simp only [Act.put, pA,pB,pC]
      refine RegP.pure1 (by (simp only [gA,gB,gC]); rfl) (by exact fun _ _ _ h => h) (by rfl) (by intro w'; go_simp; try with_reducible rfl) ?_
      try simp only [Act.put, pA,pB,pC]
      refine RegP.held1 (by (simp only [gA,gB,gC]); rfl) (by exact fun _ _ _ h => h) (by rfl) (by intro w' hS_; (try dsimp only at hS_); go_split_ands; go_simp; try with_reducible rfl) ?_
      try simp only [Act.put, pA,pB,pC]
      refine RegP.held1 (by (simp only [gA,gB,gC]); rfl) (by exact fun _ _ _ h => h) (by rfl) (by intro w' hS_; (try dsimp only at hS_); go_split_ands; go_simp; try with_reducible rfl) ?_
      try simp only [Act.put, pA,pB,pC]
      refine RegP.pure1 (by (simp only [gA,gB,gC]); rfl) (by exact fun _ _ _ h => h) (by rfl) (by intro w'; go_simp; try with_reducible rfl) ?_
      try simp only [Act.put, pA,pB,pC]
      refine RegP.pure1 (by (simp only [gA,gB,gC]); rfl) (by exact fun _ _ _ h => h) (by rfl) (by intro w'; go_simp; try with_reducible rfl) ?_
      try simp only [Act.put, pA,pB,pC]
      refine RegP.ev1 (by (simp only [gA,gB,gC]); rfl) (fun K hK => ?_)
      go_simp
      refine (need_ok _ _ _).mono ?_
      rintro e w2 ⟨rfl, rfl⟩
      refine hK.out _ _ ?_ (fun hHeld => ?_)
      · (try dsimp only); exact ⟨hq0, hq1, hq2', hlkH.out _ hd0.out⟩
      clear hK K
      try simp only [Act.put, pA,pB,pC]
      refine RegP.done1 ?_
      clear hHeld
      try dsimp only
      go_wp2_with fail
      refine (hCut2.out _ hd0.out).mono ?_
      rintro e w3 ⟨A3, c3, A4, c4, rfl, ⟨l3, k3⟩, ⟨l4, k4⟩, hb3⟩
      have hB3 := Lib.hid (hd0.out.trans hb3)
      obtain ⟨ad3, hA3, hq3⟩ := str_at k3 0 (by simp)
      subst hA3
      have hq3' : Hid (w3.cell? ad3 = some (.string (B rn))) := by
        have e : ad3.add 0 = ad3 := by simp [Addr.add]
        rw [e] at hq3; exact hq3
      have hD3 := C_drop k3 1
      have k4H := Lib.hid k4
      have hSix3 : Hid (Six w w3 g rn ri ad3) := Six.mk' hIH.out (hB2.out.trans (hB3.out.mono hB2.out.size)) ((hB3.out.block _ (lt_blk hCe.out)).trans hCe.out) hq3'.out (fun W hb => hlkH.out W (hB3.out.trans (hb.mono hB3.out.size)))
      have k1H : Hid (Kd.C Kd.string w3 A1 lo (O.map B)) := Kd.C_below k1.out hB3.out
      have hCut3 : Hid (∀ (A' : Option Addr) (c' n' : Nat) (W : World), n' = Q.length → (0 < Q.length → A' = some (ad3.add 1)) → Q.length ≤ c' → Below w3.heap.size w3 W → Calls Tryz.prog 74 #[.slice A' n' c', .string ⟨#[124]⟩] W (CutAs (ahead [124] Q) (behind [124] Q) W)) := by
        intro A' c' n' W hn' hA hc' hb
        subst hn'
        refine mcut_any A' c' Q [124] W ?_ hc' (by omega)
        by_cases h0 : 0 < Q.length
        · rw [hA h0]
          have := Kd.C_below hD3 hb
          simpa using this
        · have : Q = [] := List.length_eq_zero_iff.1 (by omega)
          rw [this]; exact C_nil _ _
      have hadd3 : Hid (∀ x : Option Addr, x = some ⟨ad3.block, ad3.off + 1, none⟩ → x = some (ad3.add 1)) := by
        intro x hx; rw [hx]; rfl
      have hlI : (ahead [124] Q).length ≤ 20000 := Nat.le_trans (ahead_len _ _) (by omega)
      have hlM : (behind [124] Q).length ≤ 20000 := by rw [← behind_drop, List.length_drop]; omega
      have hsI : Hid (∀ t ∈ ahead [124] Q, t.length ≤ 1000000) := fun t ht => hsQ.out t ((List.takeWhile_sublist _).subset ht)
      have hsM : Hid (∀ t ∈ behind [124] Q, t.length ≤ 1000000) := fun t ht => hsQ.out t ((List.dropWhile_sublist _).subset (List.mem_of_mem_tail ht))
      generalize ahead [124] Q = I at *
      generalize behind [124] Q = M at *
      obtain ⟨l31, hl31⟩ : ∃ l31, (rn :: Q).length = l31 := ⟨_, rfl⟩
      have hl32 : l31 = Q.length + 1 := by rw [← hl31]; rfl
      rw [hl31] at l3 ⊢
      have hl33 : l31 - 1 = Q.length := by omega
      have hl34 : (1 : Int) ≤ (l31 : Int) := by omega
      have hl35 : (l31 : Int) ≤ (c3 : Int) := by omega
      have hl36 : l31 ≤ Q.length + 1 := by omega
      have hl37 : Q.length + 1 ≤ l31 := by omega
      clear hl31 hl32 hd0 hb3 k3 hq3 hD3 k4
      go_upto_region 5 with (fail)
      go_cut [7, 8] (fun s7 s8 wx => ∃ A5 c5 A6 c6, s7 = .slice A5 I.length c5 ∧ s8 = .slice A6 M.length c6 ∧ (I.length ≤ c5 ∧ Hid (Kd.C Kd.string wx A5 I.length (I.map B))) ∧ (M.length ≤ c6 ∧ Hid (Kd.C Kd.string wx A6 M.length (M.map B))) ∧ Hid (Below w3.heap.size w3 wx))
      case first =>
        by_cases hc31 : c3 = 1
        · have hnw : l31 = 1 := by omega
          subst hc31
          subst hnw
          go_wp2_with fail
          refine (hCut3.out _ _ _ _ (by omega) (fun h => by omega) (by omega) (Below.refl _ _)).mono ?_
          rintro e w4 ⟨A5, c5, A6, c6, rfl, ⟨l5, k5⟩, ⟨l6, k6⟩, hb⟩
          go_wp2_with fail
          go_meet
          exact ⟨A5, c5, A6, c6, rfl, rfl, ⟨l5, k5⟩, ⟨l6, k6⟩, hb⟩
        · go_wp2_with fail
          refine (hCut3.out _ _ _ _ (by omega) (fun h => hadd3.out _ rfl) (by omega) (Below.refl _ _)).mono ?_
          rintro e w4 ⟨A5, c5, A6, c6, rfl, ⟨l5, k5⟩, ⟨l6, k6⟩, hb⟩
          go_wp2_with fail
          go_meet
          exact ⟨A5, c5, A6, c6, rfl, rfl, ⟨l5, k5⟩, ⟨l6, k6⟩, hb⟩
      case rest =>
        obtain ⟨A5, c5, A6, c6, rfl, rfl, ⟨l5, k5⟩, ⟨l6, k6⟩, hb5⟩ := hcut
        have hSix : Hid (Six w wc g rn ri ad3) := Six.mk' hIH.out (hSix3.out.below.trans (hb5.out.mono hSix3.out.below.size)) ((hb5.out.block _ (lt_blk hSix3.out.hp)).trans hSix3.out.hp) ((hb5.out.cell (World.block_lt_of_cell? w3 _ hq3'.out)).trans hq3'.out) (fun W hb => (hSix3.out.all W (hb5.out.trans (hb.mono hb5.out.size))).2.2.2.1)
        have j1 : Hid (Kd.C Kd.string wc A1 lo (O.map B)) := Kd.C_below k1H.out hb5.out
        have j4 := Lib.hid (Kd.C_below k4H.out hb5.out)
        have hl38 : (0 : Int) < (l31 : Int) := by omega
        have hl39 : 0 < l31 := by omega
        clear k1 k1H k4H hq3' hb5 hlkH hSix3 hB3 hadd3 hCut3 hCut2 hCe hB2 hq0 hq1 hq2' hBw hIc
        obtain ⟨w5, hw5⟩ : ∃ w5, w5 = wc := ⟨_, rfl⟩
        subst hw5
        go_upto_region 6 with (fail)
        go_cut [9] (fun s9 wx => ∃ mb sb eb q, s9 = at0 q ∧ Hid (Made w wx g ri mb sb eb w.heap.size q (.slice none 0 0) (.slice none 0 0) (.slice none 0 0) (.slice none 0 0)) ∧ Hid (Below w5.heap.size w5 wx))
        case first =>
          refine RegP.regionT (fun w' => w'.cell? ⟨w.heap.size, 0, none⟩ = some (at0 g.r) ∧ w'.cell? ⟨g.r, 1, none⟩ = some (.map (some g.rm)) ∧ w'.cell? ad3 = some (.string (B rn)) ∧ (Instr.lookup 65 (.map (some g.rm)) (.string (B rn)) false).run Tryz.prog w' = .ok (at0 (g.rb ri)) w' ∧ w'.cell? ⟨g.r, 0, none⟩ = some (at0 g.fb) ∧ w'.cell? ⟨g.r, 4, none⟩ = some (.int .i64 (g.line : Int))) (.cons 1 0 (.cons 0 1 (.cons 0 2 (.cons 1 3 (.cons 0 4 (.cons 0 5 (.cons 1 6 (.cons 1 7 (.cons 1 8 (.cons 0 9 (.cons 0 10 (.cons 1 11 (.cons 1 13 (.cons 0 14 (.cons 0 15 (.cons 1 16 (.fork 12 (.cons 0 17 (.fork 18 (.cons 2 19 (.cons 2 20 .nil)) 19 (.cons 2 18 (.cons 2 20 .nil)))) 19 (.cons 2 12 (.cons 0 17 (.cons 2 18 (.cons 2 20 .nil))))))))))))))))))))) (by kernel_rfl) (by kernel_rfl) (by kernel_rfl) (by exact hSix.out.all _ (Below.refl _ _).drew) ?_
          refine RegP.heldT (by (simp only [gA,gB,gC]); rfl) (by exact fun _ _ _ h => h) (by rfl) (by intro w' hS_; (try dsimp only at hS_); go_split_ands; go_simp; try with_reducible rfl) ?_
          try simp only [Act.put, pA,pB,pC]
          refine RegP.pureT (by (simp only [gA,gB,gC]); rfl) (by exact fun _ _ _ h => h) (by rfl) (by intro w'; go_simp; try with_reducible rfl) ?_
          try simp only [Act.put, pA,pB,pC]
          refine RegP.pureT (by (simp only [gA,gB,gC]); rfl) (by exact fun _ _ _ h => h) (by rfl) (by intro w'; go_simp; try with_reducible rfl) ?_
          try simp only [Act.put, pA,pB,pC]
          refine RegP.heldT (by (simp only [gA,gB,gC]); rfl) (by exact fun _ _ _ h => h) (by rfl) (by intro w' hS_; (try dsimp only at hS_); go_split_ands; go_simp; try with_reducible rfl) ?_
          try simp only [Act.put, pA,pB,pC]
          refine RegP.pureT (by (simp only [gA,gB,gC]); rfl) (by exact fun _ _ _ h => h) (by rfl) (by intro w'; go_simp; try with_reducible rfl) ?_
          try simp only [Act.put, pA,pB,pC]
          refine RegP.pureT (by (simp only [gA,gB,gC]); rfl) (by exact fun _ _ _ h => h) (by rfl) (by intro w'; go_simp; try with_reducible rfl) ?_
          try simp only [Act.put, pA,pB,pC]
          refine RegP.heldT (by (simp only [gA,gB,gC]); rfl) (by exact fun _ _ _ h => h) (by rfl) (by intro w' hS_; (try dsimp only at hS_); go_split_ands; go_simp; try with_reducible rfl) ?_
          try simp only [Act.put, pA,pB,pC]
          refine RegP.heldT (by (simp only [gA,gB,gC]); rfl) (by exact fun _ _ _ h => h) (by rfl) (by intro w' hS_; (try dsimp only at hS_); go_split_ands; go_simp; try with_reducible rfl) ?_
          try simp only [Act.put, pA,pB,pC]
          refine RegP.heldT (by (simp only [gA,gB,gC]); rfl) (by exact fun _ _ _ h => h) (by rfl) (by intro w' hS_; (try dsimp only at hS_); go_split_ands; go_simp; try with_reducible rfl) ?_
          try simp only [Act.put, pA,pB,pC]
          refine RegP.pureT (by (simp only [gA,gB,gC]); rfl) (by exact fun _ _ _ h => h) (by rfl) (by intro w'; go_simp; try with_reducible rfl) ?_
          try simp only [Act.put, pA,pB,pC]
          refine RegP.pureT (by (simp only [gA,gB,gC]); rfl) (by exact fun _ _ _ h => h) (by rfl) (by intro w'; go_simp; try with_reducible rfl) ?_
          try simp only [Act.put, pA,pB,pC]
          refine RegP.heldT (by (simp only [gA,gB,gC]); rfl) (by exact fun _ _ _ h => h) (by rfl) (by intro w' hS_; (try dsimp only at hS_); go_split_ands; go_simp; try with_reducible rfl) ?_
          try simp only [Act.put, pA,pB,pC]
          refine RegP.heldT (by (simp only [gA,gB,gC]); rfl) (by exact fun _ _ _ h => h) (by rfl) (by intro w' hS_; (try dsimp only at hS_); go_split_ands; go_simp; try with_reducible rfl) ?_
          try simp only [Act.put, pA,pB,pC]
          refine RegP.pureT (by (simp only [gA,gB,gC]); rfl) (by exact fun _ _ _ h => h) (by rfl) (by intro w'; go_simp; try with_reducible rfl) ?_
          try simp only [Act.put, pA,pB,pC]
          refine RegP.pureT (by (simp only [gA,gB,gC]); rfl) (by exact fun _ _ _ h => h) (by rfl) (by intro w'; go_simp; try with_reducible rfl) ?_
          try simp only [Act.put, pA,pB,pC]
          refine RegP.heldT (by (simp only [gA,gB,gC]); rfl) (by exact fun _ _ _ h => h) (by rfl) (by intro w' hS_; (try dsimp only at hS_); go_split_ands; go_simp; try with_reducible rfl) ?_
          try simp only [Act.put, pA,pB,pC]
          refine RegP.forkT (by (simp only [gA,gB,gC]); rfl) (by (simp only [gA,gB,gC]); rfl) (fun K hK => ?_) (fun K hK => ?_)
          · go_simp
            refine (New_any _ _).mono ?_
            rintro e w6 ⟨rfl, rfl⟩
            refine hK.out _ _ ?_ (fun hHeld => ?_)
            · (try dsimp only); exact hSix.out.all _ (by (repeat (first | exact Below.refl _ _ | refine Below.drew ?_ | refine Below.setCell ?_ (by simp <;> omega) _ | refine Below.alloc ?_ (by simp <;> omega) _)))
            clear hK K
            try simp only [Act.put, pA,pB,pC]
            refine RegP.pureT (by (simp only [gA,gB,gC]); rfl) (by exact fun _ _ _ h => h) (by rfl) (by intro w'; go_simp; try with_reducible rfl) ?_
            try simp only [Act.put, pA,pB,pC]
            refine RegP.forkT (by (simp only [gA,gB,gC]); rfl) (by (simp only [gA,gB,gC]); rfl) (fun K hK => ?_) (fun K hK => ?_)
            · go_simp
              refine hK.out _ _ ?_ (fun hHeld => ?_)
              · (try dsimp only); exact hSix.out.all _ (by (repeat (first | exact Below.refl _ _ | refine Below.drew ?_ | refine Below.setCell ?_ (by simp <;> omega) _ | refine Below.alloc ?_ (by simp <;> omega) _)))
              clear hK K
              try simp only [Act.put, pA,pB,pC]
              refine RegP.evT (by (simp only [gA,gB,gC]); rfl) (fun K hK => ?_)
              go_simp
              refine hK.out _ _ ?_ (fun hHeld => ?_)
              · (try dsimp only); exact hSix.out.all _ (by (repeat (first | exact Below.refl _ _ | refine Below.drew ?_ | refine Below.setCell ?_ (by simp <;> omega) _ | refine Below.alloc ?_ (by simp <;> omega) _)))
              clear hK K
              try simp only [Act.put, pA,pB,pC]
              refine RegP.evT (by (simp only [gA,gB,gC]); rfl) (fun K hK => ?_)
              go_simp
              refine hK.out _ _ ?_ (fun hHeld => ?_)
              · (try dsimp only); exact hSix.out.all _ (by (repeat (first | exact Below.refl _ _ | refine Below.drew ?_ | refine Below.setCell ?_ (by simp <;> omega) _ | refine Below.alloc ?_ (by simp <;> omega) _)))
              clear hK K
              try simp only [Act.put, pA,pB,pC]
              refine RegP.doneT ?_
              clear hHeld
              try dsimp only
              go_wp2_with fail
              go_meet
              exact ⟨_, _, _, _, rfl, hSix.out.ordC, by (repeat (first | exact Below.refl _ _ | refine Below.drew ?_ | refine Below.setCell ?_ (by simp <;> omega) _ | refine Below.alloc ?_ (by simp <;> omega) _))⟩
            · go_simp
              refine hK.out _ _ ?_ (fun hHeld => ?_)
              · (try dsimp only); exact hSix.out.all _ (by (repeat (first | exact Below.refl _ _ | refine Below.drew ?_ | refine Below.setCell ?_ (by simp <;> omega) _ | refine Below.alloc ?_ (by simp <;> omega) _)))
              clear hK K
              try simp only [Act.put, pA,pB,pC]
              refine RegP.evT (by (simp only [gA,gB,gC]); rfl) (fun K hK => ?_)
              go_simp
              refine hK.out _ _ ?_ (fun hHeld => ?_)
              · (try dsimp only); exact hSix.out.all _ (by (repeat (first | exact Below.refl _ _ | refine Below.drew ?_ | refine Below.setCell ?_ (by simp <;> omega) _ | refine Below.alloc ?_ (by simp <;> omega) _)))
              clear hK K
              try simp only [Act.put, pA,pB,pC]
              refine RegP.evT (by (simp only [gA,gB,gC]); rfl) (fun K hK => ?_)
              go_simp
              refine hK.out _ _ ?_ (fun hHeld => ?_)
              · (try dsimp only); exact hSix.out.all _ (by (repeat (first | exact Below.refl _ _ | refine Below.drew ?_ | refine Below.setCell ?_ (by simp <;> omega) _ | refine Below.alloc ?_ (by simp <;> omega) _)))
              clear hK K
              try simp only [Act.put, pA,pB,pC]
              refine RegP.doneT ?_
              clear hHeld
              try dsimp only
              go_wp2_with fail
              go_meet
              exact ⟨_, _, _, _, rfl, hSix.out.ordB, by (repeat (first | exact Below.refl _ _ | refine Below.drew ?_ | refine Below.setCell ?_ (by simp <;> omega) _ | refine Below.alloc ?_ (by simp <;> omega) _))⟩
          · go_simp
            refine hK.out _ _ ?_ (fun hHeld => ?_)
            · (try dsimp only); exact hSix.out.all _ (by (repeat (first | exact Below.refl _ _ | refine Below.drew ?_ | refine Below.setCell ?_ (by simp <;> omega) _ | refine Below.alloc ?_ (by simp <;> omega) _)))
            clear hK K
            try simp only [Act.put, pA,pB,pC]
            refine RegP.evT (by (simp only [gA,gB,gC]); rfl) (fun K hK => ?_)
            go_simp
            refine (New_any _ _).mono ?_
            rintro e w6 ⟨rfl, rfl⟩
            refine hK.out _ _ ?_ (fun hHeld => ?_)
            · (try dsimp only); exact hSix.out.all _ (by (repeat (first | exact Below.refl _ _ | refine Below.drew ?_ | refine Below.setCell ?_ (by simp <;> omega) _ | refine Below.alloc ?_ (by simp <;> omega) _)))
            clear hK K
            try simp only [Act.put, pA,pB,pC]
            refine RegP.pureT (by (simp only [gA,gB,gC]); rfl) (by exact fun _ _ _ h => h) (by rfl) (by intro w'; go_simp; try with_reducible rfl) ?_
            try simp only [Act.put, pA,pB,pC]
            refine RegP.evT (by (simp only [gA,gB,gC]); rfl) (fun K hK => ?_)
            go_simp
            refine hK.out _ _ ?_ (fun hHeld => ?_)
            · (try dsimp only); exact hSix.out.all _ (by (repeat (first | exact Below.refl _ _ | refine Below.drew ?_ | refine Below.setCell ?_ (by simp <;> omega) _ | refine Below.alloc ?_ (by simp <;> omega) _)))
            clear hK K
            try simp only [Act.put, pA,pB,pC]
            refine RegP.evT (by (simp only [gA,gB,gC]); rfl) (fun K hK => ?_)
            go_simp
            refine hK.out _ _ ?_ (fun hHeld => ?_)
            · (try dsimp only); exact hSix.out.all _ (by (repeat (first | exact Below.refl _ _ | refine Below.drew ?_ | refine Below.setCell ?_ (by simp <;> omega) _ | refine Below.alloc ?_ (by simp <;> omega) _)))
            clear hK K
            try simp only [Act.put, pA,pB,pC]
            refine RegP.doneT ?_
            clear hHeld
            try dsimp only
            go_wp2_with fail
            go_meet
            exact ⟨_, _, _, _, rfl, hSix.out.ordA, by (repeat (first | exact Below.refl _ _ | refine Below.drew ?_ | refine Below.setCell ?_ (by simp <;> omega) _ | refine Below.alloc ?_ (by simp <;> omega) _))⟩
        case rest =>
          obtain ⟨mb, sb, eb, q, rfl, hM, hD⟩ := hcut
          have hM0 : Hid (Made w wc.drew g ri mb sb eb w.heap.size q (.slice none 0 0) (.slice none 0 0) (.slice none 0 0) (.slice none 0 0)) := hM.out.more (by (repeat (first | exact Below.refl _ _ | refine Below.drew ?_ | refine Below.setCell ?_ (by simp <;> omega) _ | refine Below.alloc ?_ (by simp <;> omega) _)))
          have hD0 : Hid (Below w5.heap.size w5 wc.drew) := hD.out.drew
          clear hM hD hSix
          go_wp2_with fail
          refine RegP.regionH (fun w' => w'.cell? ⟨q, 0, none⟩ = some (at0 eb) ∧ w'.cell? ⟨w.heap.size, 0, none⟩ = some (at0 g.r)) [(1, 0), (1, 1), (1, 2), (1, 3), (1, 4), (0, 5), (1, 7), (0, 8), (1, 10), (0, 11), (1, 13), (0, 14), (2, 6), (2, 9), (2, 12), (2, 15), (0, 16), (0, 17), (0, 18), (2, 19), (0, 20), (0, 21), (0, 22), (2, 23), (0, 24), (0, 25), (0, 26), (2, 27), (0, 28), (0, 29), (0, 30), (2, 31)] (by kernel_rfl) (by kernel_rfl) (by rfl) (by kernel_rfl) (by exact hM0.out.box) ?_
          refine RegP.held1 (by (simp only [gA,gB,gC]); rfl) (by exact fun _ _ _ h => h) (by rfl) (by intro w' hS_; (try dsimp only at hS_); go_split_ands; go_simp; try with_reducible rfl) ?_
          try simp only [Act.put, pA,pB,pC]
          refine RegP.held1 (by (simp only [gA,gB,gC]); rfl) (by exact fun _ _ _ h => h) (by rfl) (by intro w' hS_; (try dsimp only at hS_); go_split_ands; go_simp; try with_reducible rfl) ?_
          try simp only [Act.put, pA,pB,pC]
          refine RegP.held1 (by (simp only [gA,gB,gC]); rfl) (by exact fun _ _ _ h => h) (by rfl) (by intro w' hS_; (try dsimp only at hS_); go_split_ands; go_simp; try with_reducible rfl) ?_
          try simp only [Act.put, pA,pB,pC]
          refine RegP.held1 (by (simp only [gA,gB,gC]); rfl) (by exact fun _ _ _ h => h) (by rfl) (by intro w' hS_; (try dsimp only at hS_); go_split_ands; go_simp; try with_reducible rfl) ?_
          try simp only [Act.put, pA,pB,pC]
          refine RegP.held1 (by (simp only [gA,gB,gC]); rfl) (by exact fun _ _ _ h => h) (by rfl) (by intro w' hS_; (try dsimp only at hS_); go_split_ands; go_simp; try with_reducible rfl) ?_
          try simp only [Act.put, pA,pB,pC]
          refine RegP.pure1 (by (simp only [gA,gB,gC]); rfl) (by exact fun _ _ _ h => h) (by rfl) (by intro w'; go_simp; try with_reducible rfl) ?_
          try simp only [Act.put, pA,pB,pC]
          refine RegP.held1 (by (simp only [gA,gB,gC]); rfl) (by exact fun _ _ _ h => h) (by rfl) (by intro w' hS_; (try dsimp only at hS_); go_split_ands; go_simp; try with_reducible rfl) ?_
          try simp only [Act.put, pA,pB,pC]
          refine RegP.pure1 (by (simp only [gA,gB,gC]); rfl) (by exact fun _ _ _ h => h) (by rfl) (by intro w'; go_simp; try with_reducible rfl) ?_
          try simp only [Act.put, pA,pB,pC]
          refine RegP.held1 (by (simp only [gA,gB,gC]); rfl) (by exact fun _ _ _ h => h) (by rfl) (by intro w' hS_; (try dsimp only at hS_); go_split_ands; go_simp; try with_reducible rfl) ?_
          try simp only [Act.put, pA,pB,pC]
          refine RegP.pure1 (by (simp only [gA,gB,gC]); rfl) (by exact fun _ _ _ h => h) (by rfl) (by intro w'; go_simp; try with_reducible rfl) ?_
          try simp only [Act.put, pA,pB,pC]
          refine RegP.held1 (by (simp only [gA,gB,gC]); rfl) (by exact fun _ _ _ h => h) (by rfl) (by intro w' hS_; (try dsimp only at hS_); go_split_ands; go_simp; try with_reducible rfl) ?_
          try simp only [Act.put, pA,pB,pC]
          refine RegP.pure1 (by (simp only [gA,gB,gC]); rfl) (by exact fun _ _ _ h => h) (by rfl) (by intro w'; go_simp; try with_reducible rfl) ?_
          try simp only [Act.put, pA,pB,pC]
          refine RegP.ev1 (by (simp only [gA,gB,gC]); rfl) (fun K hK => ?_)
          rcases hp0 : pathsE g.line st.file [] O with ⟨l1, e1⟩ | oo
          · have hR : Hid (buildE st g.line ws = .error (l1, e1)) := by show _ = _; rw [hBE4.out]; simp only [hp0]
            go_simp
            have hP := hIH.out.paths hM0.out.below hD0.out A1 c1 O _ hLO.out j1.out hnO hsOH.out
            rw [hp0] at hP
            refine hP.mono ?_
            rintro e w2 ⟨rfl, hb⟩
            exact ⟨rfl, Steps.bad hR.out ((hM0.out.below.mono hIH.out.base).trans (hb.mono (Nat.le_trans hIH.out.base hM0.out.below.size)))⟩
          go_simp
          have hP := hIH.out.paths hM0.out.below hD0.out A1 c1 O _ hLO.out j1.out hnO hsOH.out
          rw [hp0] at hP
          refine hP.mono ?_
          rintro e x1 ⟨v1, rfl, ho, hb⟩
          clear hP
          obtain ⟨E1, d1, rfl, hl19, _⟩ := own_slice ho
          have hM1 := Lib.hid (hM0.out.more hb)
          have hD1 := Lib.hid (hD0.out.trans (hb.mono hD0.out.size))
          have hO11 := Lib.hid (own_lower ho hM0.out.below.size)
          clear ho hb hl19
          refine hK.out _ _ ?_ (fun hHeld => ?_)
          · (try dsimp only); exact hM1.out.box
          clear hK K
          try simp only [Act.put, pA,pB,pC]
          refine RegP.ev1 (by (simp only [gA,gB,gC]); rfl) (fun K hK => ?_)
          rcases hp1 : pathsE g.line st.file [] I with ⟨l1, e1⟩ | ii
          · have hR : Hid (buildE st g.line ws = .error (l1, e1)) := by show _ = _; rw [hBE4.out]; simp only [hp0, hp1]
            go_simp
            have hP := hIH.out.paths hM1.out.below hD1.out A5 c5 I _ rfl k5.out hlI hsI.out
            rw [hp1] at hP
            refine hP.mono ?_
            rintro e w2 ⟨rfl, hb⟩
            exact ⟨rfl, Steps.bad hR.out ((hM1.out.below.mono hIH.out.base).trans (hb.mono (Nat.le_trans hIH.out.base hM1.out.below.size)))⟩
          go_simp
          have hP := hIH.out.paths hM1.out.below hD1.out A5 c5 I _ rfl k5.out hlI hsI.out
          rw [hp1] at hP
          refine hP.mono ?_
          rintro e x2 ⟨v2, rfl, ho, hb⟩
          clear hP
          obtain ⟨E2, d2, rfl, hl29, _⟩ := own_slice ho
          have hM2 := Lib.hid (hM1.out.more hb)
          have hD2 := Lib.hid (hD1.out.trans (hb.mono hD1.out.size))
          have hO12 := Lib.hid (row_more hO11.out hb)
          have hO22 := Lib.hid (own_lower ho hM1.out.below.size)
          clear ho hb hl29
          refine hK.out _ _ ?_ (fun hHeld => ?_)
          · (try dsimp only); exact hM2.out.box
          clear hK K
          try simp only [Act.put, pA,pB,pC]
          refine RegP.ev1 (by (simp only [gA,gB,gC]); rfl) (fun K hK => ?_)
          rcases hp2 : pathsE g.line st.file [] M with ⟨l1, e1⟩ | mm
          · have hR : Hid (buildE st g.line ws = .error (l1, e1)) := by show _ = _; rw [hBE4.out]; simp only [hp0, hp1, hp2]
            go_simp
            have hP := hIH.out.paths hM2.out.below hD2.out A6 c6 M _ rfl k6.out hlM hsM.out
            rw [hp2] at hP
            refine hP.mono ?_
            rintro e w2 ⟨rfl, hb⟩
            exact ⟨rfl, Steps.bad hR.out ((hM2.out.below.mono hIH.out.base).trans (hb.mono (Nat.le_trans hIH.out.base hM2.out.below.size)))⟩
          go_simp
          have hP := hIH.out.paths hM2.out.below hD2.out A6 c6 M _ rfl k6.out hlM hsM.out
          rw [hp2] at hP
          refine hP.mono ?_
          rintro e x3 ⟨v3, rfl, ho, hb⟩
          clear hP
          obtain ⟨E3, d3, rfl, hl39, _⟩ := own_slice ho
          have hM3 := Lib.hid (hM2.out.more hb)
          have hD3 := Lib.hid (hD2.out.trans (hb.mono hD2.out.size))
          have hO13 := Lib.hid (row_more hO12.out hb)
          have hO23 := Lib.hid (row_more hO22.out hb)
          have hO33 := Lib.hid (own_lower ho hM2.out.below.size)
          clear ho hb hl39
          refine hK.out _ _ ?_ (fun hHeld => ?_)
          · (try dsimp only); exact hM3.out.box
          clear hK K
          try simp only [Act.put, pA,pB,pC]
          refine RegP.ev1 (by (simp only [gA,gB,gC]); rfl) (fun K hK => ?_)
          rcases hp3 : pathsE g.line st.file [] D with ⟨l1, e1⟩ | dd
          · have hR : Hid (buildE st g.line ws = .error (l1, e1)) := by show _ = _; rw [hBE4.out]; simp only [hp0, hp1, hp2, hp3]
            go_simp
            have hP := hIH.out.paths hM3.out.below hD3.out A4 c4 D _ rfl j4.out hlD hsD.out
            rw [hp3] at hP
            refine hP.mono ?_
            rintro e w2 ⟨rfl, hb⟩
            exact ⟨rfl, Steps.bad hR.out ((hM3.out.below.mono hIH.out.base).trans (hb.mono (Nat.le_trans hIH.out.base hM3.out.below.size)))⟩
          go_simp
          have hP := hIH.out.paths hM3.out.below hD3.out A4 c4 D _ rfl j4.out hlD hsD.out
          rw [hp3] at hP
          refine hP.mono ?_
          rintro e x4 ⟨v4, rfl, ho, hb⟩
          clear hP
          obtain ⟨E4, d4, rfl, hl49, _⟩ := own_slice ho
          have hM4 := Lib.hid (hM3.out.more hb)
          have hD4 := Lib.hid (hD3.out.trans (hb.mono hD3.out.size))
          have hO14 := Lib.hid (row_more hO13.out hb)
          have hO24 := Lib.hid (row_more hO23.out hb)
          have hO34 := Lib.hid (row_more hO33.out hb)
          have hO44 := Lib.hid (own_lower ho hM3.out.below.size)
          clear ho hb hl49
          refine hK.out _ _ ?_ (fun hHeld => ?_)
          · (try dsimp only); exact hM4.out.box
          clear hK K
          try simp only [Act.put, pA,pB,pC]
          refine RegP.pure1 (by (simp only [gA,gB,gC]); rfl) (by exact fun _ _ _ h => h) (by rfl) (by intro w'; go_simp; try with_reducible rfl) ?_
          try simp only [Act.put, pA,pB,pC]
          refine RegP.pure1 (by (simp only [gA,gB,gC]); rfl) (by exact fun _ _ _ h => h) (by rfl) (by intro w'; go_simp; try with_reducible rfl) ?_
          try simp only [Act.put, pA,pB,pC]
          refine RegP.pure1 (by (simp only [gA,gB,gC]); rfl) (by exact fun _ _ _ h => h) (by rfl) (by intro w'; go_simp; try with_reducible rfl) ?_
          try simp only [Act.put, pA,pB,pC]
          refine RegP.ev1 (by (simp only [gA,gB,gC]); rfl) (fun K hK => ?_)
          have c19 := (cell_of_heap (j := 0) hM4.out.he).trans rfl
          have f19 := frozen_of_heap hM4.out.he 0
          go_simp
          have hM5 : Hid (Made w (x4.setCell ⟨eb, 0, none⟩ (.slice E1 oo.length d1)) g ri mb sb eb w.heap.size q (.slice E1 oo.length d1) (.slice none 0 0) (.slice none 0 0) (.slice none 0 0)) := hM4.out.set 0 _ _ _ _ _ rfl
          have hO15 := Lib.hid (hM4.out.row hO14.out 0 (.slice E1 oo.length d1))
          have hO25 := Lib.hid (hM4.out.row hO24.out 0 (.slice E1 oo.length d1))
          have hO35 := Lib.hid (hM4.out.row hO34.out 0 (.slice E1 oo.length d1))
          have hO45 := Lib.hid (hM4.out.row hO44.out 0 (.slice E1 oo.length d1))
          clear c19 f19
          generalize x4.setCell ⟨eb, 0, none⟩ (.slice E1 oo.length d1) = x5 at *
          refine hK.out _ _ ?_ (fun hHeld => ?_)
          · (try dsimp only); exact hM5.out.box
          clear hK K
          try simp only [Act.put, pA,pB,pC]
          refine RegP.pure1 (by (simp only [gA,gB,gC]); rfl) (by exact fun _ _ _ h => h) (by rfl) (by intro w'; go_simp; try with_reducible rfl) ?_
          try simp only [Act.put, pA,pB,pC]
          refine RegP.pure1 (by (simp only [gA,gB,gC]); rfl) (by exact fun _ _ _ h => h) (by rfl) (by intro w'; go_simp; try with_reducible rfl) ?_
          try simp only [Act.put, pA,pB,pC]
          refine RegP.pure1 (by (simp only [gA,gB,gC]); rfl) (by exact fun _ _ _ h => h) (by rfl) (by intro w'; go_simp; try with_reducible rfl) ?_
          try simp only [Act.put, pA,pB,pC]
          refine RegP.ev1 (by (simp only [gA,gB,gC]); rfl) (fun K hK => ?_)
          have c19 := (cell_of_heap (j := 1) hM5.out.he).trans rfl
          have f19 := frozen_of_heap hM5.out.he 1
          go_simp
          have hM6 : Hid (Made w (x5.setCell ⟨eb, 1, none⟩ (.slice E2 ii.length d2)) g ri mb sb eb w.heap.size q (.slice E1 oo.length d1) (.slice E2 ii.length d2) (.slice none 0 0) (.slice none 0 0)) := hM5.out.set 1 _ _ _ _ _ rfl
          have hO16 := Lib.hid (hM5.out.row hO15.out 1 (.slice E2 ii.length d2))
          have hO26 := Lib.hid (hM5.out.row hO25.out 1 (.slice E2 ii.length d2))
          have hO36 := Lib.hid (hM5.out.row hO35.out 1 (.slice E2 ii.length d2))
          have hO46 := Lib.hid (hM5.out.row hO45.out 1 (.slice E2 ii.length d2))
          clear c19 f19
          generalize x5.setCell ⟨eb, 1, none⟩ (.slice E2 ii.length d2) = x6 at *
          refine hK.out _ _ ?_ (fun hHeld => ?_)
          · (try dsimp only); exact hM6.out.box
          clear hK K
          try simp only [Act.put, pA,pB,pC]
          refine RegP.pure1 (by (simp only [gA,gB,gC]); rfl) (by exact fun _ _ _ h => h) (by rfl) (by intro w'; go_simp; try with_reducible rfl) ?_
          try simp only [Act.put, pA,pB,pC]
          refine RegP.pure1 (by (simp only [gA,gB,gC]); rfl) (by exact fun _ _ _ h => h) (by rfl) (by intro w'; go_simp; try with_reducible rfl) ?_
          try simp only [Act.put, pA,pB,pC]
          refine RegP.pure1 (by (simp only [gA,gB,gC]); rfl) (by exact fun _ _ _ h => h) (by rfl) (by intro w'; go_simp; try with_reducible rfl) ?_
          try simp only [Act.put, pA,pB,pC]
          refine RegP.ev1 (by (simp only [gA,gB,gC]); rfl) (fun K hK => ?_)
          have c19 := (cell_of_heap (j := 2) hM6.out.he).trans rfl
          have f19 := frozen_of_heap hM6.out.he 2
          go_simp
          have hM7 : Hid (Made w (x6.setCell ⟨eb, 2, none⟩ (.slice E3 mm.length d3)) g ri mb sb eb w.heap.size q (.slice E1 oo.length d1) (.slice E2 ii.length d2) (.slice E3 mm.length d3) (.slice none 0 0)) := hM6.out.set 2 _ _ _ _ _ rfl
          have hO17 := Lib.hid (hM6.out.row hO16.out 2 (.slice E3 mm.length d3))
          have hO27 := Lib.hid (hM6.out.row hO26.out 2 (.slice E3 mm.length d3))
          have hO37 := Lib.hid (hM6.out.row hO36.out 2 (.slice E3 mm.length d3))
          have hO47 := Lib.hid (hM6.out.row hO46.out 2 (.slice E3 mm.length d3))
          clear c19 f19
          generalize x6.setCell ⟨eb, 2, none⟩ (.slice E3 mm.length d3) = x7 at *
          refine hK.out _ _ ?_ (fun hHeld => ?_)
          · (try dsimp only); exact hM7.out.box
          clear hK K
          try simp only [Act.put, pA,pB,pC]
          refine RegP.pure1 (by (simp only [gA,gB,gC]); rfl) (by exact fun _ _ _ h => h) (by rfl) (by intro w'; go_simp; try with_reducible rfl) ?_
          try simp only [Act.put, pA,pB,pC]
          refine RegP.pure1 (by (simp only [gA,gB,gC]); rfl) (by exact fun _ _ _ h => h) (by rfl) (by intro w'; go_simp; try with_reducible rfl) ?_
          try simp only [Act.put, pA,pB,pC]
          refine RegP.pure1 (by (simp only [gA,gB,gC]); rfl) (by exact fun _ _ _ h => h) (by rfl) (by intro w'; go_simp; try with_reducible rfl) ?_
          try simp only [Act.put, pA,pB,pC]
          refine RegP.ev1 (by (simp only [gA,gB,gC]); rfl) (fun K hK => ?_)
          have c19 := (cell_of_heap (j := 3) hM7.out.he).trans rfl
          have f19 := frozen_of_heap hM7.out.he 3
          go_simp
          have hM8 : Hid (Made w (x7.setCell ⟨eb, 3, none⟩ (.slice E4 dd.length d4)) g ri mb sb eb w.heap.size q (.slice E1 oo.length d1) (.slice E2 ii.length d2) (.slice E3 mm.length d3) (.slice E4 dd.length d4)) := hM7.out.set 3 _ _ _ _ _ rfl
          have hO18 := Lib.hid (hM7.out.row hO17.out 3 (.slice E4 dd.length d4))
          have hO28 := Lib.hid (hM7.out.row hO27.out 3 (.slice E4 dd.length d4))
          have hO38 := Lib.hid (hM7.out.row hO37.out 3 (.slice E4 dd.length d4))
          have hO48 := Lib.hid (hM7.out.row hO47.out 3 (.slice E4 dd.length d4))
          clear c19 f19
          generalize x7.setCell ⟨eb, 3, none⟩ (.slice E4 dd.length d4) = x8 at *
          refine hK.out _ _ ?_ (fun hHeld => ?_)
          · (try dsimp only); exact hM8.out.box
          clear hK K
          try simp only [Act.put, pA,pB,pC]
          refine RegP.done1 ?_
          clear hHeld
          have hM9 : Hid (Made w x8.drew g ri mb sb eb w.heap.size q (.slice E1 oo.length d1) (.slice E2 ii.length d2) (.slice E3 mm.length d3) (.slice E4 dd.length d4)) := hM8.out.more (by (repeat (first | exact Below.refl _ _ | refine Below.drew ?_ | refine Below.setCell ?_ (by simp <;> omega) _ | refine Below.alloc ?_ (by simp <;> omega) _)))
          have hI8 : Hid (Inv B0 x8.drew g st) := hIH.out.below (hM9.out.below)
          have hF0 := Lib.hid (pathsE_few0 hp0 (by rw [hLO.out]; omega))
          have hF1 := Lib.hid (pathsE_few0 hp1 (by omega))
          have hR : Hid (buildE st g.line ws = .ok { st with edges := st.edges ++ [⟨oo, ii, mm, dd, ri, none0, g.line⟩], inner := 2 }) := by show _ = _; rw [hBE4.out]; simp only [hp0, hp1, hp2, hp3]
          have hmf : ∀ (fn : Fn) (first cap : Array Value) (w : World), (Instr.makeFunc fn first cap).run Tryz.prog w = .ok (.func fn first cap) w := fun _ _ _ _ => rfl
          try dsimp only
          go_wp2_with fail
          refine RegP.region (fun w' => w'.cell? ⟨q, 0, none⟩ = some (at0 eb) ∧ w'.cell? ⟨w.heap.size, 0, none⟩ = some (at0 g.r) ∧ w'.cell? ⟨g.r, 2, none⟩ = some g.ve) 10 [(1, 0), (1, 1), (0, 2), (0, 3), (1, 4), (1, 5), (2, 6), (2, 7), (0, 8), (0, 9), (3, 10)] (by kernel_rfl) (by kernel_rfl) (by rfl) (by kernel_rfl) (by exact hM8.out.s8 hIH.out (by (repeat (first | exact Below.refl _ _ | refine Below.drew ?_ | refine Below.setCell ?_ (by simp <;> omega) _ | refine Below.alloc ?_ (by simp <;> omega) _)))) ?_
          refine RegP.held1 (by (simp only [gA,gB,gC]); rfl) (by exact fun _ _ _ h => h) (by rfl) (by intro w' hS_; (try dsimp only at hS_); go_split_ands; go_simp; try with_reducible rfl) ?_
          try simp only [Act.put, pA,pB,pC]
          refine RegP.held1 (by (simp only [gA,gB,gC]); rfl) (by exact fun _ _ _ h => h) (by rfl) (by intro w' hS_; (try dsimp only at hS_); go_split_ands; go_simp; try with_reducible rfl) ?_
          try simp only [Act.put, pA,pB,pC]
          refine RegP.pure1 (by (simp only [gA,gB,gC]); rfl) (by exact fun _ _ _ h => h) (by rfl) (by intro w'; go_simp; try with_reducible rfl) ?_
          try simp only [Act.put, pA,pB,pC]
          refine RegP.pure1 (by (simp only [gA,gB,gC]); rfl) (by exact fun _ _ _ h => h) (by rfl) (by intro w'; go_simp; try with_reducible rfl) ?_
          try simp only [Act.put, pA,pB,pC]
          refine RegP.held1 (by (simp only [gA,gB,gC]); rfl) (by exact fun _ _ _ h => h) (by rfl) (by intro w' hS_; (try dsimp only at hS_); go_split_ands; go_simp; try with_reducible rfl) ?_
          try simp only [Act.put, pA,pB,pC]
          refine RegP.held1 (by (simp only [gA,gB,gC]); rfl) (by exact fun _ _ _ h => h) (by rfl) (by intro w' hS_; (try dsimp only at hS_); go_split_ands; go_simp; try with_reducible rfl) ?_
          try simp only [Act.put, pA,pB,pC]
          refine RegP.ev1 (by (simp only [gA,gB,gC]); rfl) (fun K hK => ?_)
          go_simp
          refine hK.out _ _ ?_ (fun hHeld => ?_)
          · (try dsimp only); exact hM8.out.s8 hIH.out (by (repeat (first | exact Below.refl _ _ | refine Below.drew ?_ | refine Below.setCell ?_ (by simp <;> omega) _ | refine Below.alloc ?_ (by simp <;> omega) _)))
          clear hK K
          try simp only [Act.put, pA,pB,pC]
          refine RegP.ev1 (by (simp only [gA,gB,gC]); rfl) (fun K hK => ?_)
          refine step_append_cells (w0 := w) (W := x8.drew) B0 rfl _ _ 66 74 (.pointer none) 1 8 rfl Tryz.underlying66 infoEdge rfl (by decide) (by decide) g.ve st.edges.length _ [at0 eb] rfl rfl rfl (by intro u hu; rw [List.mem_singleton.1 hu]; rfl) hI8.out.oe (hM8.out.below.drew.mono hIH.out.base) hI8.out.base (by rw [hNEH.out]; omega) ?_
          intro v9 w9 ho hb hg ha
          obtain ⟨A9, c9, rfl⟩ := own_row ho
          have hfin := hIH.out.edgeNew hin ri mb sb eb w.heap.size q _ _ _ _ _ oo ii mm dd hM9.out hri hO18.out hO28.out hO38.out hO48.out hF0.out hF1.out (by rw [hNEH.out]; omega) ho hg ha
          obtain ⟨g', q1, q2, q3, q4, q5, q6, q7⟩ := hfin
          have hq1 := Lib.hid q1
          have hb9 := Lib.hid hb
          have hs9 := Lib.hid (hM9.out.grown hIH.out hg)
          rw [hNEH.out] at hq1 q6 q7 ⊢
          clear q1 ho hb hg ha
          refine hK.out _ _ ?_ (fun hHeld => ?_)
          · (try dsimp only); exact hs9.out
          clear hK K
          try simp only [Act.put, pA,pB,pC]
          refine RegP.pure1 (by (simp only [gA,gB,gC]); rfl) (by exact fun _ _ _ h => h) (by rfl) (by intro w'; go_simp; try with_reducible rfl) ?_
          try simp only [Act.put, pA,pB,pC]
          refine RegP.pure1 (by (simp only [gA,gB,gC]); rfl) (by exact fun _ _ _ h => h) (by rfl) (by intro w'; go_simp; try with_reducible rfl) ?_
          try simp only [Act.put, pA,pB,pC]
          refine RegP.last1 (by (simp only [gA,gB,gC]); rfl) (fun K hK => ?_)
          go_simp
          refine hK.out _ _ ?_
          clear hK K
          try simp only [Act.put, pA,pB,pC]
          refine RegP.done1 ?_
          try dsimp only
          go_wp2_with fail
          go_end0
          exact Steps.fin hR.out hq1.out q2 (by omega) ((hb9.out.setCell hg0 _).setCell hg0 _)
end Go.Proofs.YtbjekebkgidhaaaGreatDoor.Mf
end
section
set_option linter.unusedSimpArgs false
set_option linter.unusedVariables false
namespace Go.Proofs.YtbjekebkgidhaaaGreatDoor.Mf
open Go.RowKit Go.Lib Go.Shelf Go.Maps Go.Proofs.YtbjekebkgidhaaaGreatDoorW.PrintWords Go.Proofs.YtbjekebkgidhaaaGreatDoor.U Go.Proofs.YtbjekebkgidhaaaGreatDoor.Sc Go.Proofs.YtbjekebkgidhaaaGreatDoor.P Go.Proofs.YtbjekebkgidhaaaGreatDoor.MapV
theorem expE_len {line : Nat} {ms : List MapL} {t x : Txt} (h : expE line ms t = .ok x) : x.length ≤ 16384 := by
  unfold expE at h
  split at h
  · injection h with h; rw [← h]; exact expF_len _ _
  · cases h
section
variable {B0 : Nat} {w w' : World} {g : Mem} {st : St}
theorem Inv.expanded (h : Inv B0 w g st) (text : Txt) (hl : text.length ≤ 1000000) :
    Calls Tryz.prog 47 #[at0 g.r, at0 g.fb, .string (B text)] w (Gives (expE g.line [st.file] text) (fun x => .string (B x)) w) :=
  expanded_any g.r g.line [⟨g.fb, g.fm, g.n, st.file⟩] (at0 g.fb) text w (h.cell 4) (lt_blk h.hr) (by omega) h.getL h.fchain
theorem _root_.Go.Proofs.YtbjekebkgidhaaaGreatDoor.Sc.Stored.keep {s : Lev} {k t : Txt} (hs : Stored w w' s k t) (b : Nat) (hb : b < w.heap.size) (hne : b ≠ s.bm) : w'.heap[b]? = w.heap[b]? := by
  obtain ⟨w1, g1, g2, _⟩ := hs
  exact (g2.block b (Nat.lt_of_lt_of_le hb g1.size) (fun e => hne (by injection e))).trans (g1.block b hb)
theorem _root_.Go.Proofs.YtbjekebkgidhaaaGreatDoor.Sc.Stored.size {s : Lev} {k t : Txt} (hs : Stored w w' s k t) : w.heap.size ≤ w'.heap.size := by
  obtain ⟨w1, g1, g2, _⟩ := hs
  exact Nat.le_trans g1.size g2.size
theorem _root_.Go.Proofs.YtbjekebkgidhaaaGreatDoor.Sc.Stored.own {s : Lev} {k t : Txt} (hs : Stored w w' s k t) : OwnsM w' s.bm (s.n + 1) (upd s.m k t) := by
  obtain ⟨w1, g1, g2, h⟩ := hs
  exact h
theorem _root_.Go.Proofs.YtbjekebkgidhaaaGreatDoor.Sc.Stored.below {s : Lev} {k t : Txt} (hs : Stored w w' s k t) (hb : B0 ≤ w.heap.size) (hm : B0 ≤ s.bm) : Below B0 w w' := by
  obtain ⟨w1, g1, g2, _⟩ := hs
  exact (g1.mono hb).grown g2 (Nat.le_trans hb g1.size) (fun k hk => by injection hk with hk; subst hk; exact hm)
theorem Inv.edgeSet (h : Inv B0 w g st) (j0 : Nat) (hj0 : j0 + 1 = st.edges.length) (k t : Txt) (ht : t.length ≤ 16384)
    (hs : Stored w w' ⟨g.sb j0, g.mb j0, g.n, (st.edges[j0]'(by omega)).own⟩ k t) :
    Inv B0 w' { g with n := g.n + 1 } { st with edges := onLast (fun e => { e with own := upd e.own k t }) st.edges } := by
  have hru := h.edges j0 (by omega)
  have hlen : (onLast (fun e : EdgeS => { e with own := upd e.own k t }) st.edges).length = st.edges.length := onLast_len _ _
  have K : Grow st.rules.length st.edges.length (fun r => r = .omap j0) w w' g { g with n := g.n + 1 } := by
    refine ⟨hs.size, fun b hb hx => hs.keep b hb (fun e => hx ?_), fun _ _ => rfl, rfl, fun _ _ => ⟨rfl, rfl⟩, fun _ _ => ⟨rfl, rfl, rfl, rfl, rfl, rfl, rfl⟩, Nat.le_succ _⟩
    rw [show b = g.mb j0 from e]; exact hru.rm
  refine ⟨Nat.le_trans h.base K.size, h.new, h.rr, K.blk h.hr h.rr (by simp), h.rf, K.blk h.hf h.rf (by simp), h.rfm, (K.mapM h.mf h.rfm (by simp)).mono (Nat.le_succ _), h.sf, h.rrm, (K.mapV h.mr h.rrm (by simp)).mono (Nat.le_succ _), ?_, ?_, by rw [hlen]; exact h.ne, ?_, h.roe, K.row h.od h.rod (by simp), h.rod, h.nd, ?_⟩
  · intro i hi
    exact (h.rules i hi).grow K hi (by simp) (by simp)
  · intro j hj
    have hj' : j < st.edges.length := by rw [← hlen]; exact hj
    have hej := h.edges j hj'
    show EdgeAt B0 w' _ _ j (onLast _ st.edges)[j]
    rw [onLast_at _ _ j hj hj']
    by_cases e : j + 1 = st.edges.length
    · obtain rfl : j = j0 := by omega
      rw [if_pos e]
      exact ⟨hej.re, hej.rs, hej.rm, K.blk hej.he hej.re (by simp), K.blk hej.hs hej.rs (by simp), hs.own, hej.lt, hej.s0.grow K (by simp), hej.s1.grow K (by simp), hej.s2.grow K (by simp), hej.s3.grow K (by simp), hej.sh.upd ht, hej.f0, hej.f1⟩
    · rw [if_neg e]
      exact hej.grow K hj' (Nat.le_refl _) (by simp) (by simp; omega) (by simp)
  · show w'.ownsRow B0 _ 1 g.ve (onLast _ st.edges).length ((List.range (onLast _ st.edges).length).map _)
    rw [hlen]; exact K.row h.oe h.roe (by simp)
  · have h0 := h.inn.grow K (by simp) rfl rfl rfl
    unfold InnAt at h0 ⊢
    simp only [hlen]
    exact h0
end
set_option maxRecDepth 100000 in
set_option maxHeartbeats 8000000 in
theorem buildIn_any (B0 : Nat) (g : Mem) (st : St) (nm text : Txt) (p q : Nat) (w : World) (hI : Inv B0 w g st) (hin : st.inner = 2) (hvi : g.vi = .func (.func 76) #[] #[at0 p, at0 q])
    (hnm : nameL nm = true) (hnl : nm.length ≤ 1000000) (htl : text.length ≤ 1000000) (hgn : g.n < 1000000) :
    Calls Tryz.prog 76 #[.string (B nm), .string (B text), at0 p, at0 q] w
      (Inner B0 g st (match expE g.line [st.file] text with | .error e => .error e | .ok x => .ok { st with edges := onLast (fun e => { e with own := upd e.own nm x }) st.edges }) w) := by
  obtain ⟨RR, hRR⟩ : ∃ RR, (match expE g.line [st.file] text with | .error e => .error e | .ok x => .ok { st with edges := onLast (fun e => { e with own := upd e.own nm x }) st.edges } : Except Er St) = RR := ⟨_, rfl⟩
  rw [hRR]
  obtain ⟨hlp, hpr, hqr, hp, hq⟩ : 0 < st.edges.length ∧ g.role p = .still ∧ g.role q = .still ∧ w.heap[p]? = some (.cells #[at0 (g.eb (st.edges.length - 1))] 74 (0, 0)) ∧ w.heap[q]? = some (.cells #[at0 g.r] 62 (0, 0)) := by
    rcases hI.inn with ⟨a, _⟩ | ⟨a, _⟩ | ⟨a, b, _, p', q', c, d, e, f, k⟩
    · omega
    · omega
    · rw [hvi] at c
      injection c with c1 c2 c3
      have h1 : p = p' := by have := congrArg (fun x => x[0]?) c3; simpa [at0] using this
      have h2 : q = q' := by have := congrArg (fun x => x[1]?) c3; simpa [at0] using this
      subst h1 h2
      exact ⟨b, d, e, f, k⟩
  have hB0 := hI.base
  obtain ⟨j, hj⟩ : ∃ j, j + 1 = st.edges.length := ⟨st.edges.length - 1, by omega⟩
  have hltE : j < st.edges.length := by omega
  have hje : st.edges.length - 1 = j := by omega
  rw [hje] at hp
  have hE : EdgeAt B0 w g st.rules.length j (st.edges[j]'hltE) := hI.edges j hltE
  have hRH : Hid ((match expE g.line [st.file] text with | .error e => .error e | .ok x => .ok { st with edges := onLast (fun e => { e with own := upd e.own nm x }) st.edges } : Except Er St) = RR) := hRR
  have hS0 : Hid (∀ W, Below w.heap.size w W → W.cell? ⟨p, 0, none⟩ = some (at0 (g.eb j)) ∧ W.cell? ⟨g.eb j, 7, none⟩ = some (at0 (g.sb j)) ∧ W.cell? ⟨q, 0, none⟩ = some (at0 g.r) ∧ W.cell? ⟨g.r, 0, none⟩ = some (at0 g.fb)) := by
    intro W hb
    exact ⟨(hb.cell (p := ⟨p, 0, none⟩) (lt_blk hp)).trans ((cell_of_heap (j := 0) hp).trans rfl), (hb.cell (p := ⟨g.eb j, 7, none⟩) (lt_blk hE.he)).trans ((cell_of_heap (j := 7) hE.he).trans rfl), (hb.cell (p := ⟨q, 0, none⟩) (lt_blk hq)).trans ((cell_of_heap (j := 0) hq).trans rfl), (hI.below hb).cell 0⟩
  have hIH := Lib.hid hI
  have hJ := Lib.hid hj
  clear hj
  have hpH := Lib.hid hp
  have hqH := Lib.hid hq
  clear hp hq
  have hEH := Lib.hid hE
  have hmb := Lib.hid (hI.new (g.mb j) (by rw [hE.rm]; simp))
  have hrmb : Hid (g.r ≠ g.mb j) := by
    intro e
    have h1 := hI.rr; rw [e, hE.rm] at h1; cases h1
  clear hRR hI hvi hE hje
  go_enter Tryz.func76, Tryz.ntmps76
  go_wp2_with fail
  refine RegP.regionH (fun w' => w'.cell? ⟨p, 0, none⟩ = some (at0 (g.eb j)) ∧ w'.cell? ⟨g.eb j, 7, none⟩ = some (at0 (g.sb j)) ∧ w'.cell? ⟨q, 0, none⟩ = some (at0 g.r) ∧ w'.cell? ⟨g.r, 0, none⟩ = some (at0 g.fb)) [(1, 0), (0, 1), (0, 2), (1, 3), (0, 4), (1, 5), (1, 6), (0, 7), (0, 8), (1, 9), (0, 10), (2, 11), (2, 12)] (by kernel_rfl) (by kernel_rfl) (by rfl) (by kernel_rfl) (by exact hS0.out _ (Below.refl _ _).drew) ?_
  refine RegP.held1 (by (simp only [gA,gB,gC]); rfl) (by exact fun _ _ _ h => h) (by rfl) (by intro w' hS_; (try dsimp only at hS_); go_split_ands; go_simp; try with_reducible rfl) ?_
  try simp only [Act.put, pA,pB,pC]
  refine RegP.pure1 (by (simp only [gA,gB,gC]); rfl) (by exact fun _ _ _ h => h) (by rfl) (by intro w'; go_simp; try with_reducible rfl) ?_
  try simp only [Act.put, pA,pB,pC]
  refine RegP.pure1 (by (simp only [gA,gB,gC]); rfl) (by exact fun _ _ _ h => h) (by rfl) (by intro w'; go_simp; try with_reducible rfl) ?_
  try simp only [Act.put, pA,pB,pC]
  refine RegP.held1 (by (simp only [gA,gB,gC]); rfl) (by exact fun _ _ _ h => h) (by rfl) (by intro w' hS_; (try dsimp only at hS_); go_split_ands; go_simp; try with_reducible rfl) ?_
  try simp only [Act.put, pA,pB,pC]
  refine RegP.pure1 (by (simp only [gA,gB,gC]); rfl) (by exact fun _ _ _ h => h) (by rfl) (by intro w'; go_simp; try with_reducible rfl) ?_
  try simp only [Act.put, pA,pB,pC]
  refine RegP.held1 (by (simp only [gA,gB,gC]); rfl) (by exact fun _ _ _ h => h) (by rfl) (by intro w' hS_; (try dsimp only at hS_); go_split_ands; go_simp; try with_reducible rfl) ?_
  try simp only [Act.put, pA,pB,pC]
  refine RegP.held1 (by (simp only [gA,gB,gC]); rfl) (by exact fun _ _ _ h => h) (by rfl) (by intro w' hS_; (try dsimp only at hS_); go_split_ands; go_simp; try with_reducible rfl) ?_
  try simp only [Act.put, pA,pB,pC]
  refine RegP.pure1 (by (simp only [gA,gB,gC]); rfl) (by exact fun _ _ _ h => h) (by rfl) (by intro w'; go_simp; try with_reducible rfl) ?_
  try simp only [Act.put, pA,pB,pC]
  refine RegP.pure1 (by (simp only [gA,gB,gC]); rfl) (by exact fun _ _ _ h => h) (by rfl) (by intro w'; go_simp; try with_reducible rfl) ?_
  try simp only [Act.put, pA,pB,pC]
  refine RegP.held1 (by (simp only [gA,gB,gC]); rfl) (by exact fun _ _ _ h => h) (by rfl) (by intro w' hS_; (try dsimp only at hS_); go_split_ands; go_simp; try with_reducible rfl) ?_
  try simp only [Act.put, pA,pB,pC]
  refine RegP.pure1 (by (simp only [gA,gB,gC]); rfl) (by exact fun _ _ _ h => h) (by rfl) (by intro w'; go_simp; try with_reducible rfl) ?_
  try simp only [Act.put, pA,pB,pC]
  refine RegP.ev1 (by (simp only [gA,gB,gC]); rfl) (fun K hK => ?_)
  rcases he : expE g.line [st.file] text with ⟨l1, e1⟩ | x
  · have hR : Hid (RR = .error (l1, e1)) := by show RR = _; rw [← hRH.out]; simp only [he]
    go_simp
    have hP := (hIH.out.below ((Below.refl w.heap.size w).drew)).expanded text htl
    rw [he] at hP
    refine hP.mono ?_
    rintro e w2 ⟨rfl, hb⟩
    exact ⟨rfl, Inner.bad hR.out ((((Below.refl w.heap.size w).drew).trans hb).mono hB0)⟩
  have hR : Hid (RR = .ok { st with edges := onLast (fun e => { e with own := upd e.own nm x }) st.edges }) := by show RR = _; rw [← hRH.out]; simp only [he]
  have hxl := expE_len he
  go_simp
  have hP := (hIH.out.below ((Below.refl w.heap.size w).drew)).expanded text htl
  rw [he] at hP
  refine hP.mono ?_
  rintro e w2 ⟨rfl, hb⟩
  clear hP he hRH
  have hB2 := Lib.hid (((Below.refl w.heap.size w).drew).trans hb)
  have hI2 := Lib.hid (hIH.out.below hB2.out)
  have hE2 : Hid (EdgeAt B0 w2 g st.rules.length j (st.edges[j]'hltE)) := hI2.out.edges j hltE
  clear hb
  refine hK.out _ _ ?_ (fun hHeld => ?_)
  · (try dsimp only); exact hS0.out _ hB2.out
  clear hK K
  try simp only [Act.put, pA,pB,pC]
  refine RegP.ev1 (by (simp only [gA,gB,gC]); rfl) (fun K hK => ?_)
  go_simp
  refine (Set_ok ⟨g.sb j, g.mb j, g.n, ((st.edges[j]'hltE)).own⟩ [⟨g.fb, g.fm, g.n, st.file⟩] (at0 (g.sb j)) nm x hnm (by unfold maxLen; omega) (by unfold maxLen; omega) hgn _ ⟨rfl, _, hE2.out.hs, hE2.out.hm, hI2.out.fchain⟩).mono ?_
  rintro e w3 ⟨rfl, hst⟩
  have hfin : Hid (Inv B0 w3 { g with n := g.n + 1 } { st with edges := onLast (fun e => { e with own := upd e.own nm x }) st.edges }) := hI2.out.edgeSet j hJ.out nm x hxl hst
  have hbf : Hid (Below B0 w w3) := (hB2.out.mono hB0).trans (hst.below (Nat.le_trans hB0 hB2.out.size) hmb.out)
  have hrf : Hid (∀ b, b < w.heap.size → (∀ i, i < st.rules.length → b ≠ g.tb i) → (∀ j, j < st.edges.length → b ≠ g.mb j) → w3.heap[b]? = w.heap[b]?) := fun b hb h1 h2 => (hst.keep b (Nat.lt_of_lt_of_le hb hB2.out.size) (h2 j hltE)).trans (hB2.out.block _ hb)
  have hS3 : Hid (w3.cell? ⟨p, 0, none⟩ = some (at0 (g.eb j)) ∧ w3.cell? ⟨g.eb j, 7, none⟩ = some (at0 (g.sb j)) ∧ w3.cell? ⟨q, 0, none⟩ = some (at0 g.r) ∧ w3.cell? ⟨g.r, 0, none⟩ = some (at0 g.fb)) := by
    have hne : ∀ b, g.role b ≠ .omap j → b ≠ g.mb j := fun b hb e => hb (by rw [e]; exact hEH.out.rm)
    have h2 := hS0.out _ hB2.out
    refine ⟨(World.cell?_of_block (a := ⟨p, 0, none⟩) (hst.keep p (World.block_lt_of_cell? w2 _ h2.1) (hne p (by rw [hpr]; simp)))).trans h2.1, (World.cell?_of_block (a := ⟨g.eb j, 7, none⟩) (hst.keep _ (World.block_lt_of_cell? w2 _ h2.2.1) (hne _ (by rw [hEH.out.re]; simp)))).trans h2.2.1, (World.cell?_of_block (a := ⟨q, 0, none⟩) (hst.keep q (World.block_lt_of_cell? w2 _ h2.2.2.1) (hne q (by rw [hqr]; simp)))).trans h2.2.2.1, (World.cell?_of_block (a := ⟨g.r, 0, none⟩) (hst.keep _ (World.block_lt_of_cell? w2 _ h2.2.2.2) (hne _ (by rw [hIH.out.rr]; simp)))).trans h2.2.2.2⟩
  clear hst
  refine hK.out _ _ ?_ (fun hHeld => ?_)
  · (try dsimp only); exact hS3.out
  clear hK K
  try simp only [Act.put, pA,pB,pC]
  refine RegP.done1 ?_
  clear hHeld
  try dsimp only
  go_wp2_with fail
  go_end0
  exact Inner.fin hR.out hfin.out rfl (Nat.le_refl _) hbf.out hrf.out
end Go.Proofs.YtbjekebkgidhaaaGreatDoor.Mf
end
section
namespace Go.Proofs.YtbjekebkgidhaaaGreatDoor.P
open Go.RowKit Go.Proofs.YtbjekebkgidhaaaGreatDoorW.PrintWords Go.Proofs.YtbjekebkgidhaaaGreatDoorW.PrintLast Go.Proofs.YtbjekebkgidhaaaGreatDoorW.PrintMore
attribute [local go_sem] max2_int min2_int max_two min_two max_three min_three max_four min_four
set_option linter.unusedVariables false
set_option linter.unusedSimpArgs false
def stringslite_HasPrefix.f (a0 : ByteArray) (a1 : ByteArray) : Option (Bool) := if (a0.size : Int) ≥ (a1.size : Int) then (if 0 ≤ (a1.size : Int) then (if (a1.size : Int) ≤ (a0.size : Int) then (some ((a0.extract 0 ((a1.size : Int) : Int).toNat).toList == a1.toList)) else (none)) else (none)) else (some false)
set_option maxHeartbeats 8000000 in
set_option maxRecDepth 100000 in
theorem stringslite_HasPrefix.calls (a0 : ByteArray) (a1 : ByteArray) (r : Bool) (w : World) (h : stringslite_HasPrefix.f a0 a1 = some r) :
    Calls Tryz.prog 120 #[.string a0, .string a1] w fun e w' => e = .returned (.bool r) ∧ Drawn0 w w' := by
  have H : (if (a0.size : Int) ≥ (a1.size : Int) then (if 0 ≤ (a1.size : Int) then (if (a1.size : Int) ≤ (a0.size : Int) then (some ((a0.extract 0 ((a1.size : Int) : Int).toNat).toList == a1.toList)) else (none)) else (none)) else (some false)) = some r := h
  clear h
  by_cases c3 : (a0.size : Int) ≥ (a1.size : Int)
  · rw [if_pos c3] at H
    have c3b0 : decide ((a1.size : Int) ≤ (a0.size : Int)) = true := decide_eq_true c3
    have c3b1 : decide (a1.size ≤ a0.size) = true := decide_eq_true (Int.ofNat_le.mp c3)
    clear c3
    by_cases c4 : 0 ≤ (a1.size : Int)
    · rw [if_pos c4] at H
      have c4b0 := eq_true c4
      have c4b1 : decide (0 ≤ (a1.size : Int)) = true := decide_eq_true c4
      clear c4
      by_cases c5 : (a1.size : Int) ≤ (a0.size : Int)
      · rw [if_pos c5] at H
        have c5b0 := eq_true c5
        have c5b1 : decide ((a1.size : Int) ≤ (a0.size : Int)) = true := decide_eq_true c5
        clear c5
        obtain rfl := Option.some.inj H
        go_enter Tryz.func120, Tryz.ntmps120
        go_wp2
        go_ret
        exact ⟨by first | rfl | (simp; done) | (simp [*]; done), by repeat (first | exact Drawn0.refl _ | apply Drawn0.step)⟩
      · rw [if_neg c5] at H
        exact absurd H (by simp)
    · rw [if_neg c4] at H
      exact absurd H (by simp)
  · rw [if_neg c3] at H
    have c3b0 : decide ((a1.size : Int) ≤ (a0.size : Int)) = false := decide_eq_false c3
    have c3b1 : decide (a1.size ≤ a0.size) = false := decide_eq_false (fun h => c3 (Int.ofNat_le.mpr h))
    clear c3
    obtain rfl := Option.some.inj H
    go_enter Tryz.func120, Tryz.ntmps120
    go_wp2
    go_ret
    exact ⟨by first | rfl | (simp; done) | (simp [*]; done), by repeat (first | exact Drawn0.refl _ | apply Drawn0.step)⟩
end Go.Proofs.YtbjekebkgidhaaaGreatDoor.P
end
section
namespace Go.Proofs.YtbjekebkgidhaaaGreatDoor.P
open Go.RowKit Go.Proofs.YtbjekebkgidhaaaGreatDoorW.PrintWords Go.Proofs.YtbjekebkgidhaaaGreatDoorW.PrintLast Go.Proofs.YtbjekebkgidhaaaGreatDoorW.PrintMore
attribute [local go_sem] max2_int min2_int max_two min_two max_three min_three max_four min_four
set_option linter.unusedVariables false
set_option linter.unusedSimpArgs false
def strings_HasPrefix.f (a0 : ByteArray) (a1 : ByteArray) : Option (Bool) := (stringslite_HasPrefix.f a0 a1).bind fun t144 => (some t144)
set_option maxHeartbeats 8000000 in
set_option maxRecDepth 100000 in
theorem strings_HasPrefix.calls (a0 : ByteArray) (a1 : ByteArray) (r : Bool) (w : World) (h : strings_HasPrefix.f a0 a1 = some r) :
    Calls Tryz.prog 99 #[.string a0, .string a1] w fun e w' => e = .returned (.bool r) ∧ Drawn0 w w' := by
  have H : ((stringslite_HasPrefix.f a0 a1).bind fun t144 => (some t144)) = some r := h
  clear h
  replace H := Option.bind_eq_some_iff.mp H
  obtain ⟨t144, A30, H⟩ := H
  replace H : (some t144) = some r := H
  have A3 := Aside0.mk A30
  clear A30
  obtain rfl := Option.some.inj H
  go_enter Tryz.func99, Tryz.ntmps99
  go_wp2_with (first | ((with_reducible refine gate_callee (f := 120) rfl ?_); refine goesL_ (some 7) rfl rfl Tryz.func120 (by kernel_rfl) rfl #[.string a0, .string a1] rfl (by (try simp only [List.map_toArray, List.map_cons, List.map_nil]); first | done | rfl | (simp only [List.length_drop, List.length_take]; rfl)) ?_; (with_reducible refine (stringslite_HasPrefix.calls a0 a1 t144 _ A3.out).mono ?_); rintro e w' ⟨rfl, ⟨nd, rfl⟩⟩; refine ⟨_, rfl, ?_⟩))
  go_ret
  exact ⟨by first | rfl | (simp; done) | (simp [*]; done), by repeat (first | exact Drawn0.refl _ | apply Drawn0.step)⟩
end Go.Proofs.YtbjekebkgidhaaaGreatDoor.P
end
section
namespace Go.Proofs.YtbjekebkgidhaaaGreatDoor.P
open Go.RowKit Go.Proofs.YtbjekebkgidhaaaGreatDoorW.PrintWords Go.Proofs.YtbjekebkgidhaaaGreatDoorW.PrintLast Go.Proofs.YtbjekebkgidhaaaGreatDoorW.PrintMore
attribute [local go_sem] max2_int min2_int max_two min_two max_three min_three max_four min_four
set_option linter.unusedVariables false
set_option linter.unusedSimpArgs false
def lex_sign.l0 : Nat → ByteArray → List ByteArray → Int → Int → Option (ByteArray)
  | 0, _, _, _, _ => none
  | k + 1, x0, x5, x6, x7 => if x7 < x6 then (if 0 ≤ x7 then (if x7 < (x5.length : Int) then ((strings_HasPrefix.f x0 (rdOf ByteArray.empty x5 x7)).bind fun t175 => (if t175 = true then (some (rdOf ByteArray.empty x5 x7)) else (lex_sign.l0 k x0 x5 x6 (wrap64 (x7 + 1))))) else (none)) else (none)) else (some (⟨#[]⟩ : ByteArray))
def lex_sign.f (k : Nat) (a0 : ByteArray) : Option (ByteArray) := (some (([(⟨#[124, 124]⟩ : ByteArray), (⟨#[124]⟩ : ByteArray), (⟨#[58]⟩ : ByteArray)] : List ByteArray) : List ByteArray)).bind fun y171 => (lex_sign.l0 k a0 y171 (y171.length : Int) 0)
theorem lex_sign.mono_l : ∀ k, (∀ y0 y1 y2 y3, LeO (lex_sign.l0 k y0 y1 y2 y3) (lex_sign.l0 (k + 1) y0 y1 y2 y3))
  | 0 => fun _ _ _ _ r h => by simp [lex_sign.l0] at h
  | k + 1 => by
    have ih0 := lex_sign.mono_l k
    · intro y0 y1 y2 y3
      unfold lex_sign.l0
      repeat' first
      | (with_reducible exact ih0 _ _ _ _)
      | (with_reducible exact LeO.refl _)
      | (with_reducible exact LeO.none _)
      | (with_reducible refine LeO.ite ?_ ?_)
      | (with_reducible refine LeO.bind ?_ (fun _ => ?_))
      | exact ih0 _ _ _ _
      | exact LeO.none _
      | refine LeO.ite ?_ ?_
      | refine LeO.bind ?_ (fun _ => ?_)
theorem lex_sign.mono : ∀ a0 k, LeO (lex_sign.f k a0) (lex_sign.f (k + 1) a0) := by
  intro a0 k
  have ih0 := lex_sign.mono_l k
  unfold lex_sign.f
  repeat' first
      | (with_reducible exact ih0 _ _ _ _)
      | (with_reducible exact LeO.refl _)
      | (with_reducible exact LeO.none _)
      | (with_reducible refine LeO.ite ?_ ?_)
      | (with_reducible refine LeO.bind ?_ (fun _ => ?_))
      | exact ih0 _ _ _ _
      | exact LeO.none _
      | refine LeO.ite ?_ ?_
      | refine LeO.bind ?_ (fun _ => ?_)
set_option maxHeartbeats 8000000 in
set_option maxRecDepth 100000 in
theorem lex_sign.calls (k : Nat) (a0 : ByteArray) (r : ByteArray) (w : World) (h : lex_sign.f k a0 = some r) :
    Calls Tryz.prog 71 #[.string a0] w fun e w' => e = .returned (.string r) ∧ Below w.heap.size w w' := by
  have HB := Aside0.mk (Below.refl w.heap.size w)
  have H : ((some (([(⟨#[124, 124]⟩ : ByteArray), (⟨#[124]⟩ : ByteArray), (⟨#[58]⟩ : ByteArray)] : List ByteArray) : List ByteArray)).bind fun y171 => (lex_sign.l0 k a0 y171 (y171.length : Int) 0)) = some r := h
  clear h
  obtain ⟨y171, hy171⟩ : ∃ y_ : List ByteArray, y_ = (([(⟨#[124, 124]⟩ : ByteArray), (⟨#[124]⟩ : ByteArray), (⟨#[58]⟩ : ByteArray)] : List ByteArray)) := ⟨_, rfl⟩
  replace H : (lex_sign.l0 k a0 y171 (y171.length : Int) 0) = some r := by first | (rw [hy171]; with_reducible exact H) | (have H2_ := (Option.bind_some _ _).symm.trans H; rw [hy171]; with_reducible exact H2_) | (have H2_ := (Option.bind_some _ _).symm.trans H; with_reducible exact H2_) | with_reducible exact H | (rw [hy171]; exact H) | exact H
  have Ny171 := Aside0.mk hy171
  clear hy171
  have H' := Aside0.mk H
  clear H
  go_enter Tryz.func71, Tryz.ntmps71
  go_wp2_with (first | ((with_reducible refine gate_dst (N := 5) rfl ?_); refine Kd.R_lit Kd.string _ 9 ?hg (N := 5) ?hd (xs := ([(⟨#[124, 124]⟩ : ByteArray), (⟨#[124]⟩ : ByteArray), (⟨#[58]⟩ : ByteArray)] : List ByteArray)) (inner := [.string (⟨#[124, 124]⟩ : ByteArray), .string (⟨#[124]⟩ : ByteArray), .string (⟨#[58]⟩ : ByteArray)]) (ok := fun _ => True) (okp := fun _ => True) ?hr ?hp (fun _ hk => hk) trivial (Below.refl _ _) (Nat.le_refl _) (by simp) ?_; (case hd => rfl); (case hg => rfl); (case hr => first | (go_simp; done) | (go_simp; rfl)); (case hp => exact (Reps.one (show Kd.M Kd.string _ _ _ (⟨#[124, 124]⟩ : ByteArray) [.string (⟨#[124, 124]⟩ : ByteArray)] from rfl) (Reps.one (show Kd.M Kd.string _ _ _ (⟨#[124]⟩ : ByteArray) [.string (⟨#[124]⟩ : ByteArray)] from rfl) (Reps.one (show Kd.M Kd.string _ _ _ (⟨#[58]⟩ : ByteArray) [.string (⟨#[58]⟩ : ByteArray)] from rfl) (Reps.none _ _))))); intro v172 w2 ho3 hb hg_ hnew_; clear hg_ hnew_; (first | rw [← Ny171.out] at ho3 | (simp only [Int.reduceToNat] at ho3; rw [← Ny171.out] at ho3)); have n0_ := Aside0.mk (Kd.R_lower ho3 (below_size (by repeat (first | (with_reducible first | exact HB.out | apply below_alloc | apply pw_below_drewN | apply below_drew1) | exact HB.out)))); have n1_ := Aside0.mk (below_step (by repeat (first | (with_reducible first | exact HB.out | apply below_alloc | apply pw_below_drewN | apply below_drew1) | exact HB.out)) hb); clear HB; have HO173 := n0_; have HB := n1_; clear n0_ n1_; clear hb ho3; obtain ⟨Ao4, co4, eo4⟩ := Kd.R_slice HO173.out; subst eo4))
  go_loopg [7] k (fun kq v7 w' => ∃ (x7_1 : Int), v7 = .int .i64 x7_1 ∧ Aside0 (lex_sign.l0 kq a0 y171 (y171.length : Int) x7_1 = some r) ∧ Aside0 (kq ≤ k) ∧ Aside0 (Kd.R Kd.string 9 w' w.heap.size (fun _ => True) (.slice Ao4 y171.length co4) y171) ∧ Aside0 (Below w.heap.size w w'))
  case atStart => exact ⟨(0), (by first | rfl | (simp; done) | (simp [*]; done)), H', ⟨Nat.le_refl _⟩, ⟨by (with_reducible repeat (first | apply Kd.R_alloc | apply Kd.R_drewN | apply Kd.R_drew)); exact HO173.out⟩, ⟨by repeat (first | (with_reducible first | exact HB.out | apply below_alloc | apply pw_below_drewN | apply below_drew1) | exact HB.out)⟩⟩
  case round =>
    clear H'
    try clear p2
    obtain ⟨x7_1, rfl, HA, HK1, HO_5, HB⟩ := hrel
    cases gk with
    | zero => exact absurd HA.out (by simp [lex_sign.l0])
    | succ k1 =>
      have H := HA.out
      clear HA
      simp only [lex_sign.l0] at H
      by_cases c5 : x7_1 < (y171.length : Int)
      · rw [if_pos c5] at H
        have c5b0 : decide (x7_1 < (y171.length : Int)) = true := decide_eq_true c5
        clear c5
        by_cases c6 : 0 ≤ x7_1
        · rw [if_pos c6] at H
          have c6b0 : decide (0 ≤ x7_1) = true := decide_eq_true c6
          clear c6
          by_cases c7 : x7_1 < (y171.length : Int)
          · rw [if_pos c7] at H
            have c7b0 : decide (x7_1 < (y171.length : Int)) = true := decide_eq_true c7
            clear c7
            replace H := Option.bind_eq_some_iff.mp H
            obtain ⟨t175, A80, H⟩ := H
            replace H : (if t175 = true then (some (rdOf ByteArray.empty y171 x7_1)) else (lex_sign.l0 k1 a0 y171 (y171.length : Int) (wrap64 (x7_1 + 1)))) = some r := H
            have A8 := Aside0.mk A80
            clear A80
            by_cases c9 : t175 = true
            · subst c9
              have H1 : (some (rdOf ByteArray.empty y171 x7_1)) = some r := by rw [if_pos rfl] at H; exact H
              clear H
              have H := H1
              clear H1
              obtain rfl := Option.some.inj H
              have p174 : 0 ≤ (x7_1 : Int) := of_decide_eq_true (by first | (with_reducible assumption) | assumption)
              have q174 : x7_1 < (y171.length : Int) := of_decide_eq_true (by first | (with_reducible assumption) | assumption)
              obtain ⟨ad174, e174, hx174_0⟩ := Kd.at_string (Kd.R_reads' HO_5.out).2.2 x7_1 p174 q174
              cases e174
              replace p174 := eq_true p174
              replace q174 := eq_true q174
              go_wp2_with (first | ((with_reducible refine gate_callee (f := 99) rfl ?_); refine goesL_ (some 13) rfl rfl Tryz.func99 (by kernel_rfl) rfl #[.string a0, .string (rdOf ByteArray.empty y171 x7_1)] rfl (by (try simp only [List.map_toArray, List.map_cons, List.map_nil]); first | done | rfl | (simp only [List.length_drop, List.length_take]; rfl)) ?_; (with_reducible refine (strings_HasPrefix.calls a0 (rdOf ByteArray.empty y171 x7_1) true _ A8.out).mono ?_); rintro e w' ⟨rfl, ⟨nd, rfl⟩⟩; refine ⟨_, rfl, ?_⟩))
              go_ret
              exact ⟨by first | rfl | (simp [errW_none, errW_some] <;> rfl) | (simp [*, errW_none, errW_some] <;> rfl), by repeat (first | (with_reducible first | exact HB.out | apply below_alloc | apply pw_below_drewN | apply below_drew1) | exact HB.out)⟩
            · replace c9 := Bool.eq_false_iff.mpr c9
              subst c9
              have H1 : (lex_sign.l0 k1 a0 y171 (y171.length : Int) (wrap64 (x7_1 + 1))) = some r := by rw [if_neg (show ¬ (false = true) by decide)] at H; exact H
              clear H
              have H := H1
              clear H1
              have H' := Aside0.mk H
              clear H
              have p174 : 0 ≤ (x7_1 : Int) := of_decide_eq_true (by first | (with_reducible assumption) | assumption)
              have q174 : x7_1 < (y171.length : Int) := of_decide_eq_true (by first | (with_reducible assumption) | assumption)
              obtain ⟨ad174, e174, hx174_0⟩ := Kd.at_string (Kd.R_reads' HO_5.out).2.2 x7_1 p174 q174
              cases e174
              replace p174 := eq_true p174
              replace q174 := eq_true q174
              go_wp2_with (first | ((with_reducible refine gate_callee (f := 99) rfl ?_); refine goesL_ (some 13) rfl rfl Tryz.func99 (by kernel_rfl) rfl #[.string a0, .string (rdOf ByteArray.empty y171 x7_1)] rfl (by (try simp only [List.map_toArray, List.map_cons, List.map_nil]); first | done | rfl | (simp only [List.length_drop, List.length_take]; rfl)) ?_; (with_reducible refine (strings_HasPrefix.calls a0 (rdOf ByteArray.empty y171 x7_1) false _ A8.out).mono ?_); rintro e w' ⟨rfl, ⟨nd, rfl⟩⟩; refine ⟨_, rfl, ?_⟩))
              go_roundg k1
              case measure => have := HK1.out; omega
              case rel => exact ⟨(wrap64 (x7_1 + 1)), (by first | rfl | (simp; done) | (simp [*]; done)), H', ⟨by have := HK1.out; omega⟩, ⟨by (with_reducible repeat (first | apply Kd.R_alloc | apply Kd.R_drewN | apply Kd.R_drew)); exact HO_5.out⟩, ⟨by repeat (first | (with_reducible first | exact HB.out | apply below_alloc | apply pw_below_drewN | apply below_drew1) | exact HB.out)⟩⟩
          · rw [if_neg c7] at H
            exact absurd H (by simp)
        · rw [if_neg c6] at H
          exact absurd H (by simp)
      · rw [if_neg c5] at H
        have c5b0 : decide (x7_1 < (y171.length : Int)) = false := decide_eq_false c5
        clear c5
        obtain rfl := Option.some.inj H
        go_wp2
        go_ret
        exact ⟨by first | rfl | (simp [errW_none, errW_some] <;> rfl) | (simp [*, errW_none, errW_some] <;> rfl), by repeat (first | (with_reducible first | exact HB.out | apply below_alloc | apply pw_below_drewN | apply below_drew1) | exact HB.out)⟩
end Go.Proofs.YtbjekebkgidhaaaGreatDoor.P
end
section
set_option linter.unusedSimpArgs false
set_option linter.unusedVariables false
namespace Go.Proofs.YtbjekebkgidhaaaGreatDoor.P
open Go.RowKit Go.Proofs.YtbjekebkgidhaaaGreatDoorW.PrintWords Go.Proofs.YtbjekebkgidhaaaGreatDoorW.PrintLast Go.Proofs.YtbjekebkgidhaaaGreatDoorW.PrintMore Go.Proofs.YtbjekebkgidhaaaGreatDoor.U Go.Proofs.YtbjekebkgidhaaaGreatDoor.Lex
theorem hasPrefix_B (a b : List UInt8) : strings_HasPrefix.f (B a) (B b) = some (decide (b <+: a)) := by
  unfold strings_HasPrefix.f stringslite_HasPrefix.f
  rw [size_B, size_B]
  by_cases h : b.length ≤ a.length
  · rw [if_pos (by omega), if_pos (by omega), if_pos (by omega)]
    simp only [Option.bind_some, Int.toNat_natCast, Option.some.injEq]
    rw [extract_B, toList_B, toList_B, List.drop_zero, Bool.eq_iff_iff, beq_iff_eq, decide_eq_true_iff, List.prefix_iff_eq_take]
    exact eq_comm
  · rw [if_neg (by omega)]
    simp only [Option.bind_some, Option.some.injEq]
    have : ¬ b <+: a := fun hp => h hp.length_le
    simp [this]
theorem sign_B (l : List UInt8) : lex_sign.f 4 (B l) = some (B (signL l)) := by
  have e1 : (⟨#[124, 124]⟩ : ByteArray) = B [124, 124] := rfl
  have e2 : (⟨#[124]⟩ : ByteArray) = B [124] := rfl
  have e3 : (⟨#[58]⟩ : ByteArray) = B [58] := rfl
  have e4 : (⟨#[]⟩ : ByteArray) = B [] := rfl
  have w1 : wrap64 (0 + 1) = 1 := wrap_id _ (by omega) (by omega)
  have w2 : wrap64 (1 + 1) = 2 := wrap_id _ (by omega) (by omega)
  have w3 : wrap64 (2 + 1) = 3 := wrap_id _ (by omega) (by omega)
  simp only [lex_sign.f, lex_sign.l0, e1, e2, e3, e4, Option.bind_some, List.length_cons, List.length_nil, rdOf, hasPrefix_B, w1, w2, w3]
  simp only [Int.toNat_zero, Int.toNat_one, List.getD_cons_zero, List.getD_cons_succ, show (2 : Int).toNat = 2 from rfl, hasPrefix_B, Option.bind_some]
  match l with
  | [] => simp [signL]
  | [c] => simp [signL, List.cons_prefix_cons]; by_cases h1 : c = 124
           · subst h1; simp
           · by_cases h2 : c = 58
             · subst h2; simp
             · simp [h1, h2, Ne.symm h1, Ne.symm h2, eq_comm]
  | c :: d :: r =>
    simp [signL, List.cons_prefix_cons]
    by_cases h1 : c = 124
    · subst h1
      by_cases h3 : d = 124
      · subst h3; simp
      · simp [h3, Ne.symm h3]
    · by_cases h2 : c = 58
      · subst h2; simp
      · simp [h1, h2, Ne.symm h1, Ne.symm h2]
end Go.Proofs.YtbjekebkgidhaaaGreatDoor.P
end
section
set_option linter.unusedSimpArgs false
set_option linter.unusedVariables false
namespace Go.Proofs.YtbjekebkgidhaaaGreatDoor.P
open Go.RowKit Go.Proofs.YtbjekebkgidhaaaGreatDoorW.PrintWords Go.Proofs.YtbjekebkgidhaaaGreatDoorW.PrintLast Go.Proofs.YtbjekebkgidhaaaGreatDoorW.PrintMore Go.Proofs.YtbjekebkgidhaaaGreatDoor.U Go.Proofs.YtbjekebkgidhaaaGreatDoor.Lex
structure WInv (b : Nat) (wd : List UInt8) (xs : List (List UInt8)) (w : World) : Prop where
  out : ∃ v, w.heap[b]? = some (.cells #[v] 23 (0, 0)) ∧ w.ownsRow (b + 2) 9 1 v xs.length (xs.map fun x => Value.string (B x))
  word : w.heap[b + 1]? = some (.cells #[.string (B wd)] 9 (0, 0))
theorem infoS : (Tryz.prog.info? 9).map (fun i => (i.zero, i.size, i.bytes)) = some (some (.string ⟨#[]⟩), 1, 16) := by kernel_rfl
theorem WInv.push {b : Nat} {wd : List UInt8} {xs : List (List UInt8)} {w w1 : World} {v v' : Value} (x : List UInt8) (o : Obj)
    (hv : w.heap[b]? = some (.cells #[v] 23 (0, 0))) (hown : w.ownsRow (b + 2) 9 1 v xs.length (xs.map fun x => Value.string (B x)))
    (hw : w.heap[b + 1]? = some (.cells #[.string (B wd)] 9 (0, 0)))
    (hown' : w1.ownsRow (b + 2) 9 1 v' (xs.length + 1) ((xs.map fun x => Value.string (B x)) ++ [.string (B x)])) (hg : (w.alloc o).grownBy w1 v.ownBlock) :
    w1.cell? ⟨b, 0, none⟩ = some v ∧ w1.frozen? ⟨b, 0, none⟩ = false ∧ (∃ g c, v' = .slice (some ⟨g, 0, none⟩) (xs.length + 1) c) ∧ Below b w w1 ∧ WInv b wd (xs ++ [x]) (w1.setCell ⟨b, 0, none⟩ v') ∧ Below b w (w1.setCell ⟨b, 0, none⟩ v') := by
  have hlt := lt_of_block hw
  have hne : ∀ k, k < b + 2 → some k ≠ v.ownBlock := fun k hk e => by
    have := own_base hown k e.symm; omega
  have keep : ∀ k, k < b + 2 → w1.heap[k]? = w.heap[k]? := fun k hk => (hg.block k (by simp; omega) (hne k hk)).trans (Below.heap_alloc _ _ _ (by omega))
  have hv1 := (keep b (by omega)).trans hv
  have hw1 := (keep (b + 1) (by omega)).trans hw
  have hb : Below b w w1 := ((Below.refl b w).alloc (by omega) o).grown hg (by simp; omega) (fun k hk => by have := own_base hown k hk; omega)
  refine ⟨cell_of_one hv1, free_of_one hv1, ?_, hb, ⟨⟨v', one_setCell hv1, ?_⟩, ?_⟩, hb.setCell (Nat.le_refl _) _⟩
  · rcases hown'.2 with ⟨_, h0⟩ | ⟨g, cap, _, h, _⟩
    · omega
    · exact ⟨g, cap, h⟩
  · have := ownsRow_setCell_below hown' (a := ⟨b, 0, none⟩) (by show b < b + 2; omega) v'
    simpa using this
  · exact (Below.heap_setCell _ _ _ _ (by show b + 1 ≠ b; omega)).trans hw1
theorem grown_undrew {w w1 : World} {r : Option Nat} (h : w.drew.grownBy w1 r) : w.grownBy w1 r := ⟨h.os, h.tape, h.output, h.size, h.block⟩
theorem WInv.word_set {b : Nat} {wd : List UInt8} {xs : List (List UInt8)} {w : World} (h : WInv b wd xs w) (y : List UInt8) :
    WInv b y xs (w.setCell ⟨b + 1, 0, none⟩ (.string (B y))) := by
  obtain ⟨⟨v, hv, hown⟩, hw⟩ := h
  exact ⟨⟨v, (Below.heap_setCell _ _ _ _ (by show b ≠ b + 1; omega)).trans hv, ownsRow_setCell_below hown (a := ⟨b + 1, 0, none⟩) (by show b + 1 < b + 2; omega) _⟩, one_setCell hw⟩
theorem WInv.drawn {b : Nat} {wd : List UInt8} {xs : List (List UInt8)} {w : World} (h : WInv b wd xs w) : WInv b wd xs w.drew := ⟨h.out, h.word⟩
theorem WInv.alloc {b : Nat} {wd : List UInt8} {xs : List (List UInt8)} {w : World} (h : WInv b wd xs w) (o : Obj) : WInv b wd xs (w.alloc o) := by
  obtain ⟨⟨v, hv, hown⟩, hw⟩ := h
  exact ⟨⟨v, (Below.heap_alloc _ _ _ (lt_of_block hv)).trans hv, hown.alloc _⟩, (Below.heap_alloc _ _ _ (lt_of_block hw)).trans hw⟩
theorem WInv.below {b : Nat} {wd : List UInt8} {xs : List (List UInt8)} {w w1 : World} (h : WInv b wd xs w) (hb : Below w.heap.size w w1) : WInv b wd xs w1 := by
  obtain ⟨⟨v, hv, hown⟩, hw⟩ := h
  exact ⟨⟨v, (hb.block _ (lt_of_block hv)).trans hv, pw_own_below hown hb⟩, (hb.block _ (lt_of_block hw)).trans hw⟩
theorem WInv.lt {b : Nat} {wd : List UInt8} {xs : List (List UInt8)} {w : World} (h : WInv b wd xs w) : b + 2 ≤ w.heap.size := lt_of_block h.word
set_option maxRecDepth 100000 in
set_option maxHeartbeats 1000000 in
theorem end_any (b : Nat) (wd : List UInt8) (xs : List (List UInt8)) (w : World) (h : WInv b wd xs w) (hn : xs.length < 1000000000) :
    Calls Tryz.prog 70 #[.pointer (some ⟨b + 1, 0, none⟩), .pointer (some ⟨b, 0, none⟩)] w fun e w' => e = .returned (.tuple #[]) ∧ WInv b [] (xs ++ flushL wd) w' ∧ Below b w w' := by
  have h0 := Lib.hid h
  have hlt := h.lt
  obtain ⟨⟨v, hv, hown⟩, hw⟩ := h
  obtain ⟨i0, hi, hz0, hz1, hz2⟩ := info_parts infoS
  have cO := cell_of_one hv
  have fO := free_of_one hv
  have cW := cell_of_one hw
  have fW := free_of_one hw
  by_cases hwd : wd = []
  · subst hwd
    go_enter Tryz.func70, Tryz.ntmps70
    go_wp2
    go_end0
    refine ⟨rfl, ?_, (Below.refl _ _).setCell (Nat.le_succ _) _⟩
    simpa [flushL] using h0.out.word_set []
  · have hem : wd.isEmpty = false := by simpa using hwd
    go_enter Tryz.func70, Tryz.ntmps70
    go_wp2_with (at_builtin; refine wpList_append_own _ rfl _ _ 23 rfl (b + 2) 9 i0 (.string ⟨#[]⟩) 1 16 Tryz.underlying23 hi hz0 hz1 hz2 rfl (by decide) _ _ _ rfl (hown.alloc _) ⟨w.heap.size, 0, none⟩ 1 1 [.string (B wd)] rfl rfl (cell_one_new _ _ _) (by simp [Value.oneCell']) (by unfold maxLen; omega) (by omega) (by simp; omega) ?_)
    intro v' w1 hown' hg _
    obtain ⟨c1, f1, ⟨g, c, rfl⟩, hb1, hinv, hb2⟩ := WInv.push wd _ hv hown hw hown' hg
    have c2 : (w1.setCell ⟨b, 0, none⟩ (.slice (some ⟨g, 0, none⟩) (xs.length + 1) c)).cell? ⟨b + 1, 0, none⟩ = some (.string (B wd)) := cell_of_one hinv.word
    have f2 : (w1.setCell ⟨b, 0, none⟩ (.slice (some ⟨g, 0, none⟩) (xs.length + 1) c)).frozen? ⟨b + 1, 0, none⟩ = false := free_of_one hinv.word
    clear hown' hg hown cO cW fO fW hv hw
    go_wp2
    go_end0
    refine ⟨rfl, ?_, hb2.setCell (Nat.le_succ _) _⟩
    rw [flushL, if_neg hwd]
    exact hinv.word_set []
def lex_Words.f (a0 : ByteArray) : Option (List ByteArray) := if a0.size ≤ 1048576 then some ((words a0.data.toList).map B) else none
set_option maxRecDepth 100000 in
set_option maxHeartbeats 4000000 in
theorem lex_Words.calls (a0 : ByteArray) (r : List ByteArray) (w : World) (h : lex_Words.f a0 = some r) :
    Calls Tryz.prog 42 #[.string a0] w fun e w' => ∃ v0_ : Value, e = .returned (v0_) ∧ Kd.R Kd.string 9 w' w.heap.size (fun _ => True) v0_ r ∧ Below w.heap.size w w' := by
  unfold lex_Words.f at h
  split at h
  case isFalse => cases h
  rename_i hsz
  obtain rfl := Option.some.inj h
  clear h
  go_enter Tryz.func42, Tryz.ntmps42
  go_wp2
  go_step3
  go_wp2
  go_step3
  go_wp2
  go_loopg [0, 6] a0.size (fun gk s0 s6 wr => ∃ (s wd : List UInt8) (xs : List (List UInt8)), s0 = .string (B s) ∧ s.length ≤ gk ∧ xs.length + s.length + wd.length ≤ 1048576 ∧
      Hid (xs ++ wordsGo s wd = words a0.data.toList) ∧ Hid (WInv w.heap.size wd xs wr) ∧ Hid (Below w.heap.size w wr))
  case atStart =>
    refine ⟨a0.data.toList, [], [], ?_, ?_, ?_, rfl, ?_, ?_⟩
    · rw [← B_of]
    · simp
    · simp; exact hsz
    · refine ⟨⟨.slice none 0 0, ?_, ?_⟩, ?_⟩
      · exact (Below.heap_alloc _ _ _ (by simp)).trans (heap_alloc_new _ _)
      · exact own_nil _ _ _ _
      · have := heap_alloc_new (w.alloc (.cells #[.slice none 0 0] 23)) (.cells #[.string (B [])] 9)
        simpa using this
    · exact ((Below.refl _ w).alloc (Nat.le_refl _) _).alloc (by simp) _
  case round =>
    obtain ⟨s, wd, xs, rfl, hk, hn, hW, hI, hB⟩ := hrel
    have cW := cell_of_one hI.out.word
    have fW := free_of_one hI.out.word
    obtain ⟨v, hv, hown⟩ := hI.out.out
    have cO := cell_of_one hv
    have fO := free_of_one hv
    have hlt := hI.out.lt
    cases s with
    | nil =>
      simp only [List.length_nil] at hn hk
      go_wp2_with (go_at_call 70; refine (end_any w.heap.size wd xs _ hI.out (by omega)).mono ?_; rintro e w2 ⟨rfl, hI2, hB2⟩; obtain ⟨v2, hv2, hown2⟩ := hI2.out; have cO2 := cell_of_one hv2)
      rw [Exit.noGoto_ret]
      go_ret
      rename_i hv2 hown2 cO2
      refine ⟨v2, rfl, ?_, ?_⟩
      · have hfin : (words a0.data.toList).map B = (xs ++ flushL wd).map B := by rw [← hW.out, wordsGo]
        rw [hfin]
        refine Kd.R_lower (Kd.R_of_own (enc := Value.string) (by simpa [encs, Function.comp_def] using hown2) (fun _ _ => trivial)) (Nat.le_add_right _ 2)
      · exact hB.out.trans ‹_›
    | cons c s =>
      simp only [List.length_cons] at hn hk
      cases gk with
      | zero => omega
      | succ gk =>
      have h0 : ∀ h : 0 < (B (c :: s)).size, (((B (c :: s))[0]'h).toNat : Int) = (c.toNat : Int) := fun h => rfl
      have hsB : (B (c :: s)).size = s.length + 1 := by rw [size_B]; rfl
      have hcr := c.toNat_lt
      by_cases hA : c = 36 ∧ s ≠ []
      · obtain ⟨rfl, hs⟩ := hA
        obtain ⟨d, s, rfl⟩ : ∃ d s', s = d :: s' := by cases s with | nil => exact absurd rfl hs | cons d s => exact ⟨d, s, rfl⟩
        simp only [List.length_cons] at hn hk hsB
        have e1 : (B (36 :: d :: s)).extract 2 (s.length + 1 + 1) = B s := by rw [extract_B]; simp
        have e2 : B wd ++ (B (36 :: d :: s)).extract 0 2 = B (wd ++ [36, d]) := by rw [extract_B, B_append]; simp
        have E1 := Lib.hid e1
        have E2 := Lib.hid e2
        clear e1 e2
        go_wp2_with fail
        go_region
        all_goals go_wp2
        all_goals go_roundg gk
        case measure => omega
        case rel =>
          rw [E1.out, E2.out]
          refine ⟨s, wd ++ [36, d], xs, rfl, by omega, by simp; omega, ?_, (hI.out.word_set _).drawn, ?_⟩
          · have := hW.out; rw [go_pair] at this; exact this
          · exact (hB.out.setCell (Nat.le_succ _) _).drew
      · have HSG := Lib.hid (sign_B (c :: s))
        by_cases hne : signL (c :: s) = []
        · have hno := sign_none c s hne
          rw [hne] at HSG
          have h36 : c ≠ 36 ∨ s = [] := by
            by_cases h1 : c = 36
            · exact .inr (Classical.byContradiction fun h2 => hA ⟨h1, h2⟩)
            · exact .inl h1
          clear hA hne
          by_cases h32 : c = 32
          · subst h32
            go_wp2_with fail
            refine (lex_sign.calls 4 _ _ _ HSG.out).mono ?_
            rintro e w2 ⟨rfl, hB2⟩
            have hI2 := Lib.hid (hI.out.below hB2)
            clear cW fW cO fO hv hown
            go_wp2_with fail
            refine (end_any w.heap.size wd xs _ hI2.out (by omega)).mono ?_
            rintro e w3 ⟨rfl, hI3, hB3⟩
            have HI3 := Lib.hid hI3
            clear hI3
            have e1 : (B (32 :: s)).extract 1 (s.length + 1) = B s := by rw [extract_B]; simp
            have E1 := Lib.hid e1
            clear e1
            go_wp2
            all_goals go_roundg gk
            case measure => omega
            case rel =>
              rw [E1.out]
              refine ⟨s, [], xs ++ flushL wd, rfl, by omega, by have := flush_len wd; simp; omega, ?_, HI3.out, (hB.out.trans (hB2.mono (by omega))).trans hB3⟩
              have := hW.out; rw [go_blank] at this; rw [List.append_assoc]; exact this
          · have q32 : ((c.toNat : Int) == 32) = false := by
              rw [beq_eq_false_iff_ne]; intro e; exact h32 ((toNat_eq c 32 (by omega)).1 e)
            have e1 : (B (c :: s)).extract 1 (s.length + 1) = B s := by rw [extract_B]; simp
            have e2 : B wd ++ (B (c :: s)).extract 0 1 = B (wd ++ [c]) := by rw [extract_B, B_append]; simp
            have E1 := Lib.hid e1
            have E2 := Lib.hid e2
            have hgo := Lib.hid (go_plain c s wd h36 hno.1 hno.2 h32)
            clear e1 e2 h32 hno
            have q36 : (((c.toNat : Int) == 36) = false) ∨ (c = 36 ∧ s = []) := by
              by_cases h1 : c = 36
              · rcases h36 with h | h
                · exact absurd h1 h
                · exact .inr ⟨h1, h⟩
              · exact .inl (by rw [beq_eq_false_iff_ne]; intro e; exact h1 ((toNat_eq c 36 (by omega)).1 e))
            clear h36
            rcases q36 with q36 | ⟨rfl, rfl⟩
            all_goals
              go_wp2_with fail
              refine (lex_sign.calls 4 _ _ _ HSG.out).mono ?_
              rintro e w2 ⟨rfl, hB2⟩
              have hI2 := Lib.hid (hI.out.below hB2)
              have cW2 := cell_of_one hI2.out.word
              have fW2 := free_of_one hI2.out.word
              clear cW fW cO fO hv hown
              go_wp2_with fail
              go_region
              all_goals go_wp2
              all_goals go_roundg gk
              case measure => omega
              case rel =>
                rw [E2.out]
                first
                  | rw [E1.out]
                  | rw [show ByteArray.empty = B [] from rfl]
                refine ⟨_, wd ++ [_], xs, rfl, by simp at hk ⊢; try omega, by simp at hn ⊢; omega, ?_, (hI2.out.word_set _).drawn, ?_⟩
                · have := hW.out; rw [hgo.out] at this; exact this
                · exact ((hB.out.trans (hB2.mono (by omega))).setCell (Nat.le_succ _) _).drew
        · obtain ⟨rest, hcs, hgo, h36⟩ := sign_step c s wd hne
          obtain ⟨sg, hsg⟩ : ∃ sg, sg = signL (c :: s) := ⟨_, rfl⟩
          rw [← hsg] at HSG hne hcs hgo
          have q36 : ((c.toNat : Int) == 36) = false := by
            rw [beq_eq_false_iff_ne]; intro e; exact h36 ((toNat_eq c 36 (by omega)).1 e)
          have hsge : sg.isEmpty = false := by simpa using hne
          have hlen : sg.length + rest.length = s.length + 1 := by have := congrArg List.length hcs; simp at this; omega
          have hpos : 0 < sg.length := List.length_pos_iff.2 hne
          have e1 : (B (c :: s)).extract sg.length (s.length + 1) = B rest := by rw [extract_B, hcs, List.take_of_length_le (by simp; omega)]; simp
          have E1 := Lib.hid e1
          have HGO := Lib.hid hgo
          have hl1 : (sg.length : Int) ≤ (s.length : Int) + 1 := by omega
          have HLEN := Lib.hid hlen
          clear e1 hgo hcs hsg hA hne h36 hlen
          go_wp2_with fail
          refine (lex_sign.calls 4 _ _ _ HSG.out).mono ?_
          rintro e w2 ⟨rfl, hB2⟩
          have hI2 := Lib.hid (hI.out.below hB2)
          clear cW fW cO fO hv hown
          go_wp2_with fail
          refine (end_any w.heap.size wd xs _ hI2.out (by omega)).mono ?_
          rintro e w3 ⟨rfl, hI3, hB3⟩
          have HI3 := Lib.hid hI3
          obtain ⟨v3, hv3, hown3⟩ := hI3.out
          have cO3 := cell_of_one hv3
          have fO3 := free_of_one hv3
          have hlt3 := hI3.lt
          have hfl := flush_len wd
          have hn3 : (xs ++ flushL wd).length ≤ 1048576 := by simp; omega
          clear hI3
          obtain ⟨i0, hi, hz0, hz1, hz2⟩ := info_parts infoS
          have cO3a : (w3.alloc (.cells #[.string (B sg)] 9)).cell? ⟨w.heap.size, 0, none⟩ = some v3 := cell_of_one ((Below.heap_alloc _ _ _ (lt_of_block hv3)).trans hv3)
          go_wp2_with fail
          go_region_law (refine step_append_lies _ (by rfl) _ _ _ (by rfl) (w.heap.size + 2) 9 i0 _ 1 16 Tryz.underlying23 hi hz0 hz1 hz2 rfl (by omega) v3 (xs ++ flushL wd).length ((xs ++ flushL wd).map fun x => Value.string (B x)) (by rfl) ((hown3.alloc _).drew) ⟨w3.heap.size, 0, none⟩ 1 1 [.string (B sg)] (by rfl) (by rfl) (World.news_of_block (cs := #[.string (B sg)]) (t := 9) (fr := (0, 0)) (heap_alloc_new w3 _)) (by simp [Value.oneCell']) (by omega) (by unfold maxLen; omega) (by omega) (by simp; omega) (w3.heap.size + 1) (by simp) ?_; intro gg cap w4 hown4 hgrow hat hlt4; have HP := WInv.push sg _ hv3 hown3 HI3.out.word hown4 (grown_undrew hgrow); have cO4 := HP.1; have fO4 := HP.2.1)
          all_goals go_wp2
          all_goals go_roundg gk
          case measure => omega
          case rel =>
            rw [E1.out]
            simp only [List.length_append] at HP
            have hL := HLEN.out
            refine ⟨rest, [], xs ++ flushL wd ++ [sg], rfl, by omega, by simp; omega, ?_, HP.2.2.2.2.1, ((hB.out.trans (hB2.mono (by omega))).trans hB3).trans HP.2.2.2.2.2⟩
            have := hW.out; rw [HGO.out] at this; rw [List.append_assoc, List.append_assoc]; exact this
          case measure => omega
          case rel =>
            rw [E1.out]
            simp only [List.length_append] at HP
            have hL := HLEN.out
            refine ⟨rest, [], xs ++ flushL wd ++ [sg], rfl, by omega, by simp; omega, ?_, HP.2.2.2.2.1, ((hB.out.trans (hB2.mono (by omega))).trans hB3).trans HP.2.2.2.2.2⟩
            have := hW.out; rw [HGO.out] at this; rw [List.append_assoc, List.append_assoc]; exact this
end Go.Proofs.YtbjekebkgidhaaaGreatDoor.P
end
section
set_option linter.unusedSimpArgs false
set_option linter.unusedVariables false
namespace Go.Proofs.YtbjekebkgidhaaaGreatDoor.Mf
open Go.RowKit Go.Lib Go.Shelf Go.Maps Go.Proofs.YtbjekebkgidhaaaGreatDoorW.PrintWords Go.Proofs.YtbjekebkgidhaaaGreatDoor.U Go.Proofs.YtbjekebkgidhaaaGreatDoor.Sc Go.Proofs.YtbjekebkgidhaaaGreatDoor.P Go.Proofs.YtbjekebkgidhaaaGreatDoor.MapV
def Closes (B0 : Nat) (g : Mem) (r : Except Er St) (w : World) (e : Ending) (w' : World) : Prop :=
  match r with
  | .ok st => e = .returned (.tuple #[]) ∧ (∃ g', Inv B0 w' g' st ∧ g'.r = g.r ∧ g'.n = g.n ∧ g'.line = g.line ∧ st.inner = 0) ∧ Below B0 w w' ∧ (∀ b, b ≠ g.r → w'.heap[b]? = w.heap[b]?) ∧ w.heap.size ≤ w'.heap.size
  | .error x => e = wr x.1 x.2 ∧ Below B0 w w'
theorem Closes.fin {B0 : Nat} {g g' : Mem} {r : Except Er St} {w w' : World} {st : St} (h : r = .ok st) (hi : Inv B0 w' g' st) (hr : g'.r = g.r) (hn : g'.n = g.n) (hl : g'.line = g.line) (h0 : st.inner = 0) (hb : Below B0 w w') (he : ∀ b, b ≠ g.r → w'.heap[b]? = w.heap[b]?) (hs : w.heap.size ≤ w'.heap.size) : Closes B0 g r w (.returned (.tuple #[])) w' := by
  subst h; exact ⟨rfl, ⟨g', hi, hr, hn, hl, h0⟩, hb, he, hs⟩
theorem Closes.bad {B0 : Nat} {g : Mem} {r : Except Er St} {w w' : World} {l : Nat} {c : Int} (h : r = .error (l, c)) (hb : Below B0 w w') : Closes B0 g r w (wr l c) w' := by
  subst h; exact ⟨rfl, hb⟩
set_option maxRecDepth 100000 in
set_option maxHeartbeats 4000000 in
theorem close_far (B0 : Nat) (g : Mem) (st : St) (w : World) (hI : Inv B0 w g st) :
    Calls Tryz.prog 22 #[at0 g.r] w (Closes B0 g (closeE st) w) := by
  have c6 := hI.cell 6
  have c5 : w.cell? ⟨g.r, 5, none⟩ = some g.vi := hI.cell 5
  have f5 := hI.free 5
  have f6 := hI.free 6
  have hg0 := hI.new g.r (by rw [hI.rr]; decide)
  by_cases hin : st.inner = 1
  · rcases hI.inn with ⟨a1, _⟩ | ⟨a1, a2, a3, p, q, a4, a5, a6, a7, a8⟩ | ⟨a1, _⟩
    · omega
    · have hru := hI.rules (st.rules.length - 1) (by omega)
      have hcl : closeE st = if (st.rules[st.rules.length - 1].texts kCommand).getD [] = [] then .error (st.rules[st.rules.length - 1].line, 10) else .ok { st with inner := 0 } := by
        rw [closeE, if_pos hin, last_get _ a2]
      generalize st.rules[st.rules.length - 1] = ru at *
      have d0 := (cell_of_heap (j := 0) hru.hb).trans rfl
      have d1 := (cell_of_heap (j := 1) hru.hb).trans rfl
      have hlk : (Instr.lookup 89 (.map (some (g.tb (st.rules.length - 1)))) (.string ⟨#[99, 111, 109, 109, 97, 110, 100]⟩) false).run Tryz.prog w = .ok (.string (B ((ru.texts kCommand).getD []))) w := look0 hru.ht kCommand (by decide)
      rw [show (#[at0 g.fb, Value.map (some g.rm), g.ve, g.vd, .int .i64 (g.line : Int), g.vi, g.vo][6]? : Option Value) = some g.vo from rfl, a3] at c6
      have hH := Lib.hid hI
      have hClH := Lib.hid hcl
      clear hcl hru a1 a2 a3 a4 a5 a6 a7 a8 hI hin
      generalize g.rb (st.rules.length - 1) = rbl at *
      generalize g.tb (st.rules.length - 1) = tbl at *
      by_cases he : (ru.texts kCommand).getD [] = []
      · have hC2 : Hid (closeE st = .error (ru.line, 10)) := by show _ = _; rw [hClH.out, if_pos he]
        rw [he] at hlk
        clear he hClH
        go_enter Tryz.func22, Tryz.ntmps22
        go_wp2
        exact ⟨rfl, Closes.bad hC2.out (Below.refl _ _)⟩
      · have hC2 : Hid (closeE st = .ok { st with inner := 0 }) := by show _ = _; rw [hClH.out, if_neg he]
        generalize (ru.texts kCommand).getD [] = cm at *
        have hcm : (cm == []) = false := beq_eq_false_iff_ne.2 he
        have hcm2 : cm.isEmpty = false := by cases cm with | nil => exact absurd rfl he | cons _ _ => rfl
        clear hClH
        go_enter Tryz.func22, Tryz.ntmps22
        go_wp2
        go_end0
        exact Closes.fin hC2.out hH.out.shut rfl rfl rfl rfl (below_set2 hg0) (fun b hb => by rw [Below.heap_setCell _ _ _ b hb, Below.heap_setCell _ _ _ b hb]) (by simp)
    · omega
  · have ho : g.vo = .pointer none := by
      rcases hI.inn with ⟨_, _, a3⟩ | ⟨a1, _⟩ | ⟨_, _, a3, _⟩
      · exact a3
      · exact absurd a1 hin
      · exact a3
    have hC2 : Hid (closeE st = .ok { st with inner := 0 }) := by show _ = _; rw [closeE, if_neg hin]
    rw [show (#[at0 g.fb, Value.map (some g.rm), g.ve, g.vd, .int .i64 (g.line : Int), g.vi, g.vo][6]? : Option Value) = some g.vo from rfl, ho] at c6
    have hH := Lib.hid hI
    clear ho hin hI
    go_enter Tryz.func22, Tryz.ntmps22
    go_wp2
    go_end0
    exact Closes.fin hC2.out hH.out.shut rfl rfl rfl rfl (below_set2 hg0) (fun b hb => by rw [Below.heap_setCell _ _ _ b hb, Below.heap_setCell _ _ _ b hb]) (by simp)
theorem trimB_le (l : Txt) : (trimB l 32).length ≤ l.length := by
  unfold trimB trimLeftB
  refine Nat.le_trans (List.dropWhile_sublist _).length_le ?_
  unfold trimRightB
  rw [List.length_reverse]
  have := (List.dropWhile_sublist (l := l.reverse) (· == 32)).length_le
  rw [List.length_reverse] at this
  exact this
theorem setE_ok {line : Nat} {text nm v : Txt} (h : setE line text = .ok (nm, v)) : nameL nm = true ∧ nm.length ≤ text.length ∧ v.length ≤ text.length := by
  unfold setE at h
  have hc := cutL_len 61 text
  split at h
  · rename_i hk
    injection h with h
    injection h with h1 h2
    subst h1 h2
    exact ⟨hk.2, Nat.le_trans (trimB_le _) hc.1, Nat.le_trans (List.dropWhile_sublist _).length_le hc.2⟩
  · cases h
section
variable {B0 : Nat} {w w' : World} {g : Mem} {st : St}
theorem Inv.lineSet (h : Inv B0 w g st) (n : Nat) : Inv B0 (w.setCell ⟨g.r, 4, none⟩ (.int .i64 (n : Int))) { g with line := n } st := by
  have h1 := blk_put h.hr 4 (.int .i64 (n : Int)) rfl
  refine h.reader (by simp) (fun b _ hb => Below.heap_setCell _ _ _ b hb) g.vi g.vo n st.inner h1 ?_
  have k : Grow st.rules.length st.edges.length (fun r => r = .reader) w (w.setCell ⟨g.r, 4, none⟩ (.int .i64 (n : Int))) g { g with line := n, vi := g.vi, vo := g.vo } :=
    ⟨by simp, fun b hb hx => Below.heap_setCell _ _ _ b (fun e => hx (by rw [e]; exact h.rr)), fun _ _ => rfl, rfl, fun _ _ => ⟨rfl, rfl⟩, fun _ _ => ⟨rfl, rfl, rfl, rfl, rfl, rfl, rfl⟩, Nat.le_refl _⟩
  exact h.inn.grow k (by simp) rfl rfl rfl
theorem Inv.fileSet (h : Inv B0 w g st) (k t : Txt) (ht : t.length ≤ 16384) (hs : Stored w w' ⟨g.fb, g.fm, g.n, st.file⟩ k t) :
    Inv B0 w' { g with n := g.n + 1 } { st with file := upd st.file k t } := by
  have K : Grow st.rules.length st.edges.length (fun r => r = .fmap) w w' g { g with n := g.n + 1 } := by
    refine ⟨hs.size, fun b hb hx => hs.keep b hb (fun e => hx ?_), fun _ _ => rfl, rfl, fun _ _ => ⟨rfl, rfl⟩, fun _ _ => ⟨rfl, rfl, rfl, rfl, rfl, rfl, rfl⟩, Nat.le_succ _⟩
    rw [show b = g.fm from e]; exact h.rfm
  refine ⟨Nat.le_trans h.base K.size, h.new, h.rr, K.blk h.hr h.rr (by simp), h.rf, K.blk h.hf h.rf (by simp), h.rfm, hs.own, h.sf.upd ht, h.rrm, (K.mapV h.mr h.rrm (by simp)).mono (Nat.le_succ _), ?_, ?_, h.ne, K.row h.oe h.roe (by simp), h.roe, K.row h.od h.rod (by simp), h.rod, h.nd, h.inn.grow K (by simp) rfl rfl rfl⟩
  · intro i hi
    exact (h.rules i hi).grow K hi (by simp) (by simp)
  · intro j hj
    exact (h.edges j hj).grow K hj (Nat.le_refl _) (by simp) (by simp) (by simp)
end
theorem words_C (text : Txt) (hl : text.length ≤ 1000000) (w : World) : Calls Tryz.prog 42 #[.string (B text)] w fun e w' => ∃ A c, e = .returned (.slice A (Lex.words text).length c) ∧ (Lex.words text).length ≤ c ∧ Kd.C Kd.string w' A (Lex.words text).length ((Lex.words text).map B) ∧ Below w.heap.size w w' := by
  have hf : lex_Words.f (B text) = some ((Lex.words text).map B) := by
    unfold lex_Words.f
    rw [if_pos (by rw [size_B]; omega)]
  refine (lex_Words.calls (B text) _ w hf).mono ?_
  rintro e w' ⟨v, rfl, hR, hb⟩
  obtain ⟨A, c, rfl⟩ := Kd.R_slice hR
  have h1 := Kd.R_reads' hR
  rw [List.length_map] at h1 ⊢
  exact ⟨A, c, rfl, h1.2.1, h1.2.2, hb⟩
theorem words_short (text : Txt) (h : text.length ≤ 1000000) : ∀ t ∈ Lex.words text, t.length ≤ 1000000 := by
  intro t ht
  have h1 := Lex.words_total text
  have h2 : ∀ (l : List Txt), t ∈ l → t.length ≤ Lex.total l := by
    intro l
    induction l with
    | nil => intro h; cases h
    | cons x r ih =>
      intro h
      rcases List.mem_cons.1 h with rfl | h
      · simp [Lex.total]
      · have := ih h; simp [Lex.total] at this ⊢; omega
  have := h2 _ ht; omega
theorem build_any (B0 : Nat) (g : Mem) (st : St) (A : Option Addr) (c : Nat) (ws : List Txt) (w : World) (hI : Inv B0 w g st) (hin : st.inner = 0) (hW : Kd.C Kd.string w A ws.length (ws.map B)) (hc : ws.length ≤ c) (h1 : 1 ≤ ws.length)
    (hn : ws.length ≤ 20000) (hl : ∀ t ∈ ws, t.length ≤ 1000000) (hgn : g.n < 1000000) :
    Calls Tryz.prog 44 #[at0 g.r, .slice A ws.length c] w (Steps B0 g (buildE st g.line ws) w) := by
  by_cases hm : 200 ≤ st.edges.length
  · exact build_many B0 g st _ ws w hI hm
  · exact build_few B0 g st A c ws w hI hin hW hc h1 hn hl hm hgn
theorem neq_none (w : World) : (binOp .neq 67 .nilFunc .nilFunc).run Tryz.prog w = .ok (.bool false) w := by kernel_rfl
theorem neq_some (f : Fn) (a c : Array Value) (w : World) : (binOp .neq 67 (.func f a c) .nilFunc).run Tryz.prog w = .ok (.bool true) w := by kernel_rfl
theorem neq_none2 (w : World) : (binOp .neq 96 .nilFunc .nilFunc).run Tryz.prog w = .ok (.bool false) w := by kernel_rfl
theorem neq_some2 (f : Fn) (a c : Array Value) (w : World) : (binOp .neq 96 (.func f a c) .nilFunc).run Tryz.prog w = .ok (.bool true) w := by kernel_rfl
def inR (st : St) (line : Nat) (nm v : Txt) : Except Er St :=
  if nm = kCommand ∨ nm = kDepfile ∨ nm = kDescription then .ok { st with rules := onLast (fun r => { r with texts := upd r.texts nm v }) st.rules } else .error (line, 10)
def inB (st : St) (line : Nat) (nm v : Txt) : Except Er St :=
  match expE line [st.file] v with | .error e => .error e | .ok x => .ok { st with edges := onLast (fun e => { e with own := upd e.own nm x }) st.edges }
theorem innerE_0 {st : St} {line : Nat} {text : Txt} (h : st.inner = 0) : innerE st line text = .error (line, 10) := by rw [innerE, if_pos h]
theorem innerE_bad {st : St} {line : Nat} {text : Txt} {e : Er} (h : st.inner ≠ 0) (hs : setE line text = .error e) : innerE st line text = .error e := by rw [innerE, if_neg h, hs]
theorem innerE_1 {st : St} {line : Nat} {text nm v : Txt} (h : st.inner = 1) (hs : setE line text = .ok (nm, v)) : innerE st line text = inR st line nm v := by
  rw [innerE, if_neg (by omega), hs]
  simp only [if_pos h]; rfl
theorem innerE_2 {st : St} {line : Nat} {text nm v : Txt} (h : st.inner = 2) (hs : setE line text = .ok (nm, v)) : innerE st line text = inB st line nm v := by
  rw [innerE, if_neg (by omega), hs]
  have h1 : ¬ st.inner = 1 := by omega
  simp only [if_neg h1]; rfl
theorem Inv.apart {B0 : Nat} {w : World} {g : Mem} {st : St} (h : Inv B0 w g st) (b : Nat) (hb : w.heap.size ≤ b ∨ b = g.r) : (∀ i, i < st.rules.length → b ≠ g.tb i) ∧ (∀ j, j < st.edges.length → b ≠ g.mb j) := by
  refine ⟨fun i hi e => ?_, fun j hj e => ?_⟩
  · have h1 := h.rules i hi
    rcases hb with hb | hb
    · have := h1.ht.lt; omega
    · have h2 := h.rr; rw [← hb, e, h1.rt] at h2; cases h2
  · have h1 := h.edges j hj
    rcases hb with hb | hb
    · have := h1.hm.lt; omega
    · have h2 := h.rr; rw [← hb, e, h1.rm] at h2; cases h2
end Go.Proofs.YtbjekebkgidhaaaGreatDoor.Mf
end
section
set_option linter.unusedSimpArgs false
set_option linter.unusedVariables false
namespace Go.Proofs.YtbjekebkgidhaaaGreatDoor.Mf
open Go.RowKit Go.Lib Go.Shelf Go.Maps Go.Proofs.YtbjekebkgidhaaaGreatDoorW.PrintWords Go.Proofs.YtbjekebkgidhaaaGreatDoor.U Go.Proofs.YtbjekebkgidhaaaGreatDoor.Sc Go.Proofs.YtbjekebkgidhaaaGreatDoor.P Go.Proofs.YtbjekebkgidhaaaGreatDoor.MapV
set_option maxRecDepth 100000 in
set_option maxHeartbeats 8000000 in
theorem takes_in (B0 : Nat) (g : Mem) (st : St) (text : Txt) (num : Nat) (w : World) (hI : Inv B0 w g st) (htl : text.length ≤ 16384) (hgn : g.n < 1000000) :
    Calls Tryz.prog 21 #[at0 g.r, .agg #[.bool true, .string (B text), .int .i64 (num : Int)]] w (Steps B0 g (innerE st num text) w) := by
  have hB0 := hI.base
  have hg0 := hI.new g.r (by rw [hI.rr]; decide)
  have hrlt := lt_blk hI.hr
  have c4 : w.cell? ⟨g.r, 4, none⟩ = some (.int .i64 (g.line : Int)) := hI.cell 4
  have f4 : w.frozen? ⟨g.r, 4, none⟩ = false := hI.free 4
  have hnr : Hid (w.heap.size ≠ g.r) := by show _ ≠ _; omega
  have hsz : (w.setCell ⟨g.r, 4, none⟩ (.int .i64 (num : Int))).heap.size = w.heap.size := by simp
  have hI1 : Hid (Inv B0 ((w.setCell ⟨g.r, 4, none⟩ (.int .i64 (num : Int))).alloc (.cells #[.bool true, .string (B text), .int .i64 (num : Int)] 72)) { g with line := num } st) := (hI.lineSet num).below ((Below.refl _ _).alloc (Nat.le_refl _) _)
  have hn1 : Hid (((w.setCell ⟨g.r, 4, none⟩ (.int .i64 (num : Int))).alloc (.cells #[.bool true, .string (B text), .int .i64 (num : Int)] 72)).heap[w.heap.size]? = some (.cells #[.bool true, .string (B text), .int .i64 (num : Int)] 72)) := by
    have := heap_alloc_new (w.setCell ⟨g.r, 4, none⟩ (.int .i64 (num : Int))) (.cells #[.bool true, .string (B text), .int .i64 (num : Int)] 72)
    rw [hsz] at this; exact this
  have hB1 : Hid (Below B0 w ((w.setCell ⟨g.r, 4, none⟩ (.int .i64 (num : Int))).alloc (.cells #[.bool true, .string (B text), .int .i64 (num : Int)] 72))) := ((Below.refl _ _).setCell hg0 _).alloc (by rw [hsz]; exact hB0) _
  clear hsz
  have hIH := Lib.hid hI
  have hq1 := neq_none
  have hq2 := neq_some
  clear hI
  go_enter Tryz.func21, Tryz.ntmps21
  go_upto_region 2 with (fail)
  generalize ((w.setCell ⟨g.r, 4, none⟩ (.int .i64 (num : Int))).alloc (.cells #[.bool true, .string (B text), .int .i64 (num : Int)] 72)) = w1 at *
  have e0 : w1.cell? ⟨w.heap.size, 0, none⟩ = some (.bool true) := (cell_of_heap (j := 0) hn1.out).trans rfl
  have e1 : w1.cell? ⟨w.heap.size, 1, none⟩ = some (.string (B text)) := (cell_of_heap (j := 1) hn1.out).trans rfl
  have hg1 : Hid (w1.heap[g.r]? = w1.heap[g.r]?) := rfl
  clear c4 f4
  rcases hI1.out.inn with ⟨a1, a2, a3⟩ | ⟨a1, a2, a3, p, q, a4, a5, a6, a7, a8⟩ | ⟨a1, a2, a3, p, q, a4, a5, a6, a7, a8⟩
  · have c5 : w1.cell? ⟨g.r, 5, none⟩ = some .nilFunc := (hI1.out.cell 5).trans (by rw [← a2]; rfl)
    have hR : Hid (innerE st num text = .error (num, 10)) := innerE_0 a1
    clear a1 a2 a3
    go_wp2_with fail
    refine (need_no g.r num 10 _ (hI1.out.cell 4)).mono ?_
    rintro e w2 ⟨rfl, rfl⟩
    exact ⟨rfl, Steps.bad hR.out hB1.out⟩
  · have hvi : ({ g with line := num } : Mem).vi = .func (.func 72) #[] #[at0 p, at0 q] := a4
    have c5 : w1.cell? ⟨g.r, 5, none⟩ = some (.func (.func 72) #[] #[at0 p, at0 q]) := (hI1.out.cell 5).trans (by rw [← a4]; rfl)
    have hviH := Lib.hid hvi
    clear a2 a3 a4 a5 a6 a7 a8 hvi
    go_wp2_with fail
    refine (need_ok _ _ _).mono ?_
    rintro e w2 ⟨rfl, rfl⟩
    go_wp2_with fail
    refine RegP.regionH (fun w' => w'.cell? ⟨g.r, 5, none⟩ = some (.func (.func 72) #[] #[at0 p, at0 q]) ∧ w'.cell? ⟨w.heap.size, 1, none⟩ = some (.string (B text))) [(0, 0), (0, 1), (0, 2), (1, 3), (0, 4), (0, 5), (1, 6), (2, 7), (0, 8), (0, 9), (2, 10)] (by kernel_rfl) (by kernel_rfl) (by rfl) (by kernel_rfl) (by exact ⟨c5, e1⟩) ?_
    refine RegP.pure1 (by (simp only [gA,gB,gC]); rfl) (by exact fun _ _ _ h => h) (by rfl) (by intro w'; go_simp; try with_reducible rfl) ?_
    try simp only [Act.put, pA,pB,pC]
    refine RegP.pure1 (by (simp only [gA,gB,gC]); rfl) (by exact fun _ _ _ h => h) (by rfl) (by intro w'; go_simp; try with_reducible rfl) ?_
    try simp only [Act.put, pA,pB,pC]
    refine RegP.pure1 (by (simp only [gA,gB,gC]); rfl) (by exact fun _ _ _ h => h) (by rfl) (by intro w'; go_simp; try with_reducible rfl) ?_
    try simp only [Act.put, pA,pB,pC]
    refine RegP.held1 (by (simp only [gA,gB,gC]); rfl) (by exact fun _ _ _ h => h) (by rfl) (by intro w' hS_; (try dsimp only at hS_); go_split_ands; go_simp; try with_reducible rfl) ?_
    try simp only [Act.put, pA,pB,pC]
    refine RegP.pure1 (by (simp only [gA,gB,gC]); rfl) (by exact fun _ _ _ h => h) (by rfl) (by intro w'; go_simp; try with_reducible rfl) ?_
    try simp only [Act.put, pA,pB,pC]
    refine RegP.pure1 (by (simp only [gA,gB,gC]); rfl) (by exact fun _ _ _ h => h) (by rfl) (by intro w'; go_simp; try with_reducible rfl) ?_
    try simp only [Act.put, pA,pB,pC]
    refine RegP.held1 (by (simp only [gA,gB,gC]); rfl) (by exact fun _ _ _ h => h) (by rfl) (by intro w' hS_; (try dsimp only at hS_); go_split_ands; go_simp; try with_reducible rfl) ?_
    try simp only [Act.put, pA,pB,pC]
    refine RegP.ev1 (by (simp only [gA,gB,gC]); rfl) (fun K hK => ?_)
    rcases hs : setE num text with ⟨l1, e1⟩ | ⟨nm, v⟩
    · have hR : Hid (innerE st num text = .error (l1, e1)) := innerE_bad (by omega) hs
      go_simp
      have hP := set_any g.r num [⟨g.fb, g.fm, g.n, st.file⟩] (at0 g.fb) text (by omega) w1.drew (hI1.out.below (Below.refl _ _).drew).rd
      rw [hs] at hP
      refine hP.mono ?_
      rintro e w2 ⟨rfl, hb⟩
      exact ⟨rfl, Steps.bad hR.out (hB1.out.trans ((((Below.refl _ _).drew).trans hb).mono hI1.out.base))⟩
    have hso := setE_ok hs
    go_simp
    have hP := set_any g.r num [⟨g.fb, g.fm, g.n, st.file⟩] (at0 g.fb) text (by omega) w1.drew (hI1.out.below (Below.refl _ _).drew).rd
    rw [hs] at hP
    refine hP.mono ?_
    rintro e w2 ⟨rfl, hb⟩
    clear hP
    have hb2 := Lib.hid (((Below.refl w1.heap.size w1).drew).trans hb)
    have hI2 := Lib.hid (hI1.out.below hb2.out)
    clear hb
    refine hK.out _ _ ?_ (fun hHeld => ?_)
    · (try dsimp only); exact ⟨(hb2.out.cell (p := ⟨g.r, 5, none⟩) (lt_blk hI1.out.hr)).trans c5, (hb2.out.cell (p := ⟨w.heap.size, 1, none⟩) (lt_blk hn1.out)).trans e1⟩
    clear hK K
    try simp only [Act.put, pA,pB,pC]
    refine RegP.pure1 (by (simp only [gA,gB,gC]); rfl) (by exact fun _ _ _ h => h) (by rfl) (by intro w'; go_simp; try with_reducible rfl) ?_
    try simp only [Act.put, pA,pB,pC]
    refine RegP.pure1 (by (simp only [gA,gB,gC]); rfl) (by exact fun _ _ _ h => h) (by rfl) (by intro w'; go_simp; try with_reducible rfl) ?_
    try simp only [Act.put, pA,pB,pC]
    refine RegP.ev1 (by (simp only [gA,gB,gC]); rfl) (fun K hK => ?_)
    have hP : Calls Tryz.prog 72 #[.string (B nm), .string (B v), at0 p, at0 q] w2 (Inner B0 { g with line := num } st (inR st num nm v) w2) := ruleIn_any B0 { g with line := num } st nm v p q w2 hI2.out a1 hviH.out (by omega) (by omega) hgn
    rcases hin : inR st num nm v with ⟨l2, e2⟩ | st2
    · have hR : Hid (innerE st num text = .error (l2, e2)) := (innerE_1 a1 hs).trans hin
      go_simp
      rw [hin] at hP
      refine hP.mono ?_
      rintro e w3 ⟨rfl, hb⟩
      exact ⟨rfl, Steps.bad hR.out (hB1.out.trans ((hb2.out.mono hI1.out.base).trans hb))⟩
    have hR : Hid (innerE st num text = .ok st2) := (innerE_1 a1 hs).trans hin
    go_simp
    rw [hin] at hP
    refine hP.mono ?_
    rintro e w3 ⟨rfl, ⟨g', q1, q2, q3⟩, hb, hk⟩
    have hq1 := Lib.hid q1
    have hb3 := Lib.hid (hB1.out.trans ((hb2.out.mono hI1.out.base).trans hb))
    have hKr : Hid (w3.heap[g.r]? = w1.heap[g.r]?) := by
      have h1 := lt_blk hI1.out.hr
      have h2 := hI2.out.apart g.r (.inr rfl)
      exact (hk g.r (Nat.lt_of_lt_of_le h1 hb2.out.size) h2.1 h2.2).trans (hb2.out.block _ h1)
    have hKn : Hid (w3.heap[w.heap.size]? = w1.heap[w.heap.size]?) := by
      have h1 := lt_blk hn1.out
      have h2 := hIH.out.apart w.heap.size (.inl (Nat.le_refl _))
      exact (hk w.heap.size (Nat.lt_of_lt_of_le h1 hb2.out.size) h2.1 h2.2).trans (hb2.out.block _ h1)
    clear hP q1 hb hk
    refine hK.out _ _ ?_ (fun hHeld => ?_)
    · (try dsimp only); exact ⟨(World.cell?_of_block (a := ⟨g.r, 5, none⟩) hKr.out).trans c5, (World.cell?_of_block (a := ⟨w.heap.size, 1, none⟩) hKn.out).trans e1⟩
    clear hK K
    try simp only [Act.put, pA,pB,pC]
    refine RegP.done1 ?_
    clear hHeld
    try dsimp only
    go_wp2_with fail
    go_end0
    exact Steps.fin hR.out hq1.out q2 q3 hb3.out
  · have hvi : ({ g with line := num } : Mem).vi = .func (.func 76) #[] #[at0 p, at0 q] := a4
    have c5 : w1.cell? ⟨g.r, 5, none⟩ = some (.func (.func 76) #[] #[at0 p, at0 q]) := (hI1.out.cell 5).trans (by rw [← a4]; rfl)
    have hviH := Lib.hid hvi
    clear a2 a3 a4 a5 a6 a7 a8 hvi
    go_wp2_with fail
    refine (need_ok _ _ _).mono ?_
    rintro e w2 ⟨rfl, rfl⟩
    go_wp2_with fail
    refine RegP.regionH (fun w' => w'.cell? ⟨g.r, 5, none⟩ = some (.func (.func 76) #[] #[at0 p, at0 q]) ∧ w'.cell? ⟨w.heap.size, 1, none⟩ = some (.string (B text))) [(0, 0), (0, 1), (0, 2), (1, 3), (0, 4), (0, 5), (1, 6), (2, 7), (0, 8), (0, 9), (2, 10)] (by kernel_rfl) (by kernel_rfl) (by rfl) (by kernel_rfl) (by exact ⟨c5, e1⟩) ?_
    refine RegP.pure1 (by (simp only [gA,gB,gC]); rfl) (by exact fun _ _ _ h => h) (by rfl) (by intro w'; go_simp; try with_reducible rfl) ?_
    try simp only [Act.put, pA,pB,pC]
    refine RegP.pure1 (by (simp only [gA,gB,gC]); rfl) (by exact fun _ _ _ h => h) (by rfl) (by intro w'; go_simp; try with_reducible rfl) ?_
    try simp only [Act.put, pA,pB,pC]
    refine RegP.pure1 (by (simp only [gA,gB,gC]); rfl) (by exact fun _ _ _ h => h) (by rfl) (by intro w'; go_simp; try with_reducible rfl) ?_
    try simp only [Act.put, pA,pB,pC]
    refine RegP.held1 (by (simp only [gA,gB,gC]); rfl) (by exact fun _ _ _ h => h) (by rfl) (by intro w' hS_; (try dsimp only at hS_); go_split_ands; go_simp; try with_reducible rfl) ?_
    try simp only [Act.put, pA,pB,pC]
    refine RegP.pure1 (by (simp only [gA,gB,gC]); rfl) (by exact fun _ _ _ h => h) (by rfl) (by intro w'; go_simp; try with_reducible rfl) ?_
    try simp only [Act.put, pA,pB,pC]
    refine RegP.pure1 (by (simp only [gA,gB,gC]); rfl) (by exact fun _ _ _ h => h) (by rfl) (by intro w'; go_simp; try with_reducible rfl) ?_
    try simp only [Act.put, pA,pB,pC]
    refine RegP.held1 (by (simp only [gA,gB,gC]); rfl) (by exact fun _ _ _ h => h) (by rfl) (by intro w' hS_; (try dsimp only at hS_); go_split_ands; go_simp; try with_reducible rfl) ?_
    try simp only [Act.put, pA,pB,pC]
    refine RegP.ev1 (by (simp only [gA,gB,gC]); rfl) (fun K hK => ?_)
    rcases hs : setE num text with ⟨l1, e1⟩ | ⟨nm, v⟩
    · have hR : Hid (innerE st num text = .error (l1, e1)) := innerE_bad (by omega) hs
      go_simp
      have hP := set_any g.r num [⟨g.fb, g.fm, g.n, st.file⟩] (at0 g.fb) text (by omega) w1.drew (hI1.out.below (Below.refl _ _).drew).rd
      rw [hs] at hP
      refine hP.mono ?_
      rintro e w2 ⟨rfl, hb⟩
      exact ⟨rfl, Steps.bad hR.out (hB1.out.trans ((((Below.refl _ _).drew).trans hb).mono hI1.out.base))⟩
    have hso := setE_ok hs
    go_simp
    have hP := set_any g.r num [⟨g.fb, g.fm, g.n, st.file⟩] (at0 g.fb) text (by omega) w1.drew (hI1.out.below (Below.refl _ _).drew).rd
    rw [hs] at hP
    refine hP.mono ?_
    rintro e w2 ⟨rfl, hb⟩
    clear hP
    have hb2 := Lib.hid (((Below.refl w1.heap.size w1).drew).trans hb)
    have hI2 := Lib.hid (hI1.out.below hb2.out)
    clear hb
    refine hK.out _ _ ?_ (fun hHeld => ?_)
    · (try dsimp only); exact ⟨(hb2.out.cell (p := ⟨g.r, 5, none⟩) (lt_blk hI1.out.hr)).trans c5, (hb2.out.cell (p := ⟨w.heap.size, 1, none⟩) (lt_blk hn1.out)).trans e1⟩
    clear hK K
    try simp only [Act.put, pA,pB,pC]
    refine RegP.pure1 (by (simp only [gA,gB,gC]); rfl) (by exact fun _ _ _ h => h) (by rfl) (by intro w'; go_simp; try with_reducible rfl) ?_
    try simp only [Act.put, pA,pB,pC]
    refine RegP.pure1 (by (simp only [gA,gB,gC]); rfl) (by exact fun _ _ _ h => h) (by rfl) (by intro w'; go_simp; try with_reducible rfl) ?_
    try simp only [Act.put, pA,pB,pC]
    refine RegP.ev1 (by (simp only [gA,gB,gC]); rfl) (fun K hK => ?_)
    have hP : Calls Tryz.prog 76 #[.string (B nm), .string (B v), at0 p, at0 q] w2 (Inner B0 { g with line := num } st (inB st num nm v) w2) := buildIn_any B0 { g with line := num } st nm v p q w2 hI2.out a1 hviH.out hso.1 (by omega) (by omega) hgn
    rcases hin : inB st num nm v with ⟨l2, e2⟩ | st2
    · have hR : Hid (innerE st num text = .error (l2, e2)) := (innerE_2 a1 hs).trans hin
      go_simp
      rw [hin] at hP
      refine hP.mono ?_
      rintro e w3 ⟨rfl, hb⟩
      exact ⟨rfl, Steps.bad hR.out (hB1.out.trans ((hb2.out.mono hI1.out.base).trans hb))⟩
    have hR : Hid (innerE st num text = .ok st2) := (innerE_2 a1 hs).trans hin
    go_simp
    rw [hin] at hP
    refine hP.mono ?_
    rintro e w3 ⟨rfl, ⟨g', q1, q2, q3⟩, hb, hk⟩
    have hq1 := Lib.hid q1
    have hb3 := Lib.hid (hB1.out.trans ((hb2.out.mono hI1.out.base).trans hb))
    have hKr : Hid (w3.heap[g.r]? = w1.heap[g.r]?) := by
      have h1 := lt_blk hI1.out.hr
      have h2 := hI2.out.apart g.r (.inr rfl)
      exact (hk g.r (Nat.lt_of_lt_of_le h1 hb2.out.size) h2.1 h2.2).trans (hb2.out.block _ h1)
    have hKn : Hid (w3.heap[w.heap.size]? = w1.heap[w.heap.size]?) := by
      have h1 := lt_blk hn1.out
      have h2 := hIH.out.apart w.heap.size (.inl (Nat.le_refl _))
      exact (hk w.heap.size (Nat.lt_of_lt_of_le h1 hb2.out.size) h2.1 h2.2).trans (hb2.out.block _ h1)
    clear hP q1 hb hk
    refine hK.out _ _ ?_ (fun hHeld => ?_)
    · (try dsimp only); exact ⟨(World.cell?_of_block (a := ⟨g.r, 5, none⟩) hKr.out).trans c5, (World.cell?_of_block (a := ⟨w.heap.size, 1, none⟩) hKn.out).trans e1⟩
    clear hK K
    try simp only [Act.put, pA,pB,pC]
    refine RegP.done1 ?_
    clear hHeld
    try dsimp only
    go_wp2_with fail
    go_end0
    exact Steps.fin hR.out hq1.out q2 q3 hb3.out
end Go.Proofs.YtbjekebkgidhaaaGreatDoor.Mf
end
section
set_option linter.unusedSimpArgs false
set_option linter.unusedVariables false
namespace Go.Proofs.YtbjekebkgidhaaaGreatDoor.Mf
open Go.RowKit Go.Lib Go.Shelf Go.Maps Go.Proofs.YtbjekebkgidhaaaGreatDoorW.PrintWords Go.Proofs.YtbjekebkgidhaaaGreatDoor.U Go.Proofs.YtbjekebkgidhaaaGreatDoor.Sc Go.Proofs.YtbjekebkgidhaaaGreatDoor.P Go.Proofs.YtbjekebkgidhaaaGreatDoor.MapV
set_option maxRecDepth 100000 in
set_option maxHeartbeats 8000000 in
theorem takes_left (B0 : Nat) (g : Mem) (st : St) (text : Txt) (num : Nat) (w : World) (hI : Inv B0 w g st) (htl : text.length ≤ 16384) (hgn : g.n < 1000000) (hdl : st.defs.length ≤ 300000000) :
    Calls Tryz.prog 21 #[at0 g.r, .agg #[.bool false, .string (B text), .int .i64 (num : Int)]] w (Steps B0 g (leftE st num text) w) := by
  have hB0 := hI.base
  have hg0 := hI.new g.r (by rw [hI.rr]; decide)
  have hrlt := lt_blk hI.hr
  have c4 : w.cell? ⟨g.r, 4, none⟩ = some (.int .i64 (g.line : Int)) := hI.cell 4
  have f4 : w.frozen? ⟨g.r, 4, none⟩ = false := hI.free 4
  have hnr : Hid (w.heap.size ≠ g.r) := by show _ ≠ _; omega
  have hsz : (w.setCell ⟨g.r, 4, none⟩ (.int .i64 (num : Int))).heap.size = w.heap.size := by simp
  have hI1 : Hid (Inv B0 ((w.setCell ⟨g.r, 4, none⟩ (.int .i64 (num : Int))).alloc (.cells #[.bool false, .string (B text), .int .i64 (num : Int)] 72)) { g with line := num } st) := (hI.lineSet num).below ((Below.refl _ _).alloc (Nat.le_refl _) _)
  have hn1 : Hid (((w.setCell ⟨g.r, 4, none⟩ (.int .i64 (num : Int))).alloc (.cells #[.bool false, .string (B text), .int .i64 (num : Int)] 72)).heap[w.heap.size]? = some (.cells #[.bool false, .string (B text), .int .i64 (num : Int)] 72)) := by
    have := heap_alloc_new (w.setCell ⟨g.r, 4, none⟩ (.int .i64 (num : Int))) (.cells #[.bool false, .string (B text), .int .i64 (num : Int)] 72)
    rw [hsz] at this; exact this
  have hB1 : Hid (Below B0 w ((w.setCell ⟨g.r, 4, none⟩ (.int .i64 (num : Int))).alloc (.cells #[.bool false, .string (B text), .int .i64 (num : Int)] 72))) := ((Below.refl _ _).setCell hg0 _).alloc (by rw [hsz]; exact hB0) _
  clear hsz
  have hIH := Lib.hid hI
  have hq1 := neq_none
  have hq2 := neq_some
  clear hI
  go_enter Tryz.func21, Tryz.ntmps21
  go_upto_region 2 with (fail)
  generalize ((w.setCell ⟨g.r, 4, none⟩ (.int .i64 (num : Int))).alloc (.cells #[.bool false, .string (B text), .int .i64 (num : Int)] 72)) = w1 at *
  have e0 : w1.cell? ⟨w.heap.size, 0, none⟩ = some (.bool false) := (cell_of_heap (j := 0) hn1.out).trans rfl
  have e1 : w1.cell? ⟨w.heap.size, 1, none⟩ = some (.string (B text)) := (cell_of_heap (j := 1) hn1.out).trans rfl
  have hg1 : Hid (w1.heap[g.r]? = w1.heap[g.r]?) := rfl
  clear c4 f4
  have hq3 := neq_none2
  have hq4 := neq_some2
  go_wp2_with fail
  rcases hc : closeE st with ⟨l1, e1⟩ | st2
  · have hR : Hid (leftE st num text = .error (l1, e1)) := by show _ = _; rw [leftE, hc]
    have hP := close_far B0 { g with line := num } st w1 hI1.out
    rw [hc] at hP
    refine hP.mono ?_
    rintro e w2 ⟨rfl, hb⟩
    exact ⟨rfl, Steps.bad hR.out (hB1.out.trans hb)⟩
  have hP := close_far B0 { g with line := num } st w1 hI1.out
  rw [hc] at hP
  refine hP.mono ?_
  rintro e w2 ⟨rfl, ⟨g2, i1, i2, i3, i4, i5⟩, hb, hk, hsz⟩
  have hI2 := Lib.hid i1
  have hr2 : g2.r = g.r := i2
  have hn2 : g2.n = g.n := i3
  have hl2 : g2.line = num := i4
  have hB2 := Lib.hid (hB1.out.trans hb)
  have hn2' := Lib.hid ((hk _ hnr.out).trans hn1.out)
  have hd2 : st2.defs = st.defs := by
    have := hc
    unfold closeE at this
    split at this
    · split at this
      · split at this
        · cases this
        · injection this with this; rw [← this]
      · injection this with this; rw [← this]
    · injection this with this; rw [← this]
  have x1 : w2.cell? ⟨w.heap.size, 1, none⟩ = some (.string (B text)) := (cell_of_heap (j := 1) hn2'.out).trans rfl
  clear hP i1 i2 i3 i4 hb hk hsz e0 e1 hg1
  go_wp2_with fail
  refine (words_C text (by omega) _).mono ?_
  rintro e w3 ⟨A, c, rfl, hwc, hW, hb⟩
  have hwl : (Lex.words text).length ≤ 16384 := Nat.le_trans (Lex.words_len text) htl
  have hwt : ∀ t ∈ Lex.words text, t.length ≤ 1000000 := words_short text (by omega)
  have hB3 := Lib.hid (hB2.out.trans (hb.mono hI2.out.base))
  have hI3 := Lib.hid (hI2.out.below hb)
  have hn3 := Lib.hid ((hb.block _ (lt_blk hn2'.out)).trans hn2'.out)
  clear hb x1
  rcases hws : Lex.words text with _ | ⟨wd, ws⟩
  · have hR : Hid (leftE st num text = .error (num, 10)) := by show _ = _; rw [leftE, hc, hws]
    rw [hws] at hwc
    clear hws hwl hwt hW hc
    go_wp2_with fail
    have h4 := hI3.out.cell 4
    rw [hr2, show (#[at0 g2.fb, Value.map (some g2.rm), g2.ve, g2.vd, .int .i64 (g2.line : Int), g2.vi, g2.vo][4]? : Option Value) = some (.int .i64 (g2.line : Int)) from rfl, hl2] at h4
    refine (need_no g.r num 10 _ h4).mono ?_
    rintro e w4 ⟨rfl, rfl⟩
    exact ⟨rfl, Steps.bad hR.out hB3.out⟩
  have hL0 : Hid (leftE st num text = if wd = kRule then ruleE st2 num (wd :: ws) else if wd = kBuild then buildE st2 num (wd :: ws) else if wd = kDefault then targetsE st2 num (wd :: ws) else setLineE st2 num text) := by
    show _ = _; rw [leftE, hc, hws]
  rw [hws] at hwc hW hwl hwt
  obtain ⟨ad, hA, hq0⟩ := str_at hW 0 (by simp)
  subst hA
  have hq0' : w3.cell? ad = some (.string (B wd)) := by
    have e : ad.add 0 = ad := by simp [Addr.add]
    rw [e] at hq0; exact hq0
  have hwdl : wd.length ≤ 1000000 := hwt wd (by simp)
  have hWH := Lib.hid hW
  have hwtH := Lib.hid hwt
  obtain ⟨nw, hnw⟩ : ∃ nw, (wd :: ws).length = nw := ⟨_, rfl⟩
  have hNW := Lib.hid hnw
  rw [hnw] at hwc hwl ⊢
  have hn0 : 0 < nw := by rw [← hnw]; simp
  have hd0 : decide ((0 : Int) < (nw : Int)) = true := by rw [decide_eq_true_iff]; omega
  have hd1 : decide (0 < nw) = true := by rw [decide_eq_true_iff]; omega
  have hn0i : (0 : Int) < (nw : Int) := by omega
  clear hnw hwt hW hq0 hws hc
  have hmm := @run_makeMap Tryz.prog
  have hmf : ∀ (fn : Fn) (first cap : Array Value) (w : World), (Instr.makeFunc fn first cap).run Tryz.prog w = .ok (.func fn first cap) w := fun _ _ _ _ => rfl
  have hm0 : OwnsV (w3.alloc (.map #[] 0)) w3.heap.size 0 noneV := OwnsV.made w3
  obtain ⟨y1, r1, m1, g1⟩ := hm0.store (t := 97) Tryz.underlying97 (by decide) kRule (.func (.func 43) #[at0 g.r] #[]) (by decide)
  obtain ⟨y2, r2, m2, g2'⟩ := m1.store (t := 97) Tryz.underlying97 (by decide) kBuild (.func (.func 44) #[at0 g.r] #[]) (by decide)
  obtain ⟨y3, r3, m3, g3⟩ := m2.store (t := 97) Tryz.underlying97 (by decide) kDefault (.func (.func 45) #[at0 g.r] #[]) (by decide)
  have r1' : (Instr.mapUpdate 97 (.map (some w3.heap.size)) (.string ⟨#[114, 117, 108, 101]⟩) (.func (.func 43) #[at0 g.r] #[])).run Tryz.prog (w3.alloc (.map #[] 0)) = .ok () y1 := r1
  have r2' : (Instr.mapUpdate 97 (.map (some w3.heap.size)) (.string ⟨#[98, 117, 105, 108, 100]⟩) (.func (.func 44) #[at0 g.r] #[])).run Tryz.prog y1 = .ok () y2 := r2
  have r3' : (Instr.mapUpdate 97 (.map (some w3.heap.size)) (.string ⟨#[100, 101, 102, 97, 117, 108, 116]⟩) (.func (.func 45) #[at0 g.r] #[])).run Tryz.prog y2 = .ok () y3 := r3
  have hBy : Hid (Below w3.heap.size w3 y3) := by
    have h0 : Below w3.heap.size w3 (w3.alloc (.map #[] 0)) := (Below.refl _ _).alloc (Nat.le_refl _) _
    have hk : ∀ k, some w3.heap.size = some k → w3.heap.size ≤ k := fun k hk => by injection hk with hk; omega
    have h1 := h0.grown g1 h0.size hk
    have h2 := h1.grown g2' h1.size hk
    exact h2.grown g3 h2.size hk
  have hz : ∀ w : World, (zeroValue 96).run Tryz.prog w = .ok .nilFunc w := fun w => by kernel_rfl
  have hlk := m3.look (t := 97) Tryz.underlying97 (hz y3) wd (by unfold maxLen; omega)
  have x0 : y3.cell? ad = some (.string (B wd)) := (hBy.out.cell (World.block_lt_of_cell? w3 _ hq0')).trans hq0'
  have x1 : y3.cell? ⟨w.heap.size, 1, none⟩ = some (.string (B text)) := (cell_of_heap (j := 1) ((hBy.out.block _ (lt_blk hn3.out)).trans hn3.out)).trans rfl
  have hI4 := Lib.hid (hI3.out.below hBy.out)
  have hB4 := Lib.hid (hB3.out.trans (hBy.out.mono hI3.out.base))
  have hW4 : Hid (Kd.C Kd.string y3 (some ad) (wd :: ws).length ((wd :: ws).map B)) := Kd.C_below hWH.out hBy.out
  have ha0 : ad.add 0 = ad := by simp [Addr.add]
  clear r1 r2 r3 m1 m2 m3 g1 g2' g3 hm0 hq0'
  by_cases hkRule : wd = kRule
  · subst hkRule
    have hlk' : (Instr.lookup 97 (.map (some w3.heap.size)) (.string (B kRule)) false).run Tryz.prog y3 = .ok (.func (.func 43) #[at0 g.r] #[]) y3 := hlk
    have hLR : Hid (leftE st num text = ruleE st2 num (kRule :: ws)) := by show _ = _; rw [hL0.out]; rfl
    clear hlk
    go_wp2_with fail
    refine (need_ok _ _ _).mono ?_
    rintro e w4 ⟨rfl, rfl⟩
    go_wp2_with fail
    have hP : Calls Tryz.prog 43 #[at0 g.r, .slice (some ad) nw c] y3 (Steps B0 g2 (ruleE st2 num (kRule :: ws)) y3) := by
      have := rule_any B0 g2 st2 (some ad) c (kRule :: ws) y3 hI4.out i5 hW4.out (by rw [hNW.out]; exact hwc) hwtH.out (by omega) (by rw [hNW.out]; omega)
      rw [hNW.out, hr2, hl2] at this
      exact this
    rcases hx : ruleE st2 num (kRule :: ws) with ⟨l5, e5⟩ | st5
    · rw [hx] at hP
      refine hP.mono ?_
      rintro e w5 ⟨rfl, hb⟩
      exact ⟨rfl, Steps.bad (hLR.out.trans hx) (hB4.out.trans hb)⟩
    · rw [hx] at hP
      refine hP.mono ?_
      rintro e w5 ⟨rfl, ⟨g', q1, q2, q3⟩, hb⟩
      have hq1' := Lib.hid q1
      clear q1 hP
      go_wp2_with fail
      go_end0
      exact Steps.fin (hLR.out.trans hx) hq1'.out (q2.trans hr2) (by omega) (hB4.out.trans hb)
  by_cases hkBuild : wd = kBuild
  · subst hkBuild
    have hlk' : (Instr.lookup 97 (.map (some w3.heap.size)) (.string (B kBuild)) false).run Tryz.prog y3 = .ok (.func (.func 44) #[at0 g.r] #[]) y3 := hlk
    have hLR : Hid (leftE st num text = buildE st2 num (kBuild :: ws)) := by show _ = _; rw [hL0.out]; rfl
    clear hlk
    go_wp2_with fail
    refine (need_ok _ _ _).mono ?_
    rintro e w4 ⟨rfl, rfl⟩
    go_wp2_with fail
    have hP : Calls Tryz.prog 44 #[at0 g.r, .slice (some ad) nw c] y3 (Steps B0 g2 (buildE st2 num (kBuild :: ws)) y3) := by
      have := build_any B0 g2 st2 (some ad) c (kBuild :: ws) y3 hI4.out i5 hW4.out (by rw [hNW.out]; exact hwc) (by rw [hNW.out]; omega) (by rw [hNW.out]; omega) hwtH.out (by omega)
      rw [hNW.out, hr2, hl2] at this
      exact this
    rcases hx : buildE st2 num (kBuild :: ws) with ⟨l5, e5⟩ | st5
    · rw [hx] at hP
      refine hP.mono ?_
      rintro e w5 ⟨rfl, hb⟩
      exact ⟨rfl, Steps.bad (hLR.out.trans hx) (hB4.out.trans hb)⟩
    · rw [hx] at hP
      refine hP.mono ?_
      rintro e w5 ⟨rfl, ⟨g', q1, q2, q3⟩, hb⟩
      have hq1' := Lib.hid q1
      clear q1 hP
      go_wp2_with fail
      go_end0
      exact Steps.fin (hLR.out.trans hx) hq1'.out (q2.trans hr2) (by omega) (hB4.out.trans hb)
  by_cases hkDefault : wd = kDefault
  · subst hkDefault
    have hlk' : (Instr.lookup 97 (.map (some w3.heap.size)) (.string (B kDefault)) false).run Tryz.prog y3 = .ok (.func (.func 45) #[at0 g.r] #[]) y3 := hlk
    have hLR : Hid (leftE st num text = targetsE st2 num (kDefault :: ws)) := by show _ = _; rw [hL0.out]; rfl
    clear hlk
    go_wp2_with fail
    refine (need_ok _ _ _).mono ?_
    rintro e w4 ⟨rfl, rfl⟩
    go_wp2_with fail
    have hP : Calls Tryz.prog 45 #[at0 g.r, .slice (some ad) nw c] y3 (Steps B0 g2 (targetsE st2 num (kDefault :: ws)) y3) := by
      have := targets_any B0 g2 st2 (some ad) c (kDefault :: ws) y3 hI4.out i5 hW4.out (by rw [hNW.out]; exact hwc) (by rw [hNW.out]; omega) (fun t ht => Nat.lt_of_le_of_lt (hwtH.out t ht) (by decide)) (by rw [hd2]; exact hdl)
      rw [hNW.out, hr2, hl2] at this
      exact this
    rcases hx : targetsE st2 num (kDefault :: ws) with ⟨l5, e5⟩ | st5
    · rw [hx] at hP
      refine hP.mono ?_
      rintro e w5 ⟨rfl, hb⟩
      exact ⟨rfl, Steps.bad (hLR.out.trans hx) (hB4.out.trans hb)⟩
    · rw [hx] at hP
      refine hP.mono ?_
      rintro e w5 ⟨rfl, ⟨g', q1, q2, q3⟩, hb⟩
      have hq1' := Lib.hid q1
      clear q1 hP
      go_wp2_with fail
      go_end0
      exact Steps.fin (hLR.out.trans hx) hq1'.out (q2.trans hr2) (by omega) (hB4.out.trans hb)
  have hlk' : (Instr.lookup 97 (.map (some w3.heap.size)) (.string (B wd)) false).run Tryz.prog y3 = .ok .nilFunc y3 := by
    rw [hlk]
    simp only [updV, noneV, if_neg hkRule, if_neg hkBuild, if_neg hkDefault]; rfl
  have hLR : Hid (leftE st num text = setLineE st2 num text) := by show _ = _; rw [hL0.out, if_neg hkRule, if_neg hkBuild, if_neg hkDefault]
  clear hlk
  go_wp2_with fail
  refine (need_ok _ _ _).mono ?_
  rintro e w4 ⟨rfl, rfl⟩
  go_wp2_with fail
  have hP : Calls Tryz.prog 41 #[at0 g.r, .string (B text)] y3 (Gives (setE num text) (fun p => .tuple #[.string (B p.1), .string (B p.2)]) y3) := by
    have := set_any g2.r g2.line [⟨g2.fb, g2.fm, g2.n, st2.file⟩] (at0 g2.fb) text (by omega) y3 hI4.out.rd
    rw [hr2, hl2] at this; exact this
  rcases hs : setE num text with ⟨l1, e1⟩ | ⟨nm, v⟩
  · rw [hs] at hP
    have hR : Hid (leftE st num text = .error (l1, e1)) := by show _ = _; rw [hLR.out, setLineE, hs]
    refine hP.mono ?_
    rintro e w5 ⟨rfl, hb⟩
    exact ⟨rfl, Steps.bad hR.out (hB4.out.trans (hb.mono hI4.out.base))⟩
  rw [hs] at hP
  have hso := setE_ok hs
  refine hP.mono ?_
  rintro e w5 ⟨rfl, hb⟩
  have hB5 := Lib.hid (hB4.out.trans (hb.mono hI4.out.base))
  have hI5 := Lib.hid (hI4.out.below hb)
  have z5 : w5.cell? ⟨g.r, 0, none⟩ = some (at0 g2.fb) := by rw [← hr2]; exact hI5.out.cell 0
  clear hP hb
  go_wp2_with fail
  refine RegP.regionH (fun w' => w'.cell? ⟨g.r, 0, none⟩ = some (at0 g2.fb)) [(0, 0), (0, 1), (0, 2), (1, 3), (0, 4), (0, 5), (0, 6), (0, 7), (0, 8), (1, 9), (0, 10), (2, 11), (2, 12)] (by kernel_rfl) (by kernel_rfl) (by rfl) (by kernel_rfl) (by exact z5) ?_
  refine RegP.pure1 (by (simp only [gA,gB,gC]); rfl) (by exact fun _ _ _ h => h) (by rfl) (by intro w'; go_simp; try with_reducible rfl) ?_
  try simp only [Act.put, pA,pB,pC]
  refine RegP.pure1 (by (simp only [gA,gB,gC]); rfl) (by exact fun _ _ _ h => h) (by rfl) (by intro w'; go_simp; try with_reducible rfl) ?_
  try simp only [Act.put, pA,pB,pC]
  refine RegP.pure1 (by (simp only [gA,gB,gC]); rfl) (by exact fun _ _ _ h => h) (by rfl) (by intro w'; go_simp; try with_reducible rfl) ?_
  try simp only [Act.put, pA,pB,pC]
  refine RegP.held1 (by (simp only [gA,gB,gC]); rfl) (by exact fun _ _ _ h => h) (by rfl) (by intro w' hS_; (try dsimp only at hS_); go_split_ands; go_simp; try with_reducible rfl) ?_
  try simp only [Act.put, pA,pB,pC]
  refine RegP.pure1 (by (simp only [gA,gB,gC]); rfl) (by exact fun _ _ _ h => h) (by rfl) (by intro w'; go_simp; try with_reducible rfl) ?_
  try simp only [Act.put, pA,pB,pC]
  refine RegP.pure1 (by (simp only [gA,gB,gC]); rfl) (by exact fun _ _ _ h => h) (by rfl) (by intro w'; go_simp; try with_reducible rfl) ?_
  try simp only [Act.put, pA,pB,pC]
  refine RegP.pure1 (by (simp only [gA,gB,gC]); rfl) (by exact fun _ _ _ h => h) (by rfl) (by intro w'; go_simp; try with_reducible rfl) ?_
  try simp only [Act.put, pA,pB,pC]
  refine RegP.pure1 (by (simp only [gA,gB,gC]); rfl) (by exact fun _ _ _ h => h) (by rfl) (by intro w'; go_simp; try with_reducible rfl) ?_
  try simp only [Act.put, pA,pB,pC]
  refine RegP.pure1 (by (simp only [gA,gB,gC]); rfl) (by exact fun _ _ _ h => h) (by rfl) (by intro w'; go_simp; try with_reducible rfl) ?_
  try simp only [Act.put, pA,pB,pC]
  refine RegP.held1 (by (simp only [gA,gB,gC]); rfl) (by exact fun _ _ _ h => h) (by rfl) (by intro w' hS_; (try dsimp only at hS_); go_split_ands; go_simp; try with_reducible rfl) ?_
  try simp only [Act.put, pA,pB,pC]
  refine RegP.pure1 (by (simp only [gA,gB,gC]); rfl) (by exact fun _ _ _ h => h) (by rfl) (by intro w'; go_simp; try with_reducible rfl) ?_
  try simp only [Act.put, pA,pB,pC]
  refine RegP.ev1 (by (simp only [gA,gB,gC]); rfl) (fun K hK => ?_)
  rcases he : expE num [st2.file] v with ⟨l1, e1⟩ | x
  · have hR : Hid (leftE st num text = .error (l1, e1)) := by show _ = _; rw [hLR.out, setLineE, hs]; simp only [he]
    go_simp
    have hP : Calls Tryz.prog 47 #[at0 g.r, at0 g2.fb, .string (B v)] w5.drew (Gives (expE num [st2.file] v) (fun x => .string (B x)) w5.drew) := by
      have := (hI5.out.below (Below.refl _ _).drew).expanded v (by omega)
      rw [hr2, hl2] at this; exact this
    rw [he] at hP
    refine hP.mono ?_
    rintro e w6 ⟨rfl, hb⟩
    exact ⟨rfl, Steps.bad hR.out (hB5.out.trans ((((Below.refl _ _).drew).trans hb).mono hI5.out.base))⟩
  have hR : Hid (leftE st num text = .ok { st2 with file := upd st2.file nm x }) := by show _ = _; rw [hLR.out, setLineE, hs]; simp only [he]
  have hxl := expE_len he
  go_simp
  have hP : Calls Tryz.prog 47 #[at0 g.r, at0 g2.fb, .string (B v)] w5.drew (Gives (expE num [st2.file] v) (fun x => .string (B x)) w5.drew) := by
    have := (hI5.out.below (Below.refl _ _).drew).expanded v (by omega)
    rw [hr2, hl2] at this; exact this
  rw [he] at hP
  refine hP.mono ?_
  rintro e w6 ⟨rfl, hb⟩
  have hB6 := Lib.hid (hB5.out.trans ((((Below.refl _ _).drew).trans hb).mono hI5.out.base))
  have hI6 := Lib.hid (hI5.out.below (((Below.refl _ _).drew).trans hb))
  have z6 : w6.cell? ⟨g.r, 0, none⟩ = some (at0 g2.fb) := by rw [← hr2]; exact hI6.out.cell 0
  clear hP hb
  refine hK.out _ _ ?_ (fun hHeld => ?_)
  · (try dsimp only); exact z6
  clear hK K
  try simp only [Act.put, pA,pB,pC]
  refine RegP.ev1 (by (simp only [gA,gB,gC]); rfl) (fun K hK => ?_)
  go_simp
  refine (Set_ok ⟨g2.fb, g2.fm, g2.n, st2.file⟩ [] (at0 g2.fb) nm x hso.1 (by unfold maxLen; omega) (by unfold maxLen; omega) (by show g2.n < 1000000; omega) _ hI6.out.fchain).mono ?_
  rintro e w7 ⟨rfl, hst⟩
  have hfin := Lib.hid (hI6.out.fileSet nm x hxl hst)
  have hB7 := Lib.hid (hB6.out.trans (hst.below hI6.out.base (hI6.out.new _ (by show g2.role g2.fm ≠ _; rw [hI6.out.rfm]; simp))))
  have z7 : w7.cell? ⟨g.r, 0, none⟩ = some (at0 g2.fb) := by rw [← hr2]; exact hfin.out.cell 0
  clear hst
  refine hK.out _ _ ?_ (fun hHeld => ?_)
  · (try dsimp only); exact z7
  clear hK K
  try simp only [Act.put, pA,pB,pC]
  refine RegP.done1 ?_
  clear hHeld
  try dsimp only
  go_wp2_with fail
  go_end0
  exact Steps.fin hR.out hfin.out hr2 (by show g2.n + 1 ≤ _; omega) hB7.out
theorem takes_any (B0 : Nat) (g : Mem) (st : St) (l : Ln.LineT) (w : World) (hI : Inv B0 w g st) (htl : l.text.length ≤ 16384) (hgn : g.n < 1000000) (hdl : st.defs.length ≤ 300000000) :
    Calls Tryz.prog 21 #[at0 g.r, .agg #[.bool l.inner, .string (B l.text), .int .i64 (l.num : Int)]] w (Steps B0 g (takesE st l) w) := by
  obtain ⟨inner, text, num⟩ := l
  cases inner with
  | true => exact takes_in B0 g st text num w hI htl hgn
  | false => exact takes_left B0 g st text num w hI htl hgn hdl
end Go.Proofs.YtbjekebkgidhaaaGreatDoor.Mf
end
section
set_option linter.unusedVariables false
namespace Go.Proofs.YtbjekebkgidhaaaGreatDoor.P
open Go.RowKit Go.Proofs.YtbjekebkgidhaaaGreatDoorW.PrintWords Go.Proofs.YtbjekebkgidhaaaGreatDoorW.PrintLast Go.Proofs.YtbjekebkgidhaaaGreatDoorW.PrintMore
def joinB (l : List ByteArray) (s : ByteArray) : ByteArray := ⟨(Lib.join (l.map (·.data.toList)) s.data.toList).toArray⟩
def strings_Join.f (l0 : List ByteArray) (a1 : ByteArray) : Option ByteArray := if l0.length ≤ 140737488355328 ∧ (Lib.join (l0.map (·.data.toList)) a1.data.toList).length ≤ 140737488355328 then some (joinB l0 a1) else none
theorem addr_plain {w : World} {ad : Addr} {v : Value} (h : w.cell? ad = some v) : ad = ⟨ad.block, ad.off, none⟩ := by
  obtain ⟨b, o, s⟩ := ad
  cases s with
  | none => rfl
  | some s =>
    unfold World.cell? at h
    simp only [Option.isSome_some, if_true] at h
    split at h <;> cases h
theorem strings_Join.calls (A0 : Option Addr) (c0 : Nat) (l0 : List ByteArray) (a1 : ByteArray) (r : ByteArray) (w : World) (hr0 : Kd.C Kd.string w A0 l0.length l0) (hc0 : l0.length ≤ c0) (h : strings_Join.f l0 a1 = some r) :
    Calls Tryz.prog 32 #[.slice A0 l0.length c0, .string a1] w fun e w' => e = .returned (.string r) ∧ Below w.heap.size w w' := by
  unfold strings_Join.f at h
  split at h
  · rename_i hc
    obtain rfl : joinB l0 a1 = r := Option.some.inj h
    by_cases h0 : l0 = []
    · subst h0
      exact (Tryz.strings_Join_none A0 c0 a1 w).mono fun e w' ⟨he, hw⟩ => ⟨he, hw ▸ Below.refl _ _⟩
    · have hpos : 0 < l0.length := List.length_pos_iff.2 h0
      obtain ⟨ad, rfl, hcell⟩ := hr0.2.2 hpos
      have hcs : ∀ (j : Nat) x, l0[j]? = some x → w.cell? (ad.add j) = some (.string x) := by
        intro j x hj
        obtain ⟨c, _, hK, hv⟩ := hcell j x hj
        have hK' : c = [.string x] := hK
        subst hK'
        have := hv 0 (.string x) rfl
        rwa [show j * Kd.string.sz + 0 = j by show j * 1 + 0 = j; omega] at this
      have hz := hcs 0 l0[0] (List.getElem?_eq_getElem hpos)
      have hz' : w.cell? ad = some (.string l0[0]) := by rw [show ad.add 0 = ad by simp [Addr.add]] at hz; exact hz
      have had := addr_plain hz'
      rw [had]
      refine Tryz.strings_Join ad.block ad.off c0 l0 a1 w (fun j x hj => ?_) (World.block_lt_of_cell? w ad hz') hc.1 hc0 hc.2
      have := hcs j x hj
      rw [had] at this
      unfold Addr.add at this
      by_cases hj0 : j = 0
      · subst hj0; simpa using this
      · simpa [hj0] using this
  · cases h
end Go.Proofs.YtbjekebkgidhaaaGreatDoor.P
end
section
set_option linter.unusedSimpArgs false
set_option linter.unusedVariables false
namespace Go.Proofs.YtbjekebkgidhaaaGreatDoor.Mf
open Go.RowKit Go.Lib Go.Shelf Go.Maps Go.Proofs.YtbjekebkgidhaaaGreatDoorW.PrintWords Go.Proofs.YtbjekebkgidhaaaGreatDoor.U Go.Proofs.YtbjekebkgidhaaaGreatDoor.Sc Go.Proofs.YtbjekebkgidhaaaGreatDoor.P Go.Proofs.YtbjekebkgidhaaaGreatDoor.MapV
structure Rest (B0 : Nat) (w : World) (g : Mem) (st : St) (i : Nat) : Prop where
  base : B0 ≤ w.heap.size
  new : ∀ b, g.role b ≠ .still → B0 ≤ b
  rr : g.role g.r = .reader
  hr : ∃ line : Nat, w.heap[g.r]? = some (.cells #[at0 g.fb, .map (some g.rm), g.ve, g.vd, .int .i64 (line : Int), g.vi, g.vo] 70 (0, 0))
  rf : g.role g.fb = .still
  hf : w.heap[g.fb]? = some (.cells #[.pointer none, .map (some g.fm)] 91 (0, 0))
  rfm : g.role g.fm = .fmap
  mf : OwnsM w g.fm g.n st.file
  sf : Short 16384 st.file
  rules : ∀ i (h : i < st.rules.length), RuleAt w g i st.rules[i]
  edges : ∀ j (h : j < st.edges.length), i ≤ j → EdgeAt B0 w g st.rules.length j st.edges[j]
  rows : ∀ j (h : j < st.edges.length), SlA B0 w g (g.e0 j) st.edges[j].outs ∧ SlA B0 w g (g.e1 j) st.edges[j].ins ∧ SlA B0 w g (g.e2 j) st.edges[j].imp ∧ SlA B0 w g (g.e3 j) st.edges[j].ord
  ne : st.edges.length ≤ 200
  oe : w.ownsRow B0 74 1 g.ve st.edges.length ((List.range st.edges.length).map fun j => at0 (g.eb j))
  roe : ∀ b, g.ve.ownBlock = some b → g.role b = .erow
  od : w.ownsRow B0 9 1 g.vd st.defs.length (st.defs.map fun t => Value.string (B t))
  rod : ∀ b, g.vd.ownBlock = some b → g.role b = .drow
theorem Inv.rest {B0 : Nat} {w : World} {g : Mem} {st : St} (h : Inv B0 w g st) : Rest B0 w g st 0 :=
  ⟨h.base, h.new, h.rr, ⟨_, h.hr⟩, h.rf, h.hf, h.rfm, h.mf, h.sf, h.rules, fun j hj _ => h.edges j hj, fun j hj => ⟨(h.edges j hj).s0, (h.edges j hj).s1, (h.edges j hj).s2, (h.edges j hj).s3⟩, h.ne, h.oe, h.roe, h.od, h.rod⟩
theorem Rest.step {B0 : Nat} {w w' : World} {g : Mem} {st : St} {i : Nat} (h : Rest B0 w g st i) (hi : i < st.edges.length) (hs : w.heap.size ≤ w'.heap.size) (hk : ∀ b, b < w.heap.size → b ≠ g.r → b ≠ g.eb i → b ≠ g.mb i → w'.heap[b]? = w.heap[b]?)
    (hr : ∃ line : Nat, w'.heap[g.r]? = some (.cells #[at0 g.fb, .map (some g.rm), g.ve, g.vd, .int .i64 (line : Int), g.vi, g.vo] 70 (0, 0))) : Rest B0 w' g st (i + 1) := by
  have he := h.edges i hi (Nat.le_refl _)
  have K : Grow st.rules.length st.edges.length (fun r => r = .reader ∨ r = .edge i ∨ r = .omap i) w w' g g :=
    ⟨hs, fun b hb hx => hk b hb (fun e => hx (.inl (by rw [e]; exact h.rr))) (fun e => hx (.inr (.inl (by rw [e]; exact he.re)))) (fun e => hx (.inr (.inr (by rw [e]; exact he.rm)))), fun _ _ => rfl, rfl, fun _ _ => ⟨rfl, rfl⟩, fun _ _ => ⟨rfl, rfl, rfl, rfl, rfl, rfl, rfl⟩, Nat.le_refl _⟩
  refine ⟨Nat.le_trans h.base hs, h.new, h.rr, hr, h.rf, K.blk h.hf h.rf (by simp), h.rfm, K.mapM h.mf h.rfm (by simp), h.sf, fun i hi => (h.rules i hi).grow K hi (by simp) (by simp), fun j hj hij => (h.edges j hj (by omega)).grow K hj (Nat.le_refl _) (by simp) (by simp; omega) (by simp; omega), ?_, h.ne, K.row h.oe h.roe (by simp), h.roe, K.row h.od h.rod (by simp), h.rod⟩
  intro j hj
  obtain ⟨a, b, c, d⟩ := h.rows j hj
  exact ⟨a.grow K (by simp), b.grow K (by simp), c.grow K (by simp), d.grow K (by simp)⟩
structure EW (B0 : Nat) (w0 w : World) (g : Mem) (st : St) (j : Nat) (e : EdgeS) (m : MapL) (n : Nat) (c d : Txt) : Prop where
  below : Below B0 w0 w
  size : w0.heap.size < w.heap.size
  same : ∀ b, b < w0.heap.size → b ≠ g.r → b ≠ g.eb j → b ≠ g.mb j → w.heap[b]? = w0.heap[b]?
  hr : w.heap[g.r]? = some (.cells #[at0 g.fb, .map (some g.rm), g.ve, g.vd, .int .i64 (e.line : Int), g.vi, g.vo] 70 (0, 0))
  he : w.heap[g.eb j]? = some (.cells #[g.e0 j, g.e1 j, g.e2 j, g.e3 j, .string (B c), .string (B d), at0 (g.rb e.rule), at0 (g.sb j), .int .i64 (e.line : Int)] 103 (0, 0))
  ch : Chain w [⟨g.sb j, g.mb j, n, m⟩, ⟨g.fb, g.fm, g.n, st.file⟩] (at0 (g.sb j))
  res : w.heap[w0.heap.size]? = some (.cells #[.slice none 0 0, .slice none 0 0, .slice none 0 0, .slice none 0 0, .string (B []), .string (B [])] 47 (0, 0))
section
variable {B0 : Nat} {w0 w w' : World} {g : Mem} {st : St} {j : Nat} {e : EdgeS} {m : MapL} {n : Nat} {c d : Txt}
theorem EW.more (h : EW B0 w0 w g st j e m n c d) (hB : B0 ≤ w0.heap.size) (hb : Below w.heap.size w w') : EW B0 w0 w' g st j e m n c d :=
  ⟨h.below.trans (hb.mono (by have := h.size; omega)), Nat.lt_of_lt_of_le h.size hb.size, fun b h1 h2 h3 h4 => (hb.block b (by have := h.size; omega)).trans (h.same b h1 h2 h3 h4), (hb.block _ (lt_blk h.hr)).trans h.hr, (hb.block _ (lt_blk h.he)).trans h.he, h.ch.below hb, (hb.block _ (lt_blk h.res)).trans h.res⟩
structure Apart (B0 : Nat) (w0 : World) (g : Mem) (st : St) (j : Nat) : Prop where
  rest : Rest B0 w0 g st j
  lt : j < st.edges.length
theorem Apart.ed (h : Apart B0 w0 g st j) : EdgeAt B0 w0 g st.rules.length j (st.edges[j]'h.lt) := h.rest.edges j h.lt (Nat.le_refl _)
theorem Apart.r_eb (h : Apart B0 w0 g st j) : g.r ≠ g.eb j := fun x => by have := h.rest.rr; rw [x, h.ed.re] at this; cases this
theorem Apart.r_mb (h : Apart B0 w0 g st j) : g.r ≠ g.mb j := fun x => by have := h.rest.rr; rw [x, h.ed.rm] at this; cases this
theorem Apart.eb_mb (h : Apart B0 w0 g st j) : g.eb j ≠ g.mb j := fun x => by have := h.ed.re; rw [x, h.ed.rm] at this; cases this
theorem Apart.sb_mb (h : Apart B0 w0 g st j) : g.sb j ≠ g.mb j := fun x => by have := h.ed.rs; rw [x, h.ed.rm] at this; cases this
theorem Apart.sb_eb (h : Apart B0 w0 g st j) : g.sb j ≠ g.eb j := fun x => by have := h.ed.rs; rw [x, h.ed.re] at this; cases this
theorem Apart.fb_mb (h : Apart B0 w0 g st j) : g.fb ≠ g.mb j := fun x => by have := h.rest.rf; rw [x, h.ed.rm] at this; cases this
theorem Apart.fb_eb (h : Apart B0 w0 g st j) : g.fb ≠ g.eb j := fun x => by have := h.rest.rf; rw [x, h.ed.re] at this; cases this
theorem Apart.fm_mb (h : Apart B0 w0 g st j) : g.fm ≠ g.mb j := fun x => by have := h.rest.rfm; rw [x, h.ed.rm] at this; cases this
theorem Apart.fm_eb (h : Apart B0 w0 g st j) : g.fm ≠ g.eb j := fun x => by have := h.rest.rfm; rw [x, h.ed.re] at this; cases this
theorem EW.set (h : EW B0 w0 w g st j e m n c d) (hA : Apart B0 w0 g st j) {k t : Txt} (hs : Stored w w' ⟨g.sb j, g.mb j, n, m⟩ k t) : EW B0 w0 w' g st j e (upd m k t) (n + 1) c d := by
  have hmb : B0 ≤ g.mb j := hA.rest.new _ (by rw [hA.ed.rm]; simp)
  have hsz := h.size
  have hb0 := hA.rest.base
  refine ⟨h.below.trans (hs.below (by omega) hmb), Nat.lt_of_lt_of_le h.size hs.size, fun b h1 h2 h3 h4 => (hs.keep b (by omega) h4).trans (h.same b h1 h2 h3 h4), (hs.keep _ (lt_blk h.hr) hA.r_mb).trans h.hr, (hs.keep _ (lt_blk h.he) hA.eb_mb).trans h.he, ?_, (hs.keep _ (lt_blk h.res) ?_).trans h.res⟩
  · exact Stored.head hs h.ch (fun x hx => by rw [List.mem_singleton.1 hx]; exact ⟨hA.fm_mb, hA.fb_mb⟩) hA.sb_mb
  · have := hA.ed.hm.lt
    show w0.heap.size ≠ g.mb j
    omega
theorem EW.put (h : EW B0 w0 w g st j e m n c d) (hA : Apart B0 w0 g st j) (i : Nat) (t c' d' : Txt)
    (hc : (#[g.e0 j, g.e1 j, g.e2 j, g.e3 j, .string (B c), .string (B d), at0 (g.rb e.rule), at0 (g.sb j), .int .i64 (e.line : Int)] : Array Value).setIfInBounds i (.string (B t)) = #[g.e0 j, g.e1 j, g.e2 j, g.e3 j, .string (B c'), .string (B d'), at0 (g.rb e.rule), at0 (g.sb j), .int .i64 (e.line : Int)]) :
    EW B0 w0 (w.setCell ⟨g.eb j, i, none⟩ (.string (B t))) g st j e m n c' d' := by
  have heb : B0 ≤ g.eb j := hA.rest.new _ (by rw [hA.ed.re]; simp)
  have hsz := h.size
  refine ⟨h.below.setCell heb _, by rw [World.size_setCell]; exact h.size, fun b h1 h2 h3 h4 => (Below.heap_setCell _ _ _ b h3).trans (h.same b h1 h2 h3 h4), (Below.heap_setCell _ _ _ _ hA.r_eb).trans h.hr, blk_put h.he i _ hc, ?_, (Below.heap_setCell _ _ _ _ ?_).trans h.res⟩
  · refine h.ch.same fun x hx => ?_
    rcases List.mem_cons.1 hx with rfl | hx
    · exact ⟨Below.heap_setCell _ _ _ _ hA.sb_eb, Below.heap_setCell _ _ _ _ hA.eb_mb.symm⟩
    · rw [List.mem_singleton.1 hx]; exact ⟨Below.heap_setCell _ _ _ _ hA.fb_eb, Below.heap_setCell _ _ _ _ hA.fm_eb⟩
  · have := lt_blk hA.ed.he
    show w0.heap.size ≠ g.eb j
    omega
theorem EW.rule (h : EW B0 w0 w g st j e m n c d) (hA : Apart B0 w0 g st j) (he : st.edges[j]'hA.lt = e) : ∃ r, st.rules[e.rule]? = some r ∧ Short 16384 r.texts ∧ w.cell? ⟨g.rb e.rule, 0, none⟩ = some (.map (some (g.tb e.rule))) ∧ OwnsM w (g.tb e.rule) g.n r.texts := by
  have h1 := hA.ed.lt
  rw [he] at h1
  have h2 := hA.rest.rules e.rule h1
  refine ⟨st.rules[e.rule], List.getElem?_eq_getElem h1, h2.sh, ?_, ?_⟩
  · have h3 := (h.same (g.rb e.rule) (lt_blk h2.hb) (fun x => by have := h2.rr; rw [x, hA.rest.rr] at this; cases this) (fun x => by have := h2.rr; rw [x, hA.ed.re] at this; cases this) (fun x => by have := h2.rr; rw [x, hA.ed.rm] at this; cases this)).trans h2.hb
    exact (cell_of_heap (j := 0) h3).trans rfl
  · exact h2.ht.same (h.same (g.tb e.rule) h2.ht.lt (fun x => by have := h2.rt; rw [x, hA.rest.rr] at this; cases this) (fun x => by have := h2.rt; rw [x, hA.ed.re] at this; cases this) (fun x => by have := h2.rt; rw [x, hA.ed.rm] at this; cases this))
theorem EW.cell (h : EW B0 w0 w g st j e m n c d) (i : Nat) : w.cell? ⟨g.eb j, i, none⟩ = #[g.e0 j, g.e1 j, g.e2 j, g.e3 j, .string (B c), .string (B d), at0 (g.rb e.rule), at0 (g.sb j), .int .i64 (e.line : Int)][i]? := by rw [cell_of_heap h.he]
theorem EW.free (h : EW B0 w0 w g st j e m n c d) (i : Nat) : w.frozen? ⟨g.eb j, i, none⟩ = false := frozen_of_heap h.he i
theorem EW.rcell (h : EW B0 w0 w g st j e m n c d) : w.cell? ⟨g.r, 4, none⟩ = some (.int .i64 (e.line : Int)) := (cell_of_heap (j := 4) h.hr).trans rfl
end
theorem joinS_len (l : List Txt) (M : Nat) (h : ∀ t ∈ l, t.length ≤ M) : (joinS l).length ≤ l.length * (M + 1) := by
  unfold joinS
  induction l with
  | nil => simp [List.intercalate]
  | cons x r ih =>
    have hx := h x (by simp)
    have ih := ih (fun t ht => h t (List.mem_cons_of_mem _ ht))
    cases r with
    | nil => simp [List.intercalate]; omega
    | cons y r =>
      have e : [32].intercalate (x :: y :: r) = x ++ [32] ++ [32].intercalate (y :: r) := by simp [List.intercalate, List.intersperse]
      rw [e, List.length_append, List.length_append, List.length_cons (a := x), Nat.add_mul]
      simp only [List.length_cons, List.length_nil] at *
      omega
theorem joinS_few {l : List Txt} (h : few l) : (joinS l).length ≤ 2020000 := Nat.le_trans (joinS_len l 100 h.2) (by have := h.1; omega)
theorem join_C (A : Option Addr) (c : Nat) (l : List Txt) (w : World) (hC : Kd.C Kd.string w A l.length (l.map B)) (hc : l.length ≤ c) (hf : few l) :
    Calls Tryz.prog 32 #[.slice A l.length c, .string ⟨#[32]⟩] w fun e w' => e = .returned (.string (B (joinS l))) ∧ Below w.heap.size w w' := by
  have hm : (l.map B).map (·.data.toList) = l := by
    rw [List.map_map]
    have : ((fun x : ByteArray => x.data.toList) ∘ B) = id := by funext x; simp [B]
    rw [this, List.map_id]
  have hj : Lib.join ((l.map B).map (·.data.toList)) (ByteArray.mk #[32]).data.toList = joinS l := by rw [hm]; rfl
  have hlen : (l.map B).length = l.length := List.length_map ..
  have hf' : strings_Join.f (l.map B) ⟨#[32]⟩ = some (B (joinS l)) := by
    unfold strings_Join.f
    have h1 := joinS_few hf
    have h2 := hf.1
    rw [if_pos ⟨by rw [hlen]; omega, by rw [hj]; omega⟩]
    unfold joinB
    rw [hj]
  have := strings_Join.calls A c (l.map B) ⟨#[32]⟩ (B (joinS l)) w (by rw [hlen]; exact hC) (by rw [hlen]; exact hc) hf'
  rw [hlen] at this
  exact this
section
variable {B0 : Nat} {w0 w w' : World} {g : Mem} {st : St} {j : Nat} {e : EdgeS} {m : MapL} {n : Nat} {c d : Txt}
theorem EW.rowC (h : EW B0 w0 w g st j e m n c d) (hA : Apart B0 w0 g st j) {v : Value} {l : List Txt} {A : Option Addr} {cp : Nat} (hs : SlA B0 w0 g v l) (hv : v = .slice A l.length cp) : l.length ≤ cp ∧ Kd.C Kd.string w A l.length (l.map B) := by
  have h1 : w.ownsRow B0 9 1 v l.length (strs l) := own_move hs.own fun b hb => h.same b (own_lt hs.own b hb) (fun x => by have := hs.rl b hb; rw [x, hA.rest.rr] at this; cases this) (fun x => by have := hs.rl b hb; rw [x, hA.ed.re] at this; cases this) (fun x => by have := hs.rl b hb; rw [x, hA.ed.rm] at this; cases this)
  obtain ⟨A', c', e1, h2, h3⟩ := own_slice h1
  rw [hv] at e1
  injection e1 with e1 e2 e3
  subst e1 e3
  exact ⟨h2, h3⟩
theorem EW.s4 (h : EW B0 w0 w g st j e m n c d) (hA : Apart B0 w0 g st j) (he : st.edges[j]'hA.lt = e) {r : RuleS} (hr : st.rules[e.rule]? = some r) (key : Txt) (hk : key.length ≤ maxLen) :
    w.cell? ⟨g.eb j, 7, none⟩ = some (at0 (g.sb j)) ∧ w.cell? ⟨g.eb j, 6, none⟩ = some (at0 (g.rb e.rule)) ∧ w.cell? ⟨g.rb e.rule, 0, none⟩ = some (.map (some (g.tb e.rule))) ∧
      (Instr.lookup 89 (.map (some (g.tb e.rule))) (.string (B key)) false).run Tryz.prog w = .ok (.string (B ((r.texts key).getD []))) w := by
  obtain ⟨r', h1, _, h2, h3⟩ := h.rule hA he
  rw [hr] at h1
  injection h1 with h1
  subst h1
  exact ⟨(h.cell 7).trans rfl, (h.cell 6).trans rfl, h2, look0 h3 key hk⟩
end
end Go.Proofs.YtbjekebkgidhaaaGreatDoor.Mf
end
section
set_option linter.unusedSimpArgs false
set_option linter.unusedVariables false
namespace Go.Proofs.YtbjekebkgidhaaaGreatDoor.Mf
open Go.RowKit Go.Lib Go.Shelf Go.Maps Go.Proofs.YtbjekebkgidhaaaGreatDoorW.PrintWords Go.Proofs.YtbjekebkgidhaaaGreatDoor.U Go.Proofs.YtbjekebkgidhaaaGreatDoor.Sc Go.Proofs.YtbjekebkgidhaaaGreatDoor.P Go.Proofs.YtbjekebkgidhaaaGreatDoor.MapV
def Ends (B0 : Nat) (g : Mem) (st : St) (j : Nat) (r : Except Er EdgeO) (w : World) (e : Ending) (w' : World) : Prop :=
  match r with
  | .ok x => e = .returned (.agg #[g.e0 j, g.e1 j, g.e2 j, g.e3 j, .string (B x.command), .string (B x.depfile)]) ∧ Rest B0 w' g st (j + 1) ∧ Below B0 w w' ∧ (∀ b, b < w.heap.size → b ≠ g.r → b ≠ g.eb j → b ≠ g.mb j → w'.heap[b]? = w.heap[b]?) ∧ x.outs = (st.edges[j]?.map (·.outs)).getD [] ∧ x.ins = (st.edges[j]?.map (·.ins)).getD [] ∧ x.imp = (st.edges[j]?.map (·.imp)).getD [] ∧ x.ord = (st.edges[j]?.map (·.ord)).getD []
  | .error x => e = wr x.1 x.2 ∧ Below B0 w w'
theorem Ends.fin {B0 : Nat} {g : Mem} {st : St} {j : Nat} {r : Except Er EdgeO} {w w' : World} {x : EdgeO} {c d : Txt} (h : r = .ok x) (hc : x.command = c) (hd : x.depfile = d) (hr : Rest B0 w' g st (j + 1)) (hb : Below B0 w w') (hk : ∀ b, b < w.heap.size → b ≠ g.r → b ≠ g.eb j → b ≠ g.mb j → w'.heap[b]? = w.heap[b]?) {e : EdgeS} (he : st.edges[j]? = some e) (ho : x.outs = e.outs) (hi : x.ins = e.ins) (hm : x.imp = e.imp) (hd' : x.ord = e.ord) :
    Ends B0 g st j r w (.returned (.agg #[g.e0 j, g.e1 j, g.e2 j, g.e3 j, .string (B c), .string (B d)])) w' := by
  subst h hc hd; exact ⟨rfl, hr, hb, hk, by rw [he]; exact ho, by rw [he]; exact hi, by rw [he]; exact hm, by rw [he]; exact hd'⟩
theorem Ends.fin4 {B0 : Nat} {g : Mem} {st : St} {j : Nat} {r : Except Er EdgeO} {w w' : World} {x : EdgeO} {c d : Txt} {v0 v1 v2 v3 : Value} (h : r = .ok x) (hc : x.command = c) (hd : x.depfile = d) (h0 : g.e0 j = v0) (h1 : g.e1 j = v1) (h2 : g.e2 j = v2) (h3 : g.e3 j = v3)
    (hr : Rest B0 w' g st (j + 1)) (hb : Below B0 w w') (hk : ∀ b, b < w.heap.size → b ≠ g.r → b ≠ g.eb j → b ≠ g.mb j → w'.heap[b]? = w.heap[b]?) {e : EdgeS} (he : st.edges[j]? = some e) (ho : x.outs = e.outs) (hi : x.ins = e.ins) (hm : x.imp = e.imp) (hd' : x.ord = e.ord) : Ends B0 g st j r w (.returned (.agg #[v0, v1, v2, v3, .string (B c), .string (B d)])) w' := by
  subst h0 h1 h2 h3; exact Ends.fin h hc hd hr hb hk he ho hi hm hd'
theorem Ends.bad {B0 : Nat} {g : Mem} {st : St} {j : Nat} {r : Except Er EdgeO} {w w' : World} {l : Nat} {c : Int} (h : r = .error (l, c)) (hb : Below B0 w w') : Ends B0 g st j r w (wr l c) w' := by
  subst h; exact ⟨rfl, hb⟩
theorem endsE_eq (file : MapL) (rules : List RuleS) (e : EdgeS) (r : RuleS) (hr : rules[e.rule]? = some r) : endsE file rules e =
    match expE e.line [upd (upd e.own kIn (joinS e.ins)) kOut (joinS e.outs), file] ((r.texts kCommand).getD []) with
    | .error x => .error x
    | .ok c => if c = [] then .error (e.line, 10) else
      match expE e.line [upd (upd e.own kIn (joinS e.ins)) kOut (joinS e.outs), file] ((r.texts kDepfile).getD []) with
      | .error x => .error x
      | .ok d => if d = [] then .ok ⟨e.outs, e.ins, e.imp, e.ord, c, []⟩ else
        match cleanE e.line d with
        | .error x => .error x
        | .ok p => .ok ⟨e.outs, e.ins, e.imp, e.ord, c, p⟩ := by
  unfold endsE; simp only [hr]; rfl
theorem EW.fin {B0 : Nat} {w0 w : World} {g : Mem} {st : St} {j : Nat} {e : EdgeS} {m : MapL} {n : Nat} {c d : Txt} (h : EW B0 w0 w g st j e m n c d) (hA : Apart B0 w0 g st j) : Rest B0 w g st (j + 1) :=
  hA.rest.step hA.lt (Nat.le_of_lt h.size) h.same ⟨_, h.hr⟩
theorem EW.fin2 {B0 : Nat} {w0 w w' : World} {g : Mem} {st : St} {j : Nat} {e : EdgeS} {m : MapL} {n : Nat} {c d : Txt} (h : EW B0 w0 w g st j e m n c d) (hA : Apart B0 w0 g st j) (hs : w.heap.size ≤ w'.heap.size) (hk : ∀ b, b < w0.heap.size → w'.heap[b]? = w.heap[b]?) : Rest B0 w' g st (j + 1) := by
  obtain ⟨ln, hr⟩ := hA.rest.hr
  exact hA.rest.step hA.lt (Nat.le_trans (Nat.le_of_lt h.size) hs) (fun b h1 h2 h3 h4 => (hk b h1).trans (h.same b h1 h2 h3 h4)) ⟨_, (hk _ (lt_blk hr)).trans h.hr⟩
theorem EW.exp {B0 : Nat} {w0 w : World} {g : Mem} {st : St} {j : Nat} {e : EdgeS} {m : MapL} {n : Nat} {c d : Txt} (h : EW B0 w0 w g st j e m n c d) (hA : Apart B0 w0 g st j) (hm : Short 3000000 m) (text : Txt) (hl : text.length ≤ 1000000) :
    Calls Tryz.prog 47 #[at0 g.r, at0 (g.sb j), .string (B text)] w (Gives (expE e.line [m, st.file] text) (fun x => .string (B x)) w) :=
  expanded_any g.r e.line [⟨g.sb j, g.mb j, n, m⟩, ⟨g.fb, g.fm, g.n, st.file⟩] (at0 (g.sb j)) text w h.rcell (lt_blk h.hr) (by omega)
    (fun k => Nat.lt_of_le_of_lt (getL_short (M := 3000000) (fun s hs => by
      rcases List.mem_cons.1 hs with rfl | hs
      · exact hm
      · rw [List.mem_singleton.1 hs]; exact hA.rest.sf.mono (by decide)) k) (by decide)) h.ch
set_option maxRecDepth 100000 in
set_option maxHeartbeats 16000000 in
theorem ends_any (B0 : Nat) (g : Mem) (st : St) (j : Nat) (w : World) (hRe : Rest B0 w g st j) (hj : j < st.edges.length) (hgn : g.n < 900000) :
    Calls Tryz.prog 23 #[at0 g.r, at0 (g.eb j)] w (Ends B0 g st j (endsE st.file st.rules st.edges[j]) w) := by
  have hA : Hid (Apart B0 w g st j) := ⟨hRe, hj⟩
  have hE := hA.out.ed
  obtain ⟨e, hee⟩ : ∃ e, st.edges[j] = e := ⟨_, rfl⟩
  have hEe : Hid (st.edges[j] = e) := hee
  rw [hee] at hE ⊢
  have hB0 := hRe.base
  have hg0 := hRe.new g.r (by rw [hRe.rr]; decide)
  have hebB := hRe.new (g.eb j) (by rw [hE.re]; simp)
  obtain ⟨r, hr⟩ : ∃ r, st.rules[e.rule]? = some r := ⟨_, List.getElem?_eq_getElem hE.lt⟩
  have hrs : Short 16384 r.texts := by
    have h1 := (hRe.rules e.rule hE.lt).sh
    have h2 := hr
    rw [List.getElem?_eq_getElem hE.lt] at h2
    injection h2 with h2
    rw [h2] at h1; exact h1
  have hPl := Lib.hid (endsE_eq st.file st.rules e r hr)
  have hrH := Lib.hid hr
  obtain ⟨A0, k0, hv0, hl0, _⟩ := own_slice hE.s0.own
  obtain ⟨A1, k1, hv1, hl1, _⟩ := own_slice hE.s1.own
  obtain ⟨A2, k2, hv2, _, _⟩ := own_slice hE.s2.own
  obtain ⟨A3, k3, hv3, _, _⟩ := own_slice hE.s3.own
  have hV2 := Lib.hid hv2
  have hV3 := Lib.hid hv3
  have hs0 := Lib.hid hE.s0
  have hs1 := Lib.hid hE.s1
  have hf0 := Lib.hid hE.f0
  have hf1 := Lib.hid hE.f1
  have hV0 := Lib.hid hv0
  have hV1 := Lib.hid hv1
  have hsho := Lib.hid hE.sh
  have hJ1 := joinS_few hE.f1
  have hJ0 := joinS_few hE.f0
  have hM1 : Hid (Short 3000000 (upd e.own kIn (joinS e.ins))) := (hE.sh.mono (by decide)).upd (by omega)
  have hM2 : Hid (Short 3000000 (upd (upd e.own kIn (joinS e.ins)) kOut (joinS e.outs))) := hM1.out.upd (by omega)
  obtain ⟨ln, hrb⟩ := hRe.hr
  have c4 : w.cell? ⟨g.r, 4, none⟩ = some (.int .i64 (ln : Int)) := (cell_of_heap (j := 4) hrb).trans rfl
  have f4 : w.frozen? ⟨g.r, 4, none⟩ = false := frozen_of_heap hrb 4
  have c8 : w.cell? ⟨g.eb j, 8, none⟩ = some (.int .i64 (e.line : Int)) := (cell_of_heap (j := 8) hE.he).trans rfl
  have hrlt := lt_blk hrb
  have helt := lt_blk hE.he
  have hsz : (w.setCell ⟨g.r, 4, none⟩ (.int .i64 (e.line : Int))).heap.size = w.heap.size := by simp
  have hE1 : Hid (EW B0 w ((w.setCell ⟨g.r, 4, none⟩ (.int .i64 (e.line : Int))).alloc (.cells #[.slice none 0 0, .slice none 0 0, .slice none 0 0, .slice none 0 0, .string ⟨#[]⟩, .string ⟨#[]⟩] 47)) g st j e e.own g.n [] []) := by
    have hb : Below (w.setCell ⟨g.r, 4, none⟩ (.int .i64 (e.line : Int))).heap.size (w.setCell ⟨g.r, 4, none⟩ (.int .i64 (e.line : Int))) ((w.setCell ⟨g.r, 4, none⟩ (.int .i64 (e.line : Int))).alloc (.cells #[.slice none 0 0, .slice none 0 0, .slice none 0 0, .slice none 0 0, .string ⟨#[]⟩, .string ⟨#[]⟩] 47)) := (Below.refl _ _).alloc (Nat.le_refl _) _
    have hk : ∀ b, b < w.heap.size → b ≠ g.r → ((w.setCell ⟨g.r, 4, none⟩ (.int .i64 (e.line : Int))).alloc (.cells #[.slice none 0 0, .slice none 0 0, .slice none 0 0, .slice none 0 0, .string ⟨#[]⟩, .string ⟨#[]⟩] 47)).heap[b]? = w.heap[b]? := fun b hb1 hb2 => (hb.block b (by rw [hsz]; exact hb1)).trans (Below.heap_setCell _ _ _ b hb2)
    have hrr := hA.out.rest.rr
    refine ⟨((Below.refl _ _).setCell hg0 _).alloc (by rw [hsz]; exact hB0) _, by simp, fun b h1 h2 _ _ => hk b h1 h2, (hb.block _ (by rw [hsz]; exact hrlt)).trans (blk_put hrb 4 _ rfl), (hk _ helt hA.out.r_eb.symm).trans hE.he, ?_, ?_⟩
    · refine Chain.same (w := w) ⟨rfl, _, hE.hs, hE.hm, rfl, _, hRe.hf, hRe.mf, rfl⟩ fun x hx => ?_
      rcases List.mem_cons.1 hx with rfl | hx
      · exact ⟨hk _ (lt_blk hE.hs) (fun x => by have := hE.rs; rw [show g.sb j = g.r from x, hrr] at this; cases this), hk _ hE.hm.lt (fun x => by have := hE.rm; rw [show g.mb j = g.r from x, hrr] at this; cases this)⟩
      · rw [List.mem_singleton.1 hx]
        exact ⟨hk _ (lt_blk hRe.hf) (fun x => by have := hRe.rf; rw [show g.fb = g.r from x, hrr] at this; cases this), hk _ hRe.mf.lt (fun x => by have := hRe.rfm; rw [show g.fm = g.r from x, hrr] at this; cases this)⟩
    · have := heap_alloc_new (w.setCell ⟨g.r, 4, none⟩ (.int .i64 (e.line : Int))) (.cells #[.slice none 0 0, .slice none 0 0, .slice none 0 0, .slice none 0 0, .string ⟨#[]⟩, .string ⟨#[]⟩] 47)
      rw [hsz] at this; exact this
  clear hRe hE hee hr hv0 hv1 hv2 hv3 hrb hsz
  go_enter Tryz.func23, Tryz.ntmps23
  go_upto_region 2 with (fail)
  generalize ((w.setCell ⟨g.r, 4, none⟩ (.int .i64 (e.line : Int))).alloc (.cells #[.slice none 0 0, .slice none 0 0, .slice none 0 0, .slice none 0 0, .string ⟨#[]⟩, .string ⟨#[]⟩] 47)) = w1 at *
  clear c4 f4 c8
  go_wp2_with fail
  refine RegP.regionH (fun w' => w'.cell? ⟨g.eb j, 7, none⟩ = some (at0 (g.sb j)) ∧ w'.cell? ⟨g.eb j, 1, none⟩ = some (.slice A1 e.ins.length k1)) [(0, 0), (0, 1), (0, 2), (1, 3), (0, 4), (0, 5), (0, 6), (0, 7), (1, 8), (2, 9), (2, 10)] (by kernel_rfl) (by kernel_rfl) (by rfl) (by kernel_rfl) (by exact ⟨((hE1.out.more hB0 (Below.refl _ _).drew).cell 7).trans rfl, ((hE1.out.more hB0 (Below.refl _ _).drew).cell 1).trans (congrArg some hV1.out)⟩) ?_
  refine RegP.pure1 (by (simp only [gA,gB,gC]); rfl) (by exact fun _ _ _ h => h) (by rfl) (by intro w'; go_simp; try with_reducible rfl) ?_
  try simp only [Act.put, pA,pB,pC]
  refine RegP.pure1 (by (simp only [gA,gB,gC]); rfl) (by exact fun _ _ _ h => h) (by rfl) (by intro w'; go_simp; try with_reducible rfl) ?_
  try simp only [Act.put, pA,pB,pC]
  refine RegP.pure1 (by (simp only [gA,gB,gC]); rfl) (by exact fun _ _ _ h => h) (by rfl) (by intro w'; go_simp; try with_reducible rfl) ?_
  try simp only [Act.put, pA,pB,pC]
  refine RegP.held1 (by (simp only [gA,gB,gC]); rfl) (by exact fun _ _ _ h => h) (by rfl) (by intro w' hS_; (try dsimp only at hS_); go_split_ands; go_simp; try with_reducible rfl) ?_
  try simp only [Act.put, pA,pB,pC]
  refine RegP.pure1 (by (simp only [gA,gB,gC]); rfl) (by exact fun _ _ _ h => h) (by rfl) (by intro w'; go_simp; try with_reducible rfl) ?_
  try simp only [Act.put, pA,pB,pC]
  refine RegP.pure1 (by (simp only [gA,gB,gC]); rfl) (by exact fun _ _ _ h => h) (by rfl) (by intro w'; go_simp; try with_reducible rfl) ?_
  try simp only [Act.put, pA,pB,pC]
  refine RegP.pure1 (by (simp only [gA,gB,gC]); rfl) (by exact fun _ _ _ h => h) (by rfl) (by intro w'; go_simp; try with_reducible rfl) ?_
  try simp only [Act.put, pA,pB,pC]
  refine RegP.pure1 (by (simp only [gA,gB,gC]); rfl) (by exact fun _ _ _ h => h) (by rfl) (by intro w'; go_simp; try with_reducible rfl) ?_
  try simp only [Act.put, pA,pB,pC]
  refine RegP.held1 (by (simp only [gA,gB,gC]); rfl) (by exact fun _ _ _ h => h) (by rfl) (by intro w' hS_; (try dsimp only at hS_); go_split_ands; go_simp; try with_reducible rfl) ?_
  try simp only [Act.put, pA,pB,pC]
  refine RegP.ev1 (by (simp only [gA,gB,gC]); rfl) (fun K hK => ?_)
  have hC := hE1.out.rowC hA.out hs1.out hV1.out
  go_simp
  refine (join_C A1 k1 e.ins _ (Kd.C_below hC.2 (Below.refl _ _).drew) hC.1 hf1.out).mono ?_
  rintro e' w2 ⟨rfl, hb⟩
  have hE2 := Lib.hid (hE1.out.more hB0 (((Below.refl _ _).drew).trans hb))
  clear hC hb
  refine hK.out _ _ ?_ (fun hHeld => ?_)
  · (try dsimp only); exact ⟨(hE2.out.cell 7).trans rfl, (hE2.out.cell 1).trans (congrArg some hV1.out)⟩
  clear hK K
  try simp only [Act.put, pA,pB,pC]
  refine RegP.ev1 (by (simp only [gA,gB,gC]); rfl) (fun K hK => ?_)
  go_simp
  refine (Set_ok ⟨g.sb j, g.mb j, g.n, e.own⟩ [⟨g.fb, g.fm, g.n, st.file⟩] (at0 (g.sb j)) kIn (joinS e.ins) (by decide) (by decide) (by unfold maxLen; omega) (by show g.n < 1000000; omega) _ hE2.out.ch).mono ?_
  rintro e' w3 ⟨rfl, hst⟩
  have hE3 := Lib.hid (hE2.out.set hA.out hst)
  clear hst
  refine hK.out _ _ ?_ (fun hHeld => ?_)
  · (try dsimp only); exact ⟨(hE3.out.cell 7).trans rfl, (hE3.out.cell 1).trans (congrArg some hV1.out)⟩
  clear hK K
  try simp only [Act.put, pA,pB,pC]
  refine RegP.done1 ?_
  clear hHeld
  try dsimp only
  go_wp2_with fail
  refine RegP.regionH (fun w' => w'.cell? ⟨g.eb j, 7, none⟩ = some (at0 (g.sb j)) ∧ w'.cell? ⟨g.eb j, 0, none⟩ = some (.slice A0 e.outs.length k0)) [(0, 0), (0, 1), (0, 2), (1, 3), (0, 4), (0, 5), (0, 6), (0, 7), (1, 8), (2, 9), (2, 10)] (by kernel_rfl) (by kernel_rfl) (by rfl) (by kernel_rfl) (by exact ⟨((hE3.out.more hB0 (Below.refl _ _).drew).cell 7).trans rfl, ((hE3.out.more hB0 (Below.refl _ _).drew).cell 0).trans (congrArg some hV0.out)⟩) ?_
  refine RegP.pure1 (by (simp only [gA,gB,gC]); rfl) (by exact fun _ _ _ h => h) (by rfl) (by intro w'; go_simp; try with_reducible rfl) ?_
  try simp only [Act.put, pA,pB,pC]
  refine RegP.pure1 (by (simp only [gA,gB,gC]); rfl) (by exact fun _ _ _ h => h) (by rfl) (by intro w'; go_simp; try with_reducible rfl) ?_
  try simp only [Act.put, pA,pB,pC]
  refine RegP.pure1 (by (simp only [gA,gB,gC]); rfl) (by exact fun _ _ _ h => h) (by rfl) (by intro w'; go_simp; try with_reducible rfl) ?_
  try simp only [Act.put, pA,pB,pC]
  refine RegP.held1 (by (simp only [gA,gB,gC]); rfl) (by exact fun _ _ _ h => h) (by rfl) (by intro w' hS_; (try dsimp only at hS_); go_split_ands; go_simp; try with_reducible rfl) ?_
  try simp only [Act.put, pA,pB,pC]
  refine RegP.pure1 (by (simp only [gA,gB,gC]); rfl) (by exact fun _ _ _ h => h) (by rfl) (by intro w'; go_simp; try with_reducible rfl) ?_
  try simp only [Act.put, pA,pB,pC]
  refine RegP.pure1 (by (simp only [gA,gB,gC]); rfl) (by exact fun _ _ _ h => h) (by rfl) (by intro w'; go_simp; try with_reducible rfl) ?_
  try simp only [Act.put, pA,pB,pC]
  refine RegP.pure1 (by (simp only [gA,gB,gC]); rfl) (by exact fun _ _ _ h => h) (by rfl) (by intro w'; go_simp; try with_reducible rfl) ?_
  try simp only [Act.put, pA,pB,pC]
  refine RegP.pure1 (by (simp only [gA,gB,gC]); rfl) (by exact fun _ _ _ h => h) (by rfl) (by intro w'; go_simp; try with_reducible rfl) ?_
  try simp only [Act.put, pA,pB,pC]
  refine RegP.held1 (by (simp only [gA,gB,gC]); rfl) (by exact fun _ _ _ h => h) (by rfl) (by intro w' hS_; (try dsimp only at hS_); go_split_ands; go_simp; try with_reducible rfl) ?_
  try simp only [Act.put, pA,pB,pC]
  refine RegP.ev1 (by (simp only [gA,gB,gC]); rfl) (fun K hK => ?_)
  have hC := hE3.out.rowC hA.out hs0.out hV0.out
  go_simp
  refine (join_C A0 k0 e.outs _ (Kd.C_below hC.2 (Below.refl _ _).drew) hC.1 hf0.out).mono ?_
  rintro e' w4 ⟨rfl, hb⟩
  have hE4 := Lib.hid (hE3.out.more hB0 (((Below.refl _ _).drew).trans hb))
  clear hC hb
  refine hK.out _ _ ?_ (fun hHeld => ?_)
  · (try dsimp only); exact ⟨(hE4.out.cell 7).trans rfl, (hE4.out.cell 0).trans (congrArg some hV0.out)⟩
  clear hK K
  try simp only [Act.put, pA,pB,pC]
  refine RegP.ev1 (by (simp only [gA,gB,gC]); rfl) (fun K hK => ?_)
  go_simp
  refine (Set_ok ⟨g.sb j, g.mb j, (g.n + 1), (upd e.own kIn (joinS e.ins))⟩ [⟨g.fb, g.fm, g.n, st.file⟩] (at0 (g.sb j)) kOut (joinS e.outs) (by decide) (by decide) (by unfold maxLen; omega) (by show (g.n + 1) < 1000000; omega) _ hE4.out.ch).mono ?_
  rintro e' w5 ⟨rfl, hst⟩
  have hE5 := Lib.hid (hE4.out.set hA.out hst)
  clear hst
  refine hK.out _ _ ?_ (fun hHeld => ?_)
  · (try dsimp only); exact ⟨(hE5.out.cell 7).trans rfl, (hE5.out.cell 0).trans (congrArg some hV0.out)⟩
  clear hK K
  try simp only [Act.put, pA,pB,pC]
  refine RegP.done1 ?_
  clear hHeld
  try dsimp only
  go_wp2_with fail
  refine RegP.regionH (fun w' => w'.cell? ⟨g.eb j, 7, none⟩ = some (at0 (g.sb j)) ∧ w'.cell? ⟨g.eb j, 6, none⟩ = some (at0 (g.rb e.rule)) ∧ w'.cell? ⟨g.rb e.rule, 0, none⟩ = some (.map (some (g.tb e.rule))) ∧ (Instr.lookup 89 (.map (some (g.tb e.rule))) (.string ⟨#[99, 111, 109, 109, 97, 110, 100]⟩) false).run Tryz.prog w' = .ok (.string (B ((r.texts kCommand).getD []))) w') [(0, 0), (0, 1), (0, 2), (0, 3), (0, 4), (1, 5), (0, 6), (0, 7), (0, 8), (1, 9), (0, 10), (0, 11), (1, 12), (1, 13), (2, 14), (0, 15), (0, 16), (0, 17), (2, 18)] (by kernel_rfl) (by kernel_rfl) (by rfl) (by kernel_rfl) (by exact (hE5.out.more hB0 (Below.refl _ _).drew).s4 hA.out hEe.out hrH.out kCommand (by decide)) ?_
  refine RegP.pure1 (by (simp only [gA,gB,gC]); rfl) (by exact fun _ _ _ h => h) (by rfl) (by intro w'; go_simp; try with_reducible rfl) ?_
  try simp only [Act.put, pA,pB,pC]
  refine RegP.pure1 (by (simp only [gA,gB,gC]); rfl) (by exact fun _ _ _ h => h) (by rfl) (by intro w'; go_simp; try with_reducible rfl) ?_
  try simp only [Act.put, pA,pB,pC]
  refine RegP.pure1 (by (simp only [gA,gB,gC]); rfl) (by exact fun _ _ _ h => h) (by rfl) (by intro w'; go_simp; try with_reducible rfl) ?_
  try simp only [Act.put, pA,pB,pC]
  refine RegP.pure1 (by (simp only [gA,gB,gC]); rfl) (by exact fun _ _ _ h => h) (by rfl) (by intro w'; go_simp; try with_reducible rfl) ?_
  try simp only [Act.put, pA,pB,pC]
  refine RegP.pure1 (by (simp only [gA,gB,gC]); rfl) (by exact fun _ _ _ h => h) (by rfl) (by intro w'; go_simp; try with_reducible rfl) ?_
  try simp only [Act.put, pA,pB,pC]
  refine RegP.held1 (by (simp only [gA,gB,gC]); rfl) (by exact fun _ _ _ h => h) (by rfl) (by intro w' hS_; (try dsimp only at hS_); go_split_ands; go_simp; try with_reducible rfl) ?_
  try simp only [Act.put, pA,pB,pC]
  refine RegP.pure1 (by (simp only [gA,gB,gC]); rfl) (by exact fun _ _ _ h => h) (by rfl) (by intro w'; go_simp; try with_reducible rfl) ?_
  try simp only [Act.put, pA,pB,pC]
  refine RegP.pure1 (by (simp only [gA,gB,gC]); rfl) (by exact fun _ _ _ h => h) (by rfl) (by intro w'; go_simp; try with_reducible rfl) ?_
  try simp only [Act.put, pA,pB,pC]
  refine RegP.pure1 (by (simp only [gA,gB,gC]); rfl) (by exact fun _ _ _ h => h) (by rfl) (by intro w'; go_simp; try with_reducible rfl) ?_
  try simp only [Act.put, pA,pB,pC]
  refine RegP.held1 (by (simp only [gA,gB,gC]); rfl) (by exact fun _ _ _ h => h) (by rfl) (by intro w' hS_; (try dsimp only at hS_); go_split_ands; go_simp; try with_reducible rfl) ?_
  try simp only [Act.put, pA,pB,pC]
  refine RegP.pure1 (by (simp only [gA,gB,gC]); rfl) (by exact fun _ _ _ h => h) (by rfl) (by intro w'; go_simp; try with_reducible rfl) ?_
  try simp only [Act.put, pA,pB,pC]
  refine RegP.pure1 (by (simp only [gA,gB,gC]); rfl) (by exact fun _ _ _ h => h) (by rfl) (by intro w'; go_simp; try with_reducible rfl) ?_
  try simp only [Act.put, pA,pB,pC]
  refine RegP.held1 (by (simp only [gA,gB,gC]); rfl) (by exact fun _ _ _ h => h) (by rfl) (by intro w' hS_; (try dsimp only at hS_); go_split_ands; go_simp; try with_reducible rfl) ?_
  try simp only [Act.put, pA,pB,pC]
  refine RegP.held1 (by (simp only [gA,gB,gC]); rfl) (by exact fun _ _ _ h => h) (by rfl) (by intro w' hS_; (try dsimp only at hS_); go_split_ands; go_simp; try with_reducible rfl) ?_
  try simp only [Act.put, pA,pB,pC]
  refine RegP.ev1 (by (simp only [gA,gB,gC]); rfl) (fun K hK => ?_)
  rcases hp4 : expE e.line [(upd (upd e.own kIn (joinS e.ins)) kOut (joinS e.outs)), st.file] ((r.texts kCommand).getD []) with ⟨l1, e1⟩ | cm
  · have hR : Hid (endsE st.file st.rules e = .error (l1, e1)) := by show _ = _; rw [hPl.out]; simp only [hp4]
    go_simp
    have hP := (hE5.out.more hB0 (Below.refl _ _).drew).exp hA.out hM2.out ((r.texts kCommand).getD []) (show ((r.texts kCommand).getD []).length ≤ 1000000 from by cases hq : r.texts kCommand with | none => simp | some t => have := hrs _ _ hq; simp; omega)
    rw [hp4] at hP
    refine hP.mono ?_
    rintro e' w9 ⟨rfl, hb⟩
    exact ⟨rfl, Ends.bad hR.out (hE5.out.more hB0 (((Below.refl _ _).drew).trans hb)).below⟩
  go_simp
  have hP := (hE5.out.more hB0 (Below.refl _ _).drew).exp hA.out hM2.out ((r.texts kCommand).getD []) (show ((r.texts kCommand).getD []).length ≤ 1000000 from by cases hq : r.texts kCommand with | none => simp | some t => have := hrs _ _ hq; simp; omega)
  rw [hp4] at hP
  refine hP.mono ?_
  rintro e' w6 ⟨rfl, hb⟩
  have hE6 := Lib.hid (hE5.out.more hB0 (((Below.refl _ _).drew).trans hb))
  clear hP hb
  refine hK.out _ _ ?_ (fun hHeld => ?_)
  · (try dsimp only); exact hE6.out.s4 hA.out hEe.out hrH.out kCommand (by decide)
  clear hK K
  try simp only [Act.put, pA,pB,pC]
  refine RegP.pure1 (by (simp only [gA,gB,gC]); rfl) (by exact fun _ _ _ h => h) (by rfl) (by intro w'; go_simp; try with_reducible rfl) ?_
  try simp only [Act.put, pA,pB,pC]
  refine RegP.pure1 (by (simp only [gA,gB,gC]); rfl) (by exact fun _ _ _ h => h) (by rfl) (by intro w'; go_simp; try with_reducible rfl) ?_
  try simp only [Act.put, pA,pB,pC]
  refine RegP.pure1 (by (simp only [gA,gB,gC]); rfl) (by exact fun _ _ _ h => h) (by rfl) (by intro w'; go_simp; try with_reducible rfl) ?_
  try simp only [Act.put, pA,pB,pC]
  refine RegP.ev1 (by (simp only [gA,gB,gC]); rfl) (fun K hK => ?_)
  have cc := (hE6.out.cell 4).trans rfl
  have ff := hE6.out.free 4
  go_simp
  have hE7 : Hid (EW B0 w (w6.setCell ⟨g.eb j, 4, none⟩ (.string (B cm))) g st j e (upd (upd e.own kIn (joinS e.ins)) kOut (joinS e.outs)) (g.n + 1 + 1) cm []) := hE6.out.put hA.out 4 cm _ _ rfl
  clear cc ff
  generalize w6.setCell ⟨g.eb j, 4, none⟩ (.string (B cm)) = w7 at *
  refine hK.out _ _ ?_ (fun hHeld => ?_)
  · (try dsimp only); exact hE7.out.s4 hA.out hEe.out hrH.out kCommand (by decide)
  clear hK K
  try simp only [Act.put, pA,pB,pC]
  refine RegP.done1 ?_
  clear hHeld
  try dsimp only
  by_cases hc : cm = []
  · have hR : Hid (endsE st.file st.rules e = .error (e.line, 10)) := by show _ = _; rw [hPl.out]; simp only [hp4, if_pos hc]
    subst hc
    have cc : w7.cell? ⟨g.eb j, 4, none⟩ = some (.string (B [])) := (hE7.out.cell 4).trans rfl
    clear hp4
    go_wp2_with fail
    refine (need_no g.r e.line 10 _ hE7.out.rcell).mono ?_
    rintro e' w8 ⟨rfl, rfl⟩
    exact ⟨rfl, Ends.bad hR.out hE7.out.below⟩
  have cc : w7.cell? ⟨g.eb j, 4, none⟩ = some (.string (B cm)) := (hE7.out.cell 4).trans rfl
  have hcm : (cm == []) = false := beq_eq_false_iff_ne.2 hc
  have hcm2 : cm.isEmpty = false := by cases cm with | nil => exact absurd rfl hc | cons _ _ => rfl
  go_wp2_with fail
  refine (need_ok _ _ _).mono ?_
  rintro e' w8 ⟨rfl, rfl⟩
  clear cc
  go_wp2_with fail
  refine RegP.regionH (fun w' => w'.cell? ⟨g.eb j, 7, none⟩ = some (at0 (g.sb j)) ∧ w'.cell? ⟨g.eb j, 6, none⟩ = some (at0 (g.rb e.rule)) ∧ w'.cell? ⟨g.rb e.rule, 0, none⟩ = some (.map (some (g.tb e.rule))) ∧ (Instr.lookup 89 (.map (some (g.tb e.rule))) (.string ⟨#[100, 101, 112, 102, 105, 108, 101]⟩) false).run Tryz.prog w' = .ok (.string (B ((r.texts kDepfile).getD []))) w') [(0, 0), (0, 1), (0, 2), (0, 3), (0, 4), (1, 5), (0, 6), (0, 7), (0, 8), (1, 9), (0, 10), (0, 11), (1, 12), (1, 13), (2, 14), (0, 15), (0, 16), (0, 17), (2, 18)] (by kernel_rfl) (by kernel_rfl) (by rfl) (by kernel_rfl) (by exact (hE7.out.more hB0 (Below.refl _ _).drew).s4 hA.out hEe.out hrH.out kDepfile (by decide)) ?_
  refine RegP.pure1 (by (simp only [gA,gB,gC]); rfl) (by exact fun _ _ _ h => h) (by rfl) (by intro w'; go_simp; try with_reducible rfl) ?_
  try simp only [Act.put, pA,pB,pC]
  refine RegP.pure1 (by (simp only [gA,gB,gC]); rfl) (by exact fun _ _ _ h => h) (by rfl) (by intro w'; go_simp; try with_reducible rfl) ?_
  try simp only [Act.put, pA,pB,pC]
  refine RegP.pure1 (by (simp only [gA,gB,gC]); rfl) (by exact fun _ _ _ h => h) (by rfl) (by intro w'; go_simp; try with_reducible rfl) ?_
  try simp only [Act.put, pA,pB,pC]
  refine RegP.pure1 (by (simp only [gA,gB,gC]); rfl) (by exact fun _ _ _ h => h) (by rfl) (by intro w'; go_simp; try with_reducible rfl) ?_
  try simp only [Act.put, pA,pB,pC]
  refine RegP.pure1 (by (simp only [gA,gB,gC]); rfl) (by exact fun _ _ _ h => h) (by rfl) (by intro w'; go_simp; try with_reducible rfl) ?_
  try simp only [Act.put, pA,pB,pC]
  refine RegP.held1 (by (simp only [gA,gB,gC]); rfl) (by exact fun _ _ _ h => h) (by rfl) (by intro w' hS_; (try dsimp only at hS_); go_split_ands; go_simp; try with_reducible rfl) ?_
  try simp only [Act.put, pA,pB,pC]
  refine RegP.pure1 (by (simp only [gA,gB,gC]); rfl) (by exact fun _ _ _ h => h) (by rfl) (by intro w'; go_simp; try with_reducible rfl) ?_
  try simp only [Act.put, pA,pB,pC]
  refine RegP.pure1 (by (simp only [gA,gB,gC]); rfl) (by exact fun _ _ _ h => h) (by rfl) (by intro w'; go_simp; try with_reducible rfl) ?_
  try simp only [Act.put, pA,pB,pC]
  refine RegP.pure1 (by (simp only [gA,gB,gC]); rfl) (by exact fun _ _ _ h => h) (by rfl) (by intro w'; go_simp; try with_reducible rfl) ?_
  try simp only [Act.put, pA,pB,pC]
  refine RegP.held1 (by (simp only [gA,gB,gC]); rfl) (by exact fun _ _ _ h => h) (by rfl) (by intro w' hS_; (try dsimp only at hS_); go_split_ands; go_simp; try with_reducible rfl) ?_
  try simp only [Act.put, pA,pB,pC]
  refine RegP.pure1 (by (simp only [gA,gB,gC]); rfl) (by exact fun _ _ _ h => h) (by rfl) (by intro w'; go_simp; try with_reducible rfl) ?_
  try simp only [Act.put, pA,pB,pC]
  refine RegP.pure1 (by (simp only [gA,gB,gC]); rfl) (by exact fun _ _ _ h => h) (by rfl) (by intro w'; go_simp; try with_reducible rfl) ?_
  try simp only [Act.put, pA,pB,pC]
  refine RegP.held1 (by (simp only [gA,gB,gC]); rfl) (by exact fun _ _ _ h => h) (by rfl) (by intro w' hS_; (try dsimp only at hS_); go_split_ands; go_simp; try with_reducible rfl) ?_
  try simp only [Act.put, pA,pB,pC]
  refine RegP.held1 (by (simp only [gA,gB,gC]); rfl) (by exact fun _ _ _ h => h) (by rfl) (by intro w' hS_; (try dsimp only at hS_); go_split_ands; go_simp; try with_reducible rfl) ?_
  try simp only [Act.put, pA,pB,pC]
  refine RegP.ev1 (by (simp only [gA,gB,gC]); rfl) (fun K hK => ?_)
  rcases hp6 : expE e.line [(upd (upd e.own kIn (joinS e.ins)) kOut (joinS e.outs)), st.file] ((r.texts kDepfile).getD []) with ⟨l1, e1⟩ | dp
  · have hR : Hid (endsE st.file st.rules e = .error (l1, e1)) := by show _ = _; rw [hPl.out]; simp only [hp4, hp6, if_neg hc]
    go_simp
    have hP := (hE7.out.more hB0 (Below.refl _ _).drew).exp hA.out hM2.out ((r.texts kDepfile).getD []) (show ((r.texts kDepfile).getD []).length ≤ 1000000 from by cases hq : r.texts kDepfile with | none => simp | some t => have := hrs _ _ hq; simp; omega)
    rw [hp6] at hP
    refine hP.mono ?_
    rintro e' w9 ⟨rfl, hb⟩
    exact ⟨rfl, Ends.bad hR.out (hE7.out.more hB0 (((Below.refl _ _).drew).trans hb)).below⟩
  go_simp
  have hP := (hE7.out.more hB0 (Below.refl _ _).drew).exp hA.out hM2.out ((r.texts kDepfile).getD []) (show ((r.texts kDepfile).getD []).length ≤ 1000000 from by cases hq : r.texts kDepfile with | none => simp | some t => have := hrs _ _ hq; simp; omega)
  rw [hp6] at hP
  refine hP.mono ?_
  rintro e' wa ⟨rfl, hb⟩
  have hEa := Lib.hid (hE7.out.more hB0 (((Below.refl _ _).drew).trans hb))
  clear hP hb
  refine hK.out _ _ ?_ (fun hHeld => ?_)
  · (try dsimp only); exact hEa.out.s4 hA.out hEe.out hrH.out kDepfile (by decide)
  clear hK K
  try simp only [Act.put, pA,pB,pC]
  refine RegP.pure1 (by (simp only [gA,gB,gC]); rfl) (by exact fun _ _ _ h => h) (by rfl) (by intro w'; go_simp; try with_reducible rfl) ?_
  try simp only [Act.put, pA,pB,pC]
  refine RegP.pure1 (by (simp only [gA,gB,gC]); rfl) (by exact fun _ _ _ h => h) (by rfl) (by intro w'; go_simp; try with_reducible rfl) ?_
  try simp only [Act.put, pA,pB,pC]
  refine RegP.pure1 (by (simp only [gA,gB,gC]); rfl) (by exact fun _ _ _ h => h) (by rfl) (by intro w'; go_simp; try with_reducible rfl) ?_
  try simp only [Act.put, pA,pB,pC]
  refine RegP.ev1 (by (simp only [gA,gB,gC]); rfl) (fun K hK => ?_)
  have cc := (hEa.out.cell 5).trans rfl
  have ff := hEa.out.free 5
  go_simp
  have hEb : Hid (EW B0 w (wa.setCell ⟨g.eb j, 5, none⟩ (.string (B dp))) g st j e (upd (upd e.own kIn (joinS e.ins)) kOut (joinS e.outs)) (g.n + 1 + 1) cm dp) := hEa.out.put hA.out 5 dp _ _ rfl
  clear cc ff
  generalize wa.setCell ⟨g.eb j, 5, none⟩ (.string (B dp)) = wb at *
  refine hK.out _ _ ?_ (fun hHeld => ?_)
  · (try dsimp only); exact hEb.out.s4 hA.out hEe.out hrH.out kDepfile (by decide)
  clear hK K
  try simp only [Act.put, pA,pB,pC]
  refine RegP.done1 ?_
  clear hHeld
  try dsimp only
  by_cases hd : dp = []
  · have hR : Hid (endsE st.file st.rules e = .ok ⟨e.outs, e.ins, e.imp, e.ord, cm, []⟩) := by show _ = _; rw [hPl.out]; simp only [hp4, hp6, if_neg hc, if_pos hd]
    subst hd
    have q0 : wb.cell? ⟨g.eb j, 0, none⟩ = some (.slice A0 e.outs.length k0) := (hEb.out.cell 0).trans (congrArg some hV0.out)
    have p0 := (cell_of_heap (j := 0) hEb.out.res).trans rfl
    have f0 := frozen_of_heap hEb.out.res 0
    have q1 : wb.cell? ⟨g.eb j, 1, none⟩ = some (.slice A1 e.ins.length k1) := (hEb.out.cell 1).trans (congrArg some hV1.out)
    have p1 := (cell_of_heap (j := 1) hEb.out.res).trans rfl
    have f1 := frozen_of_heap hEb.out.res 1
    have q2 : wb.cell? ⟨g.eb j, 2, none⟩ = some (.slice A2 e.imp.length k2) := (hEb.out.cell 2).trans (congrArg some hV2.out)
    have p2 := (cell_of_heap (j := 2) hEb.out.res).trans rfl
    have f2 := frozen_of_heap hEb.out.res 2
    have q3 : wb.cell? ⟨g.eb j, 3, none⟩ = some (.slice A3 e.ord.length k3) := (hEb.out.cell 3).trans (congrArg some hV3.out)
    have p3 := (cell_of_heap (j := 3) hEb.out.res).trans rfl
    have f3 := frozen_of_heap hEb.out.res 3
    have q4 : wb.cell? ⟨g.eb j, 4, none⟩ = some (.string (B cm)) := (hEb.out.cell 4).trans rfl
    have p4 := (cell_of_heap (j := 4) hEb.out.res).trans rfl
    have f4 := frozen_of_heap hEb.out.res 4
    have q5 : wb.cell? ⟨g.eb j, 5, none⟩ = some (.string (B [])) := (hEb.out.cell 5).trans rfl
    have p5 := (cell_of_heap (j := 5) hEb.out.res).trans rfl
    have f5 := frozen_of_heap hEb.out.res 5
    have hrl := lt_blk hEb.out.res
    clear hp4 hp6
    go_wp2_with fail
    (try simp only [Exit.inBlock, Exit.then])
    first | refine bodyPost_end (results_cell_row rfl _ _ w.heap.size 47 #[.slice A0 e.outs.length k0, .slice A1 e.ins.length k1, .slice A2 e.imp.length k2, .slice A3 e.ord.length k3, .string (B cm), .string (B ([] : Txt))] (0, 0) _ rfl (blk_put (blk_put (blk_put (blk_put (blk_put (blk_put hEb.out.res 0 _ rfl) 1 _ rfl) 2 _ rfl) 3 _ rfl) 4 _ rfl) 5 _ rfl) Tryz.underlying47 rfl (by kernel_rfl)) rfl ?_ | refine bodyPost_ret (results_cell_row rfl _ _ w.heap.size 47 #[.slice A0 e.outs.length k0, .slice A1 e.ins.length k1, .slice A2 e.imp.length k2, .slice A3 e.ord.length k3, .string (B cm), .string (B ([] : Txt))] (0, 0) _ rfl (blk_put (blk_put (blk_put (blk_put (blk_put (blk_put hEb.out.res 0 _ rfl) 1 _ rfl) 2 _ rfl) 3 _ rfl) 4 _ rfl) 5 _ rfl) Tryz.underlying47 rfl (by kernel_rfl)) rfl ?_
    exact Ends.fin4 hR.out rfl rfl hV0.out hV1.out hV2.out hV3.out (hEb.out.fin2 hA.out (by simp) (fun b hb => by repeat rw [Below.heap_setCell _ _ _ b (show b ≠ w.heap.size by omega)])) ((((((hEb.out.below.setCell hB0 _).setCell hB0 _).setCell hB0 _).setCell hB0 _).setCell hB0 _).setCell hB0 _) (fun b h1 h2 h3 h4 => by (repeat rw [Below.heap_setCell _ _ _ b (show b ≠ w.heap.size by omega)]); exact hEb.out.same b h1 h2 h3 h4) ((List.getElem?_eq_getElem hj).trans (congrArg some hEe.out)) rfl rfl rfl rfl
  have cc : wb.cell? ⟨g.eb j, 5, none⟩ = some (.string (B dp)) := (hEb.out.cell 5).trans rfl
  have ff := hEb.out.free 5
  have hcd : (dp == []) = false := beq_eq_false_iff_ne.2 hd
  have hcd2 : dp.isEmpty = false := by cases dp with | nil => exact absurd rfl hd | cons _ _ => rfl
  go_wp2_with fail
  have hP := mclean_any g.r e.line dp wb hEb.out.rcell (lt_blk hEb.out.hr)
  rcases hx : cleanE e.line dp with ⟨l1, e1⟩ | cp
  · have hR : Hid (endsE st.file st.rules e = .error (l1, e1)) := by show _ = _; rw [hPl.out]; simp only [hp4, hp6, if_neg hc, if_neg hd, hx]
    rw [hx] at hP
    refine hP.mono ?_
    rintro e' w9 ⟨rfl, hb⟩
    exact ⟨rfl, Ends.bad hR.out (hEb.out.more hB0 hb).below⟩
  · have hR : Hid (endsE st.file st.rules e = .ok ⟨e.outs, e.ins, e.imp, e.ord, cm, cp⟩) := by show _ = _; rw [hPl.out]; simp only [hp4, hp6, if_neg hc, if_neg hd, hx]
    rw [hx] at hP
    refine hP.mono ?_
    rintro e' w9 ⟨rfl, hb⟩
    have hE9 := Lib.hid (hEb.out.more hB0 hb)
    have c5 : w9.cell? ⟨g.eb j, 5, none⟩ = some (.string (B dp)) := (hE9.out.cell 5).trans rfl
    have f5' := hE9.out.free 5
    clear cc ff hP hb
    go_upto_region 9 with (fail)
    have hEd : Hid (EW B0 w (w9.setCell ⟨g.eb j, 5, none⟩ (.string (B cp))) g st j e (upd (upd e.own kIn (joinS e.ins)) kOut (joinS e.outs)) (g.n + 1 + 1) cm cp) := hE9.out.put hA.out 5 cp _ _ rfl
    generalize w9.setCell ⟨g.eb j, 5, none⟩ (.string (B cp)) = wd at *
    clear c5 f5'
    have q0 : wd.cell? ⟨g.eb j, 0, none⟩ = some (.slice A0 e.outs.length k0) := (hEd.out.cell 0).trans (congrArg some hV0.out)
    have p0 := (cell_of_heap (j := 0) hEd.out.res).trans rfl
    have f0 := frozen_of_heap hEd.out.res 0
    have q1 : wd.cell? ⟨g.eb j, 1, none⟩ = some (.slice A1 e.ins.length k1) := (hEd.out.cell 1).trans (congrArg some hV1.out)
    have p1 := (cell_of_heap (j := 1) hEd.out.res).trans rfl
    have f1 := frozen_of_heap hEd.out.res 1
    have q2 : wd.cell? ⟨g.eb j, 2, none⟩ = some (.slice A2 e.imp.length k2) := (hEd.out.cell 2).trans (congrArg some hV2.out)
    have p2 := (cell_of_heap (j := 2) hEd.out.res).trans rfl
    have f2 := frozen_of_heap hEd.out.res 2
    have q3 : wd.cell? ⟨g.eb j, 3, none⟩ = some (.slice A3 e.ord.length k3) := (hEd.out.cell 3).trans (congrArg some hV3.out)
    have p3 := (cell_of_heap (j := 3) hEd.out.res).trans rfl
    have f3 := frozen_of_heap hEd.out.res 3
    have q4 : wd.cell? ⟨g.eb j, 4, none⟩ = some (.string (B cm)) := (hEd.out.cell 4).trans rfl
    have p4 := (cell_of_heap (j := 4) hEd.out.res).trans rfl
    have f4 := frozen_of_heap hEd.out.res 4
    have q5 : wd.cell? ⟨g.eb j, 5, none⟩ = some (.string (B cp)) := (hEd.out.cell 5).trans rfl
    have p5 := (cell_of_heap (j := 5) hEd.out.res).trans rfl
    have f5 := frozen_of_heap hEd.out.res 5
    have hrl := lt_blk hEd.out.res
    go_wp2_with fail
    (try simp only [Exit.inBlock, Exit.then])
    first | refine bodyPost_end (results_cell_row rfl _ _ w.heap.size 47 #[.slice A0 e.outs.length k0, .slice A1 e.ins.length k1, .slice A2 e.imp.length k2, .slice A3 e.ord.length k3, .string (B cm), .string (B cp)] (0, 0) _ rfl (blk_put (blk_put (blk_put (blk_put (blk_put (blk_put hEd.out.res 0 _ rfl) 1 _ rfl) 2 _ rfl) 3 _ rfl) 4 _ rfl) 5 _ rfl) Tryz.underlying47 rfl (by kernel_rfl)) rfl ?_ | refine bodyPost_ret (results_cell_row rfl _ _ w.heap.size 47 #[.slice A0 e.outs.length k0, .slice A1 e.ins.length k1, .slice A2 e.imp.length k2, .slice A3 e.ord.length k3, .string (B cm), .string (B cp)] (0, 0) _ rfl (blk_put (blk_put (blk_put (blk_put (blk_put (blk_put hEd.out.res 0 _ rfl) 1 _ rfl) 2 _ rfl) 3 _ rfl) 4 _ rfl) 5 _ rfl) Tryz.underlying47 rfl (by kernel_rfl)) rfl ?_
    exact Ends.fin4 hR.out rfl rfl hV0.out hV1.out hV2.out hV3.out (hEd.out.fin2 hA.out (by simp) (fun b hb => by repeat rw [Below.heap_setCell _ _ _ b (show b ≠ w.heap.size by omega)])) ((((((hEd.out.below.setCell hB0 _).setCell hB0 _).setCell hB0 _).setCell hB0 _).setCell hB0 _).setCell hB0 _) (fun b h1 h2 h3 h4 => by (repeat rw [Below.heap_setCell _ _ _ b (show b ≠ w.heap.size by omega)]); exact hEd.out.same b h1 h2 h3 h4) ((List.getElem?_eq_getElem hj).trans (congrArg some hEe.out)) rfl rfl rfl rfl
end Go.Proofs.YtbjekebkgidhaaaGreatDoor.Mf
end
section
set_option linter.unusedSimpArgs false
set_option linter.unusedVariables false
namespace Go.Proofs.YtbjekebkgidhaaaGreatDoor.Mf
open Go.RowKit Go.Lib Go.Shelf Go.Maps Go.Proofs.YtbjekebkgidhaaaGreatDoorW.PrintWords Go.Proofs.YtbjekebkgidhaaaGreatDoor.U Go.Proofs.YtbjekebkgidhaaaGreatDoor.Sc Go.Proofs.YtbjekebkgidhaaaGreatDoor.P Go.Proofs.YtbjekebkgidhaaaGreatDoor.MapV
theorem catch_idle (a b c : Value) (w : World) :
    CallsD Tryz.prog 19 #[a, b, c] .returning w fun e u' w' => e = .returned (.tuple #[]) ∧ u' = .returning ∧ w' = w := by
  refine callsD_of_wpS Tryz.func19 rfl fun c₀ cs hu => ?_
  apply wpS_seq
  apply wpS_region
  simp [wpOpsS, go_sem, recoverD, hu, Tryz.ntmps19, Exit.thenS]
  apply wpS_seq
  apply wpS_region
  simp [wpOpsS, go_sem, Exit.thenS]
  refine wpS_cond (t := false) (by simp [Act.eval, Array.replicate]) ?_
  simp only [Bool.false_eq_true, if_false]
  refine wpS_of_wp (wp_skip ?_)
  cases c₀
  simp_all [bodyPostS, results]
set_option maxRecDepth 100000 in
set_option maxHeartbeats 4000000 in
theorem catch_wrong (m n o : Nat) (l : Nat) (c : Int) (v0 v1 : Value) (x y : Int) (W : World) (hm : W.heap[m]? = some (.cells #[v0, v1] 32 (0, 0))) (hn : W.heap[n]? = some (.cells #[.int .i64 x] 3 (0, 0))) (ho : W.heap[o]? = some (.cells #[.int .i64 y] 27 (0, 0)))
    (h1 : m ≠ n) (h2 : m ≠ o) (h3 : n ≠ o) :
    CallsD Tryz.prog 19 #[.pointer (some ⟨m, 0, none⟩), .pointer (some ⟨n, 0, none⟩), .pointer (some ⟨o, 0, none⟩)] (.panicking [{ v := .iface 60 (.agg #[.int .i64 (l : Int), .int .i64 c]), recovered := false }]) W fun e u' w' => e = .returned (.tuple #[]) ∧ u' = .panicking [{ v := .iface 60 (.agg #[.int .i64 (l : Int), .int .i64 c]), recovered := true }] ∧
      w'.heap[m]? = some (.cells #[.slice none 0 0, .slice none 0 0] 32 (0, 0)) ∧ w'.heap[n]? = some (.cells #[.int .i64 (l : Int)] 3 (0, 0)) ∧ w'.heap[o]? = some (.cells #[.int .i64 c] 27 (0, 0)) ∧ (∀ B, B ≤ m → B ≤ n → B ≤ o → B ≤ W.heap.size → Below B W w') := by
  refine callsD_of_wpS Tryz.func19 rfl fun c₀ cs hu => ?_
  apply wpS_seq
  apply wpS_region
  simp [wpOpsS, go_sem, recoverD, hu, Tryz.ntmps19, Exit.thenS]
  apply wpS_seq
  apply wpS_region
  simp [wpOpsS, go_sem, Exit.thenS]
  refine wpS_cond (t := true) (by simp [Act.eval, Array.replicate]) ?_
  simp only [if_true]
  refine wpS_of_wp ?_
  have hta : ∀ w : World, (Instr.typeAssert (.iface 60 (.agg #[.int .i64 (l : Int), .int .i64 c])) 20 60 true).run Tryz.prog w = .ok (.tuple #[.agg #[.int .i64 (l : Int), .int .i64 c], .bool true]) w := fun w => by kernel_rfl
  have hB := Lib.hid (Below.refl W.heap.size W)
  have m0 := (cell_of_heap (j := 0) hm).trans rfl
  have m1 := (cell_of_heap (j := 1) hm).trans rfl
  have n0 := (cell_of_heap (j := 0) hn).trans rfl
  have o0 := (cell_of_heap (j := 0) ho).trans rfl
  have mf0 := frozen_of_heap hm 0
  have mf1 := frozen_of_heap hm 1
  have nf0 := frozen_of_heap hn 0
  have of0 := frozen_of_heap ho 0
  have hmH := Lib.hid hm
  have hnH := Lib.hid hn
  have hoH := Lib.hid ho
  have hml := lt_blk hm
  have hnl := lt_blk hn
  have hol := lt_blk ho
  clear hm hn ho
  simp only [Array.replicate_succ, Array.replicate_zero, List.push_toArray, List.append_toArray, List.nil_append, List.cons_append, List.setIfInBounds_toArray, List.set_cons_succ, List.set_cons_zero]
  go_wp2_with fail
  have hb0 : Below W.heap.size W (W.alloc (.cells #[.int .i64 (l : Int), .int .i64 c] 60)) := (Below.refl _ _).alloc (Nat.le_refl _) _
  have hm1 : Hid ((W.alloc (.cells #[.int .i64 (l : Int), .int .i64 c] 60)).heap[m]? = some (.cells #[v0, v1] 32 (0, 0))) := (hb0.block _ hml).trans hmH.out
  have hn1 : Hid ((W.alloc (.cells #[.int .i64 (l : Int), .int .i64 c] 60)).heap[n]? = some (.cells #[.int .i64 x] 3 (0, 0))) := (hb0.block _ hnl).trans hnH.out
  have ho1 : Hid ((W.alloc (.cells #[.int .i64 (l : Int), .int .i64 c] 60)).heap[o]? = some (.cells #[.int .i64 y] 27 (0, 0))) := (hb0.block _ hol).trans hoH.out
  have hx1 : Hid ((W.alloc (.cells #[.int .i64 (l : Int), .int .i64 c] 60)).heap[W.heap.size]? = some (.cells #[.int .i64 (l : Int), .int .i64 c] 60)) := heap_alloc_new _ _
  have hbH := Lib.hid hb0
  clear hb0 m0 m1 n0 o0 mf0 mf1 nf0 of0
  generalize W.alloc (.cells #[.int .i64 (l : Int), .int .i64 c] 60) = W1 at *
  have c0 := (cell_of_heap (j := 0) hx1.out).trans rfl
  have c1 := (cell_of_heap (j := 1) hx1.out).trans rfl
  have hmx : m ≠ W.heap.size := by omega
  have hnx : n ≠ W.heap.size := by omega
  have hox : o ≠ W.heap.size := by omega
  refine RegP.regionH (fun w' => w'.cell? ⟨W.heap.size, 0, none⟩ = some (.int .i64 (l : Int)) ∧ w'.cell? ⟨W.heap.size, 1, none⟩ = some (.int .i64 c)) [(0, 0), (0, 1), (1, 2), (0, 3), (1, 4), (2, 5), (2, 6), (2, 7)] (by kernel_rfl) (by kernel_rfl) (by rfl) (by kernel_rfl) (by exact ⟨c0, c1⟩) ?_
  refine RegP.pure1 (by (simp only [gA,gB,gC]); rfl) (by exact fun _ _ _ h => h) (by rfl) (by intro w'; go_simp; try with_reducible rfl) ?_
  try simp only [Act.put, pA,pB,pC]
  refine RegP.pure1 (by (simp only [gA,gB,gC]); rfl) (by exact fun _ _ _ h => h) (by rfl) (by intro w'; go_simp; try with_reducible rfl) ?_
  try simp only [Act.put, pA,pB,pC]
  refine RegP.held1 (by (simp only [gA,gB,gC]); rfl) (by exact fun _ _ _ h => h) (by rfl) (by intro w' hS_; (try dsimp only at hS_); go_split_ands; go_simp; try with_reducible rfl) ?_
  try simp only [Act.put, pA,pB,pC]
  refine RegP.pure1 (by (simp only [gA,gB,gC]); rfl) (by exact fun _ _ _ h => h) (by rfl) (by intro w'; go_simp; try with_reducible rfl) ?_
  try simp only [Act.put, pA,pB,pC]
  refine RegP.held1 (by (simp only [gA,gB,gC]); rfl) (by exact fun _ _ _ h => h) (by rfl) (by intro w' hS_; (try dsimp only at hS_); go_split_ands; go_simp; try with_reducible rfl) ?_
  try simp only [Act.put, pA,pB,pC]
  refine RegP.ev1 (by (simp only [gA,gB,gC]); rfl) (fun K hK => ?_)
  have m0 := (cell_of_heap (j := 0) hm1.out).trans rfl
  have m1 := (cell_of_heap (j := 1) hm1.out).trans rfl
  have mf0 := frozen_of_heap hm1.out 0
  have mf1 := frozen_of_heap hm1.out 1
  go_simp
  have hS2 : Hid (((W1.setCell ⟨m, 0, none⟩ (.slice none 0 0)).setCell ⟨m, 1, none⟩ (.slice none 0 0)).heap[m]? = some (.cells #[.slice none 0 0, .slice none 0 0] 32 (0, 0))) := blk_put (blk_put hm1.out 0 _ rfl) 1 _ rfl
  have kS : ∀ b, b ≠ m → ((W1.setCell ⟨m, 0, none⟩ (.slice none 0 0)).setCell ⟨m, 1, none⟩ (.slice none 0 0)).heap[b]? = W1.heap[b]? := fun b hb => by rw [Below.heap_setCell _ _ _ b hb, Below.heap_setCell _ _ _ b hb]
  have hn2 := Lib.hid ((kS n (Ne.symm h1)).trans hn1.out)
  have ho2 := Lib.hid ((kS o (Ne.symm h2)).trans ho1.out)
  have hx2 := Lib.hid ((kS _ (Ne.symm hmx)).trans hx1.out)
  have hB2 : Hid (∀ B, B ≤ m → B ≤ W.heap.size → Below B W ((W1.setCell ⟨m, 0, none⟩ (.slice none 0 0)).setCell ⟨m, 1, none⟩ (.slice none 0 0))) := fun B hBm hBW => ((hbH.out.mono hBW).setCell hBm _).setCell hBm _
  clear kS m0 m1 mf0 mf1
  generalize (W1.setCell ⟨m, 0, none⟩ (.slice none 0 0)).setCell ⟨m, 1, none⟩ (.slice none 0 0) = W2 at *
  have n0 : W2.cell? ⟨n, 0, none⟩ = some (.int .i64 x) := (cell_of_heap (j := 0) hn2.out).trans rfl
  have nf0 := frozen_of_heap hn2.out 0
  refine hK.out _ _ ?_ (fun hHeld => ?_)
  · (try dsimp only); exact ⟨(cell_of_heap (j := 0) hx2.out).trans rfl, (cell_of_heap (j := 1) hx2.out).trans rfl⟩
  clear hK K
  try simp only [Act.put, pA,pB,pC]
  refine RegP.ev1 (by (simp only [gA,gB,gC]); rfl) (fun K hK => ?_)
  go_simp
  have hm3 := Lib.hid ((Below.heap_setCell W2 ⟨n, 0, none⟩ (.int .i64 (l : Int)) m h1).trans hS2.out)
  have hn3 : Hid ((W2.setCell ⟨n, 0, none⟩ (.int .i64 (l : Int))).heap[n]? = some (.cells #[.int .i64 (l : Int)] 3 (0, 0))) := blk_put hn2.out 0 _ rfl
  have ho3 := Lib.hid ((Below.heap_setCell W2 ⟨n, 0, none⟩ (.int .i64 (l : Int)) o (Ne.symm h3)).trans ho2.out)
  have hx3 := Lib.hid ((Below.heap_setCell W2 ⟨n, 0, none⟩ (.int .i64 (l : Int)) _ (Ne.symm hnx)).trans hx2.out)
  clear n0 nf0
  generalize hW3 : W2.setCell ⟨n, 0, none⟩ (.int .i64 (l : Int)) = W3 at *
  have o0 : W3.cell? ⟨o, 0, none⟩ = some (.int .i64 y) := (cell_of_heap (j := 0) ho3.out).trans rfl
  have of0 := frozen_of_heap ho3.out 0
  have hB3 : Hid (∀ B, B ≤ m → B ≤ n → B ≤ W.heap.size → Below B W W3) := fun B a b d => by rw [← hW3]; exact (hB2.out B a d).setCell b _
  clear hW3
  refine hK.out _ _ ?_ (fun hHeld => ?_)
  · (try dsimp only); exact ⟨(cell_of_heap (j := 0) hx3.out).trans rfl, (cell_of_heap (j := 1) hx3.out).trans rfl⟩
  clear hK K
  try simp only [Act.put, pA,pB,pC]
  refine RegP.ev1 (by (simp only [gA,gB,gC]); rfl) (fun K hK => ?_)
  go_simp
  have hx4 := Lib.hid ((Below.heap_setCell W3 ⟨o, 0, none⟩ (.int .i64 c) _ (Ne.symm hox)).trans hx3.out)
  have hfin : Hid ((W3.setCell ⟨o, 0, none⟩ (.int .i64 c)).heap[m]? = some (.cells #[.slice none 0 0, .slice none 0 0] 32 (0, 0)) ∧ (W3.setCell ⟨o, 0, none⟩ (.int .i64 c)).heap[n]? = some (.cells #[.int .i64 (l : Int)] 3 (0, 0)) ∧ (W3.setCell ⟨o, 0, none⟩ (.int .i64 c)).heap[o]? = some (.cells #[.int .i64 c] 27 (0, 0)) ∧ (∀ B, B ≤ m → B ≤ n → B ≤ o → B ≤ W.heap.size → Below B W (W3.setCell ⟨o, 0, none⟩ (.int .i64 c)))) :=
    ⟨(Below.heap_setCell _ _ _ _ h2).trans hm3.out, (Below.heap_setCell _ _ _ _ h3).trans hn3.out, blk_put ho3.out 0 _ rfl, fun B a b d e => (hB3.out B a b e).setCell d _⟩
  refine hK.out _ _ ?_ (fun hHeld => ?_)
  · (try dsimp only); exact ⟨(cell_of_heap (j := 0) hx4.out).trans rfl, (cell_of_heap (j := 1) hx4.out).trans rfl⟩
  clear hK K
  try simp only [Act.put, pA,pB,pC]
  refine RegP.done1 ?_
  clear hHeld
  try dsimp only
  go_wp2_with fail
  exact ⟨rfl, _, rfl, _, results_none rfl _ _ _, rfl, rfl, hfin.out.1, hfin.out.2.1, hfin.out.2.2.1, fun B a b d e => (hfin.out.2.2.2 B a b d e).drew⟩
end Go.Proofs.YtbjekebkgidhaaaGreatDoor.Mf
end
section
set_option linter.unusedSimpArgs false
set_option linter.unusedVariables false
namespace Go.Proofs.YtbjekebkgidhaaaGreatDoor.Mf
open Go.RowKit Go.Lib Go.Shelf Go.Maps Go.Proofs.YtbjekebkgidhaaaGreatDoorW.PrintWords Go.Proofs.YtbjekebkgidhaaaGreatDoor.U Go.Proofs.YtbjekebkgidhaaaGreatDoor.Sc Go.Proofs.YtbjekebkgidhaaaGreatDoor.P Go.Proofs.YtbjekebkgidhaaaGreatDoor.MapV
open Go.Proofs.YtbjekebkgidhaaaGreatDoor.Ln hiding Txt
def sumL (ps : List Txt) : Nat := (ps.map List.length).sum
theorem sumL_cons (p : Txt) (ps : List Txt) : sumL (p :: ps) = p.length + sumL ps := by simp [sumL]
theorem spl_sum (c : UInt8) (l : Txt) : sumL (spl c l) ≤ l.length := by
  induction l with
  | nil => simp [spl, sumL]
  | cons b l ih =>
    unfold spl
    split
    · rw [sumL_cons]; simp; omega
    · have hne := spl_ne c l
      split
      · rename_i h; exact absurd h hne
      · rename_i p ps h
        rw [h, sumL_cons] at ih
        rw [sumL_cons]; simp; omega
theorem trimmedL_len (l : Txt) : (trimmedL l).length ≤ l.length := by
  have h1 := trimL_len 32 l
  have h2 := trimR_len 32 (trimL 32 l)
  unfold trimmedL
  split
  · rename_i h
    rw [List.length_append, List.length_singleton]
    have := h.1; omega
  · omega
def opLen : Option LineT → Nat
  | some o => o.text.length
  | none => 0
theorem opened_len (i : Nat) (s : Txt) (op : Option LineT) : (opened i s op).text.length ≤ opLen op + s.length := by
  cases op with
  | none => simp [opened, opLen]
  | some o =>
    have := trimL_len 32 s
    simp only [opened, opLen, List.length_append]; omega
theorem linesGo_len (total M : Nat) : ∀ (ps : List Txt) (i : Nat) (out : List LineT) (op : Option LineT) (R : List LineT), linesGo total ps i out op = .ok R → (∀ o ∈ out, o.text.length ≤ M) → opLen op + sumL ps ≤ M →
    (∀ o ∈ R, o.text.length ≤ M) ∧ R.length ≤ out.length + ps.length := by
  intro ps
  induction ps with
  | nil =>
    intro i out op R h ho _
    rw [linesGo] at h
    injection h with h
    subst h
    exact ⟨ho, by simp⟩
  | cons s ps ih =>
    intro i out op R h ho hs
    rw [sumL_cons] at hs
    have hop := opened_len i s op
    rw [linesGo] at h
    split at h
    · cases h
    split at h
    · have := ih _ _ _ _ h ho (by simp only [opLen]; omega)
      exact ⟨this.1, by simp only [List.length_cons]; omega⟩
    split at h
    · split at h
      · cases h
      · have := ih _ _ _ _ h ho (by simp only [opLen, List.length_dropLast]; omega)
        exact ⟨this.1, by simp only [List.length_cons]; omega⟩
    · have := ih _ _ _ _ h (fun o h => by
        rcases List.mem_append.1 h with h | h
        · exact ho o h
        · rw [List.mem_singleton.1 h]
          exact Nat.le_trans (trimmedL_len _) (by omega)) (by simp only [opLen]; omega)
      exact ⟨this.1, by have := this.2; simp only [List.length_append, List.length_cons, List.length_nil] at this ⊢; omega⟩
theorem linesL_len (t : Txt) : (∀ o ∈ (linesL t).1, o.text.length ≤ 16384) ∧ (linesL t).1.length ≤ 16385 := by
  unfold linesL
  split
  · simp
  · rename_i h
    rcases hR : linesGo (spl 10 t).length (spl 10 t) 0 [] none with e | R
    · simp [resL]
    · have h1 := spl_sum 10 t
      have h2 := spl_len 10 t
      have h3 := List.count_le_length (a := (10 : UInt8)) (l := t)
      have := linesGo_len _ 16384 _ _ _ _ _ hR (by simp) (by simp only [opLen]; omega)
      refine ⟨this.1, ?_⟩
      have := this.2
      simp only [resL, List.length_nil] at this ⊢; omega
theorem closeE_defs {st st' : St} (h : closeE st = .ok st') : st'.defs = st.defs := by
  unfold closeE at h
  split at h
  · split at h
    · split at h
      · cases h
      · injection h with h; rw [← h]
    · injection h with h; rw [← h]
  · injection h with h; rw [← h]
theorem takesE_defs {st st' : St} {l : LineT} (h : takesE st l = .ok st') : st'.defs.length ≤ st.defs.length + l.text.length := by
  unfold takesE at h
  split at h
  · suffices st'.defs = st.defs by rw [this]; omega
    unfold innerE at h
    repeat' split at h
    all_goals first | (cases h; done) | (injection h with h; rw [← h])
  · unfold leftE at h
    rcases hc : closeE st with e | st2
    · rw [hc] at h; cases h
    · rw [hc] at h
      have hd := closeE_defs hc
      rw [← hd]
      clear hc hd
      have hw := Lex.words_len l.text
      rcases hws : Lex.words l.text with _ | ⟨w, ws⟩
      · rw [hws] at h; cases h
      · rw [hws] at h hw
        simp only at h
        split at h
        · suffices st'.defs = st2.defs by rw [this]; omega
          unfold ruleE at h
          repeat' split at h
          all_goals first | (cases h; done) | (injection h with h; rw [← h])
        split at h
        · suffices st'.defs = st2.defs by rw [this]; omega
          unfold buildE at h
          dsimp only at h
          repeat' split at h
          all_goals (try dsimp only at h)
          all_goals repeat' split at h
          all_goals first | (cases h; done) | (injection h with h; rw [← h])
        split at h
        · unfold targetsE at h
          cases ws with
          | nil => cases h
          | cons x r =>
            simp only [List.tail_cons] at h
            split at h
            · cases h
            · rename_i d hp
              injection h with h
              have := pathsE_len _ _ _ _ _ hp
              rw [← h]
              simp only [List.length_append, List.length_cons, List.length_nil] at this hw ⊢
              omega
        · suffices st'.defs = st2.defs by rw [this]; omega
          unfold setLineE at h
          repeat' split at h
          all_goals first | (cases h; done) | (injection h with h; rw [← h])
end Go.Proofs.YtbjekebkgidhaaaGreatDoor.Mf
end
section
namespace Go.Proofs.YtbjekebkgidhaaaGreatDoor.P
open Go.RowKit Go.Proofs.YtbjekebkgidhaaaGreatDoorW.PrintWords Go.Proofs.YtbjekebkgidhaaaGreatDoorW.PrintLast Go.Proofs.YtbjekebkgidhaaaGreatDoorW.PrintMore
attribute [local go_sem] max2_int min2_int max_two min_two max_three min_three max_four min_four
set_option linter.unusedVariables false
set_option linter.unusedSimpArgs false
def path_Right.f (a0 : ByteArray) : Option (Bool) := (path_Clean.f a0).bind fun bt180 => (if bt180.2 = 0 then (some (bt180.1.toList == a0.toList)) else (some false))
set_option maxHeartbeats 8000000 in
set_option maxRecDepth 100000 in
theorem path_Right.calls (a0 : ByteArray) (r : Bool) (w : World) (h : path_Right.f a0 = some r) :
    Calls Tryz.prog 52 #[.string a0] w fun e w' => e = .returned (.bool r) ∧ Below w.heap.size w w' := by
  have HB := Aside0.mk (Below.refl w.heap.size w)
  have H : ((path_Clean.f a0).bind fun bt180 => (if bt180.2 = 0 then (some (bt180.1.toList == a0.toList)) else (some false))) = some r := h
  clear h
  replace H := Option.bind_eq_some_iff.mp H
  obtain ⟨⟨t180, t181⟩, A20, H⟩ := H
  replace H : (if t181 = 0 then (some (t180.toList == a0.toList)) else (some false)) = some r := H
  have A2 := Aside0.mk A20
  clear A20
  by_cases c3 : t181 = 0
  · rw [if_pos c3] at H
    have c3b0 : (t181 == 0) = true := beq_iff_eq.mpr c3
    have c3b1 : (t181 != 0) = false := bne_eq_false_iff_eq.mpr c3
    clear c3
    obtain rfl := Option.some.inj H
    go_enter Tryz.func52, Tryz.ntmps52
    go_wp2_with (first | ((with_reducible refine gate_callee (f := 78) rfl ?_); refine goesL_ (some 7) rfl rfl Tryz.func78 (by kernel_rfl) rfl #[.string a0] rfl (by (try simp only [List.map_toArray, List.map_cons, List.map_nil]); first | done | rfl | (simp only [List.length_drop, List.length_take]; rfl)) ?_; (with_reducible refine (path_Clean.calls a0 t180 t181 _ A2.out).mono ?_); rintro e w4 ⟨rfl, hb⟩; refine ⟨_, rfl, ?_⟩; have n0_ := Aside0.mk (below_step (by repeat (first | (with_reducible first | exact HB.out | apply below_alloc | apply pw_below_drewN | apply below_drew1) | exact HB.out)) hb); clear HB; have HB := n0_; clear n0_; (try clear hb); (try clear hb2); (try clear hk); (try clear hi)))
    go_ret
    exact ⟨by first | rfl | (simp [errW_none, errW_some] <;> rfl) | (simp [*, errW_none, errW_some] <;> rfl), by repeat (first | (with_reducible first | exact HB.out | apply below_alloc | apply pw_below_drewN | apply below_drew1) | exact HB.out)⟩
  · rw [if_neg c3] at H
    have c3b0 : (t181 == 0) = false := beq_eq_false_iff_ne.mpr c3
    have c3b1 : (t181 != 0) = true := bne_iff_ne.mpr c3
    obtain rfl := Option.some.inj H
    go_enter Tryz.func52, Tryz.ntmps52
    go_wp2_with (first | ((with_reducible refine gate_callee (f := 78) rfl ?_); refine goesL_ (some 7) rfl rfl Tryz.func78 (by kernel_rfl) rfl #[.string a0] rfl (by (try simp only [List.map_toArray, List.map_cons, List.map_nil]); first | done | rfl | (simp only [List.length_drop, List.length_take]; rfl)) ?_; (with_reducible refine (path_Clean.calls a0 t180 t181 _ A2.out).mono ?_); rintro e w5 ⟨rfl, hb⟩; refine ⟨_, rfl, ?_⟩; have n0_ := Aside0.mk (below_step (by repeat (first | (with_reducible first | exact HB.out | apply below_alloc | apply pw_below_drewN | apply below_drew1) | exact HB.out)) hb); clear HB; have HB := n0_; clear n0_; (try clear hb); (try clear hb2); (try clear hk); (try clear hi)))
    go_ret
    exact ⟨by first | rfl | (simp [errW_none, errW_some] <;> rfl) | (simp [*, errW_none, errW_some] <;> rfl), by repeat (first | (with_reducible first | exact HB.out | apply below_alloc | apply pw_below_drewN | apply below_drew1) | exact HB.out)⟩
end Go.Proofs.YtbjekebkgidhaaaGreatDoor.P
end
section
set_option linter.unusedSimpArgs false
set_option linter.unusedVariables false
namespace Go.Proofs.YtbjekebkgidhaaaGreatDoor.PTh
open Go.RowKit Go.Proofs.YtbjekebkgidhaaaGreatDoorW.PrintWords Go.Proofs.YtbjekebkgidhaaaGreatDoor.U Go.Proofs.YtbjekebkgidhaaaGreatDoor.P Go.Proofs.YtbjekebkgidhaaaGreatDoor.Rng
theorem Clean_f (l : List UInt8) : path_Clean.f (B l) = some (B (cleanL l).1, (cleanL l).2) := rfl
theorem Right_f (l : List UInt8) : path_Right.f (B l) = some (decide (cleanL l = (l, 0))) := by
  rw [path_Right.f, Clean_f, Option.bind_some]
  simp only [toList_B]
  by_cases h : (cleanL l).2 = 0
  · rw [if_pos h]
    congr 1
    rw [Bool.eq_iff_iff, beq_iff_eq, decide_eq_true_iff]
    exact ⟨fun e => Prod.ext e h, fun e => by rw [e]⟩
  · rw [if_neg h]
    congr 1
    symm
    rw [decide_eq_false_iff_not]
    intro e; rw [e] at h; exact h rfl
end Go.Proofs.YtbjekebkgidhaaaGreatDoor.PTh
end
section
set_option linter.unusedSimpArgs false
set_option linter.unusedVariables false
namespace Go.Proofs.YtbjekebkgidhaaaGreatDoor.P
open Go.RowKit Go.Lib Go.Shelf Go.Proofs.YtbjekebkgidhaaaGreatDoorW.PrintWords Go.Proofs.YtbjekebkgidhaaaGreatDoorW.PrintLast Go.Proofs.YtbjekebkgidhaaaGreatDoorW.PrintMore Go.Proofs.YtbjekebkgidhaaaGreatDoor.U Go.Proofs.YtbjekebkgidhaaaGreatDoor.PTh
def rightL (l : List UInt8) : Bool := decide (cleanL l = (l, 0))
set_option maxRecDepth 100000 in
set_option maxHeartbeats 2000000 in
theorem pred_any (l : List UInt8) (w : World) :
    Calls Tryz.prog 51 #[.string (B l)] w fun e w' => e = .returned (.bool (!rightL l)) ∧ Below w.heap.size w w' := by
  have hR := Lib.hid (fun W => path_Right.calls (B l) (rightL l) W (Right_f l))
  go_enter Tryz.func51, Tryz.ntmps51
  go_wp2_with fail
  refine (hR.out _).mono ?_
  rintro e w1 ⟨rfl, hb⟩
  go_wp2_with fail
  go_ret
  exact ⟨rfl, hb⟩
set_option maxRecDepth 100000 in
set_option maxHeartbeats 4000000 in
theorem idx_any (g cap : Nat) (xs : List (List UInt8)) (w : World) (hc : ∀ j (h : j < xs.length), w.cell? ⟨g, j, none⟩ = some (.string (B xs[j]))) (hg : g < w.heap.size) (hn : xs.length < 1000000) :
    Calls Tryz.prog 79 #[.slice (some ⟨g, 0, none⟩) xs.length cap, .func (.func 51) #[] #[]] w fun e w' =>
      ∃ k : Int, e = .returned (.int .i64 k) ∧ decide (0 ≤ k) = (!xs.all rightL) ∧ Below w.heap.size w w' := by
  obtain ⟨N, hN⟩ : ∃ N, xs.length = N := ⟨_, rfl⟩
  have hcH := Lib.hid hc
  clear hc
  rw [hN] at hn ⊢
  go_enter Tryz.func79, Tryz.ntmps79
  go_wp2_with fail
  go_loopg [8] N (fun gk s8 wr => ∃ i : Nat, s8 = .int .i64 (i : Int) ∧ i + gk = N ∧ Hid ((xs.take i).all rightL = true) ∧ Hid (Below w.heap.size w wr))
  case atStart => exact ⟨0, rfl, Nat.zero_add _, rfl, Below.refl _ _⟩
  case round =>
    obtain ⟨i, rfl, hik, hA, hB⟩ := hrel
    cases gk with
    | zero =>
      obtain rfl : i = N := by omega
      have hlt : decide ((i : Int) < (i : Int)) = false := by simp
      go_wp2_with fail
      go_ret
      refine ⟨_, rfl, ?_, hB.out⟩
      have := hA.out
      rw [← hN, List.take_length] at this
      rw [this]; rfl
    | succ gk =>
      have hiN : i < xs.length := by omega
      have hlt : decide ((i : Int) < (N : Int)) = true := by rw [decide_eq_true_iff]; omega
      obtain ⟨x, hx⟩ : ∃ x, xs[i] = x := ⟨_, rfl⟩
      have hcell : wr.cell? ⟨g, i, none⟩ = some (.string (B x)) := by
        rw [hB.out.cell (p := ⟨g, i, none⟩) hg, hcH.out i hiN, hx]
      have hP := Lib.hid (fun W => pred_any x W)
      have htake : xs.take (i + 1) = xs.take i ++ [x] := by rw [List.take_succ_eq_append_getElem hiN, hx]
      go_wp2_with fail
      refine (hP.out _).mono ?_
      rintro e w2 ⟨rfl, hb2⟩
      have hB2 := Lib.hid (hB.out.trans (hb2.mono hB.out.size))
      clear hb2
      cases hr : rightL x with
      | false =>
        go_wp2_with fail
        go_ret
        refine ⟨_, rfl, ?_, hB2.out⟩
        have : xs.all rightL = false := by
          rw [← List.take_append_drop (i + 1) xs, List.all_append, htake, List.all_append]; simp [hr]
        rw [this]
        simp
      | true =>
        have hA2 : Hid ((xs.take (i + 1)).all rightL = true) := by
          show _ = _
          rw [htake, List.all_append, hA.out]; simp [hr]
        go_wp2_with fail
        go_roundg gk
        case measure => omega
        case rel => exact ⟨i + 1, by first | rfl | simp, by omega, hA2, hB2⟩
set_option maxRecDepth 100000 in
set_option maxHeartbeats 2000000 in
theorem idx_none (w : World) (c : Nat) :
    Calls Tryz.prog 79 #[.slice none 0 c, .func (.func 51) #[] #[]] w fun e w' => e = .returned (.int .i64 (-1)) ∧ w = w' := by
  go_enter Tryz.func79, Tryz.ntmps79
  go_wp2_with fail
  go_loopg [8] 0 (fun gk s8 wr => s8 = .int .i64 0 ∧ w = wr)
  case atStart => exact ⟨rfl, rfl⟩
  case round =>
    obtain ⟨rfl, rfl⟩ := hrel
    go_wp2_with fail
    go_ret
    exact ⟨rfl, rfl⟩
set_option maxRecDepth 100000 in
set_option maxHeartbeats 2000000 in
theorem contains_own (v : Value) (b : Nat) (xs : List (List UInt8)) (w : World) (hO : w.ownsRow b 9 1 v xs.length (xs.map fun t => Value.string (B t))) (hn : xs.length < 1000000) :
    Calls Tryz.prog 49 #[v, .func (.func 51) #[] #[]] w fun e w' =>
      e = .returned (.bool (!xs.all rightL)) ∧ Below w.heap.size w w' := by
  rcases hO.2 with ⟨rfl, h0⟩ | ⟨g, cap, cur, rfl, hg, hh, _, _, _, htk⟩
  · have hx : xs = [] := List.length_eq_zero_iff.1 h0
    subst hx
    have hI := Lib.hid (idx_none w 0)
    clear hO
    go_enter Tryz.func49, Tryz.ntmps49
    go_wp2_with fail
    refine hI.out.mono ?_
    rintro e w1 ⟨rfl, rfl⟩
    go_wp2_with fail
    go_ret
    exact ⟨rfl, Below.refl _ _⟩
  · have hI := Lib.hid (idx_any g cap xs w (fun j hj => by
      rw [cell_of_heap hh]
      have h3 : (cur.toList.take (xs.length * 1))[j]? = some (.string (B xs[j])) := by rw [htk, List.getElem?_map, List.getElem?_eq_getElem hj]; rfl
      rw [List.getElem?_take_of_lt (by omega)] at h3
      simpa using h3) (Array.getElem?_eq_some_iff.1 hh).1 hn)
    generalize xs.all rightL = r at *
    clear hO htk hh
    go_enter Tryz.func49, Tryz.ntmps49
    go_wp2_with fail
    refine hI.out.mono ?_
    rintro e w1 ⟨k, rfl, hk, hb⟩
    go_wp2_with fail
    go_ret
    exact ⟨rfl, hb⟩
end Go.Proofs.YtbjekebkgidhaaaGreatDoor.P
end
section
set_option linter.unusedSimpArgs false
set_option linter.unusedVariables false
namespace Go.Proofs.YtbjekebkgidhaaaGreatDoor.P
open Go.RowKit Go.Lib Go.Shelf Go.Proofs.YtbjekebkgidhaaaGreatDoorW.PrintWords Go.Proofs.YtbjekebkgidhaaaGreatDoorW.PrintLast Go.Proofs.YtbjekebkgidhaaaGreatDoorW.PrintMore Go.Proofs.YtbjekebkgidhaaaGreatDoor.U
theorem infoStr9 : (Tryz.prog.info? 9).map (fun i => (i.zero, i.size, i.bytes)) = some (some (.string ⟨#[]⟩), 1, 16) := by kernel_rfl
theorem zeros_one (z : Value) (n : Nat) (hz : z.cells = #[z]) : (Builtin.zeroCells z.cells n).size = n := by
  rw [hz]; simp [Builtin.zeroCells]
set_option maxRecDepth 100000 in
set_option maxHeartbeats 4000000 in
theorem Grow_nil (n : Nat) (hn : n ≤ 1000000) (w : World) :
    Calls Tryz.prog 80 #[.slice none 0 0, .int .i64 (n : Int)] w fun e w' => ∃ g cap, e = .returned (.slice g 0 cap) ∧ w'.ownsRow w.heap.size 9 1 (.slice g 0 cap) 0 [] ∧ Below w.heap.size w w' := by
  have h1 : decide ((n : Int) < 0) = false := by rw [decide_eq_false_iff_not]; omega
  by_cases h0 : n = 0
  · subst h0
    go_enter Tryz.func80, Tryz.ntmps80
    go_wp2_with fail
    go_ret
    exact ⟨none, 0, rfl, own_nil _ _ _ _, Below.refl _ _⟩
  · have h2 : decide ((0 : Int) < (n : Int)) = true := by rw [decide_eq_true_iff]; omega
    obtain ⟨i0, hi, hzz⟩ := Option.map_eq_some_iff.1 infoStr9
    simp only [Prod.mk.injEq] at hzz
    obtain ⟨hz, hs, hb⟩ := hzz
    have hr : (Builtin.append_ #[23, 3] 23 #[.slice none 0 0, .int .i64 (n : Int)]).run Tryz.prog w = .ok (.slice (some ⟨w.heap.size, 0, none⟩) n (grownCap w n 0 9)) (w.drew.alloc (.cells ((#[] : Array Value) ++ Builtin.zeroCells (Value.string ⟨#[]⟩).cells n ++ Builtin.zeroCells (Value.string ⟨#[]⟩).cells (grownCap w n 0 9 - n)) 9)) := by
      have h := Lib.run_append_grow_zeros (P := Tryz.prog) w 23 3 23 9 i0 (.string ⟨#[]⟩) .i64 .i64 Tryz.underlying23 Tryz.underlying3 hi hz none 0 0 [] (run_firstCells_none w.drew i0.size 0 0 0) n (by omega) (by rw [hs]; decide) (by omega) (by omega) (by rw [hb]; omega) (by rw [hb]; exact growslice_fits (by omega) (by omega))
      simpa using h
    have hG := grownCap_ge w n 0 9
    have hGm := grownCap_le_maxLen w n 0 9 (by unfold maxLen; omega)
    have hsz : ((#[] : Array Value) ++ Builtin.zeroCells (Value.string ⟨#[]⟩).cells n ++ Builtin.zeroCells (Value.string ⟨#[]⟩).cells (grownCap w n 0 9 - n)).size = grownCap w n 0 9 := by
      have a1 := zeros_one (.string ⟨#[]⟩) n rfl
      have a2 := zeros_one (.string ⟨#[]⟩) (grownCap w n 0 9 - n) rfl
      rw [Array.size_append, Array.size_append]
      have e1 : (Builtin.zeroCells (Value.string ⟨#[]⟩).cells n).size = n := a1
      have e2 : (Builtin.zeroCells (Value.string ⟨#[]⟩).cells (grownCap w n 0 9 - n)).size = grownCap w n 0 9 - n := a2
      rw [e1, e2]; simp; omega
    generalize (#[] : Array Value) ++ Builtin.zeroCells (Value.string ⟨#[]⟩).cells n ++ Builtin.zeroCells (Value.string ⟨#[]⟩).cells (grownCap w n 0 9 - n) = cells at *
    generalize grownCap w n 0 9 = G at *
    clear hi hz hs hb
    go_enter Tryz.func80, Tryz.ntmps80
    go_wp2_with (at_builtin; go_loud (refine Lib.wpList_append_run _ rfl _ _ _ _ rfl _ _ rfl rfl _ _ hr ?_))
    go_ret
    refine ⟨some ⟨w.heap.size, 0, none⟩, G, rfl, ⟨by simp, .inr ⟨w.heap.size, G, cells, rfl, Nat.le_refl _, ?_, Nat.zero_le _, hGm, by rw [hsz]; omega, by simp⟩⟩, ?_⟩
    · exact heap_alloc_new w _
    · exact ((Below.refl _ w).alloc (Nat.le_refl _) _).drew
theorem reps_str2 {R : ByteArray → List Value → Prop} (hR : ∀ x c, R x c → c = [Value.string x]) : ∀ (ps : List ByteArray) (cs : List Value), Reps R 1 ps cs → cs = ps.map Value.string := by
  intro ps cs h
  refine List.ext_getElem? fun j => ?_
  have hl := h.1
  rw [Nat.mul_one] at hl
  by_cases hj : j < ps.length
  · have h1 := hR _ _ (h.2 j _ (List.getElem?_eq_getElem hj))
    rw [Nat.mul_one] at h1
    have h2 : ((cs.drop j).take 1)[0]? = some (.string ps[j]) := by rw [h1]; rfl
    rw [List.getElem?_take_of_lt (by omega), List.getElem?_drop, Nat.add_zero] at h2
    rw [h2, List.getElem?_map, List.getElem?_eq_getElem hj]; rfl
  · rw [List.getElem?_eq_none (by omega), List.getElem?_eq_none (by simp; omega)]
structure NRow where
  A : Option Addr
  c : Nat
  l : List (List UInt8)
def RowsAt (w : World) (R : Nat) (rows : List NRow) : Prop := ∀ i (h : i < rows.length), w.cell? ⟨R, i, none⟩ = some (.slice rows[i].A rows[i].l.length rows[i].c) ∧ rows[i].l.length ≤ rows[i].c ∧ Kd.C Kd.string w rows[i].A rows[i].l.length (rows[i].l.map B)
def catL (rows : List NRow) : List (List UInt8) := (rows.map (·.l)).flatten
theorem catL_take (rows : List NRow) (i : Nat) (h : i < rows.length) : catL (rows.take (i + 1)) = catL (rows.take i) ++ rows[i].l := by
  unfold catL; rw [List.take_succ_eq_append_getElem h, List.map_append, List.flatten_append, List.map_cons, List.map_nil, List.flatten_cons, List.flatten_nil, List.append_nil]
theorem catL_le (rows : List NRow) (i : Nat) : (catL (rows.take i)).length ≤ (catL rows).length := by
  have h : rows = rows.take i ++ rows.drop i := (List.take_append_drop i rows).symm
  have : catL rows = catL (rows.take i) ++ catL (rows.drop i) := by
    conv => lhs; rw [h]
    unfold catL; rw [List.map_append, List.flatten_append]
  rw [this]; simp
set_option maxRecDepth 100000 in
set_option maxHeartbeats 8000000 in
theorem Concat_any (R cp : Nat) (rows : List NRow) (w : World) (hA : RowsAt w R rows) (hR : R < w.heap.size) (hn : rows.length ≤ 100) (ht : (catL rows).length ≤ 100000) :
    Calls Tryz.prog 50 #[.slice (some ⟨R, 0, none⟩) rows.length cp] w fun e w' => ∃ v, e = .returned v ∧ w'.ownsRow w.heap.size 9 1 v (catL rows).length ((catL rows).map fun t => Value.string (B t)) ∧ Below w.heap.size w w' := by
  obtain ⟨n, hN⟩ : ∃ n, rows.length = n := ⟨_, rfl⟩
  have hAH := Lib.hid hA
  have hNH := Lib.hid hN
  rw [hN] at hn ⊢
  clear hA hN
  go_enter Tryz.func50, Tryz.ntmps50
  go_wp2_with fail
  go_loopg [3, 11] n (fun gk s3 s11 wr => ∃ i m : Nat, s11 = .int .i64 (i : Int) ∧ i + gk = n ∧ s3 = .int .i64 (m : Int) ∧ Hid (m = (catL (rows.take i)).length) ∧ w = wr)
  case atStart => exact ⟨0, 0, rfl, Nat.zero_add _, rfl, rfl, rfl⟩
  case round =>
    obtain ⟨i, m, rfl, hik, rfl, hm, rfl⟩ := hrel
    cases gk with
    | zero =>
      obtain rfl : i = n := by omega
      have hlt : decide ((i : Int) < (i : Int)) = false := by simp
      have hmm : m ≤ 100000 := by have := catL_le rows i; rw [hm.out]; omega
      have hG := Lib.hid (Grow_nil m (by omega) w)
      go_wp2_with fail
      refine hG.out.mono ?_
      rintro e w1 ⟨g, cap, rfl, hown, hb1⟩
      have hO0 : Hid (Kd.R Kd.string 9 w1 w.heap.size (fun _ => True) (.slice g 0 cap) []) := Kd.R_of_own (enc := Value.string) (by simpa [encs] using hown) (fun _ _ => trivial)
      have hB0 := Lib.hid hb1
      clear hown hb1 hm hG
      go_wp2_with fail
      go_loopg [6, 27] i (fun gk s6 s27 wr => ∃ j : Nat, s27 = .int .i64 (j : Int) ∧ j + gk = i ∧ Hid (Kd.R Kd.string 9 wr w.heap.size (fun _ => True) s6 ((catL (rows.take j)).map B)) ∧ Hid (Below w.heap.size w wr))
      case atStart => exact ⟨0, rfl, Nat.zero_add _, hO0, hB0⟩
      case round =>
        obtain ⟨j, rfl, hjk, hO, hB⟩ := hrel
        cases gk with
        | zero =>
          obtain rfl : i = j := by omega
          have hlt2 : decide ((i : Int) < (i : Int)) = false := by simp
          go_wp2_with fail
          go_ret
          have hfin := hO.out
          rw [List.take_of_length_le (by rw [hNH.out]; omega)] at hfin
          obtain ⟨_, inner, hown, hreps⟩ := hfin
          have hin := reps_str2 (fun _ _ h => h) _ _ hreps
          refine ⟨u6, rfl, ?_, hB.out⟩
          rw [hin, List.length_map, List.map_map] at hown
          exact hown
        | succ gk =>
          have hj : j < rows.length := by rw [hNH.out]; omega
          have hlt2 : decide ((j : Int) < (i : Int)) = true := by rw [decide_eq_true_iff]; omega
          have i1 : (0 : Int) ≤ (j : Int) := by omega
          have i2 : (j : Int) < (i : Int) := by omega
          obtain ⟨c1, c2, c3⟩ := hAH.out j hj
          have c4 := (hB.out.cell (p := ⟨R, j, none⟩) hR).trans c1
          have c5 := Lib.hid (Kd.C_below c3 hB.out)
          have hck := catL_take rows j hj
          have hle := catL_le rows (j + 1)
          rw [hck, List.length_append] at hle
          have hCK := Lib.hid hck
          generalize rows[j] = rw1 at *
          obtain ⟨A1, cp1, l1⟩ := rw1
          simp only at c1 c2 c3 c4 c5 hle hCK
          have hbd : (((catL (rows.take j)).map B).length + l1.length) * 16 ≤ 140737488355328 := by rw [List.length_map]; omega
          clear hck c1 c3
          go_wp2_with (at_builtin; go_loud (refine Kd.R_append_row (w0 := w) Value.string ByteArray.empty (h1 := fun _ => rfl) w.heap.size rfl _ _ 23 9 (.string ⟨#[]⟩) 16 rfl Tryz.underlying23 infoStr9 rfl (by decide) u6 ((catL (rows.take j)).map B) (l1.map B) A1 l1.length cp1 (fun _ => True) rfl rfl (fun _ _ => trivial) hO.out c5.out hB.out hB.out.size hbd ?_))
          intro v1 w1 hR1 hb1 _ _
          have hO1 : Hid (Kd.R Kd.string 9 w1 w.heap.size (fun _ => True) v1 ((catL (rows.take (j + 1))).map B)) := by
            show Kd.R _ _ _ _ _ _ _
            rw [hCK.out, List.map_append]; exact hR1
          have hB1 := Lib.hid hb1
          clear hR1 hb1
          go_wp2_with fail
          go_roundg gk
          case measure => omega
          case rel => exact ⟨j + 1, by first | rfl | simp, by omega, hO1, hB1⟩
    | succ gk =>
      have hin : i < rows.length := by rw [hNH.out]; omega
      have hlt : decide ((i : Int) < (n : Int)) = true := by rw [decide_eq_true_iff]; omega
      obtain ⟨c1, c2, c3⟩ := hAH.out i hin
      have i1 : (0 : Int) ≤ (i : Int) := by omega
      have i2 : (i : Int) < (n : Int) := by omega
      have hck := catL_take rows i hin
      have hle := catL_le rows (i + 1)
      rw [hck, List.length_append, ← hm.out] at hle
      have hm2 : Hid (m + rows[i].l.length = (catL (rows.take (i + 1))).length) := by show _ = _; rw [hck, List.length_append, ← hm.out]
      generalize rows[i] = rw1 at *
      obtain ⟨A1, cp1, l1⟩ := rw1
      simp only at c1 c2 c3 hle hm2
      have hneg : decide ((m : Int) + (l1.length : Int) < 0) = false := by rw [decide_eq_false_iff_not]; omega
      clear hck c3
      go_wp2_with fail
      go_roundg gk
      case measure => omega
      case rel => exact ⟨i + 1, m + l1.length, by first | rfl | simp, by omega, by first | rfl | simp, hm2, rfl⟩
set_option maxRecDepth 100000 in
set_option maxHeartbeats 4000000 in
theorem paths_any (R cp : Nat) (rows : List NRow) (w : World) (hA : RowsAt w R rows) (hR : R < w.heap.size) (hn : rows.length ≤ 100) (ht : (catL rows).length ≤ 100000) :
    Calls Tryz.prog 25 #[.slice (some ⟨R, 0, none⟩) rows.length cp] w fun e w' => e = .returned (.bool ((catL rows).all rightL)) ∧ Below w.heap.size w w' := by
  have hC := Lib.hid (Concat_any R cp rows w hA hR hn ht)
  clear hA
  have hK := Lib.hid (fun v b W hO => contains_own v b (catL rows) W hO (by omega))
  generalize catL rows = all at *
  generalize rows.length = n at *
  go_enter Tryz.func25, Tryz.ntmps25
  go_wp2_with fail
  refine hC.out.mono ?_
  rintro e w1 ⟨v, rfl, hown, hb1⟩
  have hO1 := Lib.hid hown
  have hB1 := Lib.hid hb1
  clear hown hb1
  go_wp2_with fail
  refine (hK.out _ _ _ hO1.out).mono ?_
  rintro e w2 ⟨rfl, hb2⟩
  go_wp2_with fail
  go_ret
  exact ⟨by simp, hB1.out.trans (hb2.mono hB1.out.size)⟩
end Go.Proofs.YtbjekebkgidhaaaGreatDoor.P
end
section
set_option linter.unusedSimpArgs false
set_option linter.unusedVariables false
namespace Go.Proofs.YtbjekebkgidhaaaGreatDoor.P
open Go.RowKit Go.Lib Go.Shelf Go.Proofs.YtbjekebkgidhaaaGreatDoorW.PrintWords Go.Proofs.YtbjekebkgidhaaaGreatDoorW.PrintLast Go.Proofs.YtbjekebkgidhaaaGreatDoorW.PrintMore Go.Proofs.YtbjekebkgidhaaaGreatDoor.U Go.Proofs.YtbjekebkgidhaaaGreatDoor.Idx
def visR (c : Nat) : Bool := decide (32 ≤ c) && decide (c ≤ 126)
theorem visR_beyond (c : Nat) (h : 128 ≤ c) : visR c = false := by
  have : ¬ c ≤ 126 := by omega
  simp [visR, this]
def visB (b : UInt8) : Bool := visR b.toNat
def visL (l : List UInt8) : Bool := !l.isEmpty && l.all visB
set_option maxRecDepth 100000 in
set_option maxHeartbeats 2000000 in
theorem notvis_grows (w : World) : PredGrows Tryz.prog 81 #[] (fun c => !visR c) w := by
  intro W x hx hb
  show Calls Tryz.prog _ _ W fun e w' => e = .returned (.bool (!visR x)) ∧ Below W.heap.size W w'
  by_cases h1 : x < 32
  · have e : (!visR x) = true := by
      have : ¬ 32 ≤ x := by omega
      simp [visR, this]
    have d1 : decide ((x : Int) < 32) = true := by rw [decide_eq_true_iff]; omega
    rw [e]
    go_enter Tryz.func81, Tryz.ntmps81
    go_wp2_with fail
    go_ret
    exact ⟨rfl, Below.refl _ _⟩
  · have d1 : decide ((x : Int) < 32) = false := by rw [decide_eq_false_iff_not]; omega
    by_cases h2 : x ≤ 126
    · have e : (!visR x) = false := by
        have : 32 ≤ x := by omega
        simp [visR, this, h2]
      have d2 : decide ((126 : Int) < (x : Int)) = false := by rw [decide_eq_false_iff_not]; omega
      rw [e]
      go_enter Tryz.func81, Tryz.ntmps81
      go_wp2_with fail
      go_ret
      exact ⟨rfl, Below.refl _ _⟩
    · have e : (!visR x) = true := by simp [visR, h2]
      have d2 : decide ((126 : Int) < (x : Int)) = true := by rw [decide_eq_true_iff]; omega
      rw [e]
      go_enter Tryz.func81, Tryz.ntmps81
      go_wp2_with fail
      go_ret
      exact ⟨rfl, Below.refl _ _⟩
set_option maxRecDepth 100000 in
set_option maxHeartbeats 2000000 in
theorem print_plain_any (l : List UInt8) (w : World) :
    Calls Tryz.prog 54 #[.string (B l)] w fun e w' => e = .returned (.bool (visL l)) ∧ Below w.heap.size w w' := by
  cases l with
  | nil =>
    go_enter Tryz.func54, Tryz.ntmps54
    go_wp2_with fail
    go_ret
    exact ⟨rfl, Below.refl _ _⟩
  | cons b l =>
    have hne : ((B (b :: l)).toList != []) = true := by rw [toList_B]; rfl
    have hne2 : (B (b :: l)).toList.isEmpty = false := by rw [toList_B]; rfl
    have hC := Lib.hid (Tryz.strings_ContainsFunc_grows 81 #[] (fun args w => by kernel_rfl) (fun c => !visR c) (B (b :: l)) w (notvis_grows w))
    have hi := idx_func visR visR_beyond (b :: l)
    have hd : decide ((0 : Int) ≤ Lib.idxFunc (fun c => !visR c) true (B (b :: l))) = !visL (b :: l) := by
      rw [hi, visL]
      show _ = !(true && List.all (b :: l) (fun b => visR b.toNat))
      cases (b :: l).all (fun b => visR b.toNat) with
      | true => rfl
      | false => simp <;> omega
    rw [hd] at hC
    clear hi hd
    go_enter Tryz.func54, Tryz.ntmps54
    go_wp2_with fail
    refine hC.out.mono ?_
    rintro e w' ⟨rfl, hb⟩
    go_wp2_with fail
    go_ret
    exact ⟨by simp, hb⟩
end Go.Proofs.YtbjekebkgidhaaaGreatDoor.P
end
section
set_option linter.unusedSimpArgs false
set_option linter.unusedVariables false
namespace Go.Proofs.YtbjekebkgidhaaaGreatDoor.P
open Go.RowKit Go.Lib Go.Shelf Go.Proofs.YtbjekebkgidhaaaGreatDoorW.PrintWords Go.Proofs.YtbjekebkgidhaaaGreatDoorW.PrintLast Go.Proofs.YtbjekebkgidhaaaGreatDoorW.PrintMore Go.Proofs.YtbjekebkgidhaaaGreatDoor.U Go.Proofs.YtbjekebkgidhaaaGreatDoor.PTh
structure Ed where
  o : List (List UInt8)
  i : List (List UInt8)
  m : List (List UInt8)
  r : List (List UInt8)
  c : List UInt8
  d : List UInt8
def rightE (e : Ed) : Bool := !e.o.isEmpty && (e.o ++ e.i ++ e.m ++ e.r).all rightL && visL e.c && (e.d.isEmpty || rightL e.d)
structure EdAt (w : World) (e : Ed) (A0 A1 A2 A3 : Option Addr) (c0 c1 c2 c3 : Nat) : Prop where
  l0 : e.o.length ≤ c0
  g0 : Kd.C Kd.string w A0 e.o.length (e.o.map B)
  l1 : e.i.length ≤ c1
  g1 : Kd.C Kd.string w A1 e.i.length (e.i.map B)
  l2 : e.m.length ≤ c2
  g2 : Kd.C Kd.string w A2 e.m.length (e.m.map B)
  l3 : e.r.length ≤ c3
  g3 : Kd.C Kd.string w A3 e.r.length (e.r.map B)
set_option maxRecDepth 100000 in
set_option maxHeartbeats 4000000 in
theorem right_any (e : Ed) (A0 A1 A2 A3 : Option Addr) (c0 c1 c2 c3 : Nat) (w : World) (hE : EdAt w e A0 A1 A2 A3 c0 c1 c2 c3) (hn : (e.o ++ e.i ++ e.m ++ e.r).length ≤ 100000) :
    Calls Tryz.prog 28 #[.agg #[.slice A0 e.o.length c0, .slice A1 e.i.length c1, .slice A2 e.m.length c2, .slice A3 e.r.length c3, .string (B e.c), .string (B e.d)]] w fun x w' => x = .returned (.bool (rightE e)) ∧ Below w.heap.size w w' := by
  have hu43 := Tryz.underlying47
  have hEH := Lib.hid hE
  clear hE
  by_cases h0 : e.o = []
  · have hr : rightE e = false := by simp [rightE, h0]
    rw [hr, h0]
    clear hr
    have hlt : decide ((0 : Int) < (0 : Int)) = false := rfl
    go_enter Tryz.func28, Tryz.ntmps28
    go_wp2_with fail
    go_ret
    exact ⟨rfl, (Below.refl _ w).alloc (Nat.le_refl _) _⟩
  · have hpos : 0 < e.o.length := List.length_pos_iff.2 h0
    have hlt : decide ((0 : Int) < (e.o.length : Int)) = true := by rw [decide_eq_true_iff]; omega
    have hre : rightE e = ((e.o ++ e.i ++ e.m ++ e.r).all rightL && visL e.c && (e.d.isEmpty || rightL e.d)) := by
      have : e.o.isEmpty = false := by cases h : e.o with | nil => exact absurd h h0 | cons _ _ => rfl
      simp [rightE, this]
    rw [hre]
    clear hre
    obtain ⟨rows, hrows⟩ : ∃ rows : List NRow, rows = [⟨A0, c0, e.o⟩, ⟨A1, c1, e.i⟩, ⟨A2, c2, e.m⟩, ⟨A3, c3, e.r⟩] := ⟨_, rfl⟩
    have hcat : catL rows = e.o ++ e.i ++ e.m ++ e.r := by rw [hrows]; simp [catL]
    have hP : ∀ (W : World) (R : Nat), Below w.heap.size w W → R < W.heap.size → W.heap[R]? = some (.cells #[.slice A0 e.o.length c0, .slice A1 e.i.length c1, .slice A2 e.m.length c2, .slice A3 e.r.length c3] 23 (0, 0)) → Calls Tryz.prog 25 #[.slice (some ⟨R, 0, none⟩) 4 4] W fun x w' => x = .returned (.bool ((e.o ++ e.i ++ e.m ++ e.r).all rightL)) ∧ Below W.heap.size W w' := by
      intro W R hW hR hh
      have := paths_any R 4 rows W (by
        have E := hEH.out
        intro i hi
        rw [hrows] at hi
        match i, hi with
        | 0, _ => rw [cell_of_heap hh]; simp only [hrows]; exact ⟨rfl, E.l0, Kd.C_below E.g0 hW⟩
        | 1, _ => rw [cell_of_heap hh]; simp only [hrows]; exact ⟨rfl, E.l1, Kd.C_below E.g1 hW⟩
        | 2, _ => rw [cell_of_heap hh]; simp only [hrows]; exact ⟨rfl, E.l2, Kd.C_below E.g2 hW⟩
        | 3, _ => rw [cell_of_heap hh]; simp only [hrows]; exact ⟨rfl, E.l3, Kd.C_below E.g3 hW⟩
        | (n + 4), h => simp at h; omega) hR (by rw [hrows]; show 4 ≤ 100; omega) (by rw [hcat]; exact hn)
      rw [hcat, hrows] at this
      exact this
    have hPH := Lib.hid hP
    have hQ := Lib.hid (fun W => print_plain_any e.c W)
    have hD := Lib.hid (fun W => path_Right.calls (B e.d) (rightL e.d) W (Right_f e.d))
    have hlens : Hid ((e.o ++ e.i ++ e.m ++ e.r).all rightL = (e.o ++ e.i ++ e.m ++ e.r).all rightL) := rfl
    generalize (e.o ++ e.i ++ e.m ++ e.r).all rightL = p at *
    generalize visL e.c = q at *
    generalize rightL e.d = dr at *
    clear hP hEH hlens hcat hrows hn
    go_enter Tryz.func28, Tryz.ntmps28
    go_wp2_with fail
    have hB0 := Lib.hid (((Below.refl w.heap.size w).alloc (Nat.le_refl _) (.cells #[.slice A0 e.o.length c0, .slice A1 e.i.length c1, .slice A2 e.m.length c2, .slice A3 e.r.length c3, .string (B e.c), .string (B e.d)] 47)).alloc (by simp) (.cells #[.slice A0 e.o.length c0, .slice A1 e.i.length c1, .slice A2 e.m.length c2, .slice A3 e.r.length c3] 23))
    have hC0 : ((w.alloc (.cells #[.slice A0 e.o.length c0, .slice A1 e.i.length c1, .slice A2 e.m.length c2, .slice A3 e.r.length c3, .string (B e.c), .string (B e.d)] 47)).alloc (.cells #[.slice A0 e.o.length c0, .slice A1 e.i.length c1, .slice A2 e.m.length c2, .slice A3 e.r.length c3] 23)).heap[w.heap.size]? = some (.cells #[.slice A0 e.o.length c0, .slice A1 e.i.length c1, .slice A2 e.m.length c2, .slice A3 e.r.length c3, .string (B e.c), .string (B e.d)] 47 (0, 0)) := (Below.heap_alloc _ _ _ (by simp)).trans (heap_alloc_new w _)
    have hS0 : w.heap.size < ((w.alloc (.cells #[.slice A0 e.o.length c0, .slice A1 e.i.length c1, .slice A2 e.m.length c2, .slice A3 e.r.length c3, .string (B e.c), .string (B e.d)] 47)).alloc (.cells #[.slice A0 e.o.length c0, .slice A1 e.i.length c1, .slice A2 e.m.length c2, .slice A3 e.r.length c3] 23)).heap.size := by simp; omega
    have hCall := Lib.hid (hPH.out _ (w.heap.size + 1) hB0.out (by simp) (by simpa using heap_alloc_new (w.alloc (.cells #[.slice A0 e.o.length c0, .slice A1 e.i.length c1, .slice A2 e.m.length c2, .slice A3 e.r.length c3, .string (B e.c), .string (B e.d)] 47)) (.cells #[.slice A0 e.o.length c0, .slice A1 e.i.length c1, .slice A2 e.m.length c2, .slice A3 e.r.length c3] 23)))
    clear hPH
    generalize (w.alloc (.cells #[.slice A0 e.o.length c0, .slice A1 e.i.length c1, .slice A2 e.m.length c2, .slice A3 e.r.length c3, .string (B e.c), .string (B e.d)] 47)).alloc (.cells #[.slice A0 e.o.length c0, .slice A1 e.i.length c1, .slice A2 e.m.length c2, .slice A3 e.r.length c3] 23) = W0 at *
    refine hCall.out.mono ?_
    rintro x w1 ⟨rfl, hb1⟩
    have hC1 := (hb1.block _ hS0).trans hC0
    have hB1 := Lib.hid (hB0.out.trans (hb1.mono hB0.out.size))
    have hS1 : w.heap.size < w1.heap.size := Nat.lt_of_lt_of_le hS0 hb1.size
    have k4 := (cell_of_heap (j := 4) hC1).trans rfl
    have k5 := (cell_of_heap (j := 5) hC1).trans rfl
    clear hb1 hC0 hB0 hS0 hCall
    cases p with
    | false =>
      go_wp2_with fail
      go_ret
      exact ⟨by simp, hB1.out⟩
    | true =>
      go_wp2_with fail
      refine (hQ.out _).mono ?_
      rintro x w2 ⟨rfl, hb2⟩
      have hC2 := (hb2.block _ hS1).trans hC1
      have hB2 := Lib.hid (hB1.out.trans (hb2.mono hB1.out.size))
      have j5 := (cell_of_heap (j := 5) hC2).trans rfl
      clear hb2 hC1 hB1
      cases q with
      | false =>
        go_wp2_with fail
        go_ret
        exact ⟨by simp, hB2.out⟩
      | true =>
        cases hd : e.d with
        | nil =>
          rw [hd] at j5
          have z1 : (B ([] : List UInt8)) = ⟨#[]⟩ := rfl
          rw [z1] at j5
          go_wp2_with fail
          go_ret
          exact ⟨by simp [hd], hB2.out⟩
        | cons b l =>
          rw [hd] at j5 hD
          have z1 : ((B (b :: l)).toList == []) = false := by rw [toList_B]; rfl
          have z2 : (B (b :: l)).toList.isEmpty = false := by rw [toList_B]; rfl
          go_wp2_with fail
          refine (hD.out _).mono ?_
          rintro x w3 ⟨rfl, hb3⟩
          go_wp2_with fail
          go_ret
          exact ⟨by simp [hd], hB2.out.trans (hb3.mono hB2.out.size)⟩
def toL (a : ByteArray) : List UInt8 := a.data.toList
theorem B_toL (a : ByteArray) : B (toL a) = a := (B_of a).symm
theorem map_B_toL (l : List ByteArray) : (l.map toL).map B = l := by
  rw [List.map_map]
  conv => rhs; rw [← List.map_id l]
  exact List.map_congr_left fun a _ => B_toL a
def edOf (x : S47) : Ed := ⟨x.f0.map toL, x.f1.map toL, x.f2.map toL, x.f3.map toL, toL x.f4, toL x.f5⟩
def rightS (x : S47) : Bool := rightE (edOf x)
def namesS (x : S47) : Nat := x.f0.length + x.f1.length + x.f2.length + x.f3.length
theorem right_S (x : S47) (A0 A1 A2 A3 : Option Addr) (c0 c1 c2 c3 : Nat) (w : World) (l0 : x.f0.length ≤ c0) (g0 : Kd.C Kd.string w A0 x.f0.length x.f0) (l1 : x.f1.length ≤ c1) (g1 : Kd.C Kd.string w A1 x.f1.length x.f1) (l2 : x.f2.length ≤ c2) (g2 : Kd.C Kd.string w A2 x.f2.length x.f2) (l3 : x.f3.length ≤ c3) (g3 : Kd.C Kd.string w A3 x.f3.length x.f3) (hn : namesS x ≤ 100000) :
    Calls Tryz.prog 28 #[.agg #[.slice A0 x.f0.length c0, .slice A1 x.f1.length c1, .slice A2 x.f2.length c2, .slice A3 x.f3.length c3, .string x.f4, .string x.f5]] w fun e w' => e = .returned (.bool (rightS x)) ∧ Below w.heap.size w w' := by
  have h := right_any (edOf x) A0 A1 A2 A3 c0 c1 c2 c3 w ⟨by simpa [edOf] using l0, by rw [edOf]; simp only [map_B_toL, List.length_map]; exact g0, by simpa [edOf] using l1, by rw [edOf]; simp only [map_B_toL, List.length_map]; exact g1, by simpa [edOf] using l2, by rw [edOf]; simp only [map_B_toL, List.length_map]; exact g2, by simpa [edOf] using l3, by rw [edOf]; simp only [map_B_toL, List.length_map]; exact g3⟩ (by simpa [edOf, namesS, Nat.add_assoc] using hn)
  simp only [edOf, List.length_map, B_toL] at h
  exact h
set_option maxRecDepth 100000 in
set_option maxHeartbeats 4000000 in
theorem edge_pred (x : S47) (A0 A1 A2 A3 : Option Addr) (c0 c1 c2 c3 : Nat) (w : World) (l0 : x.f0.length ≤ c0) (g0 : Kd.C Kd.string w A0 x.f0.length x.f0) (l1 : x.f1.length ≤ c1) (g1 : Kd.C Kd.string w A1 x.f1.length x.f1) (l2 : x.f2.length ≤ c2) (g2 : Kd.C Kd.string w A2 x.f2.length x.f2) (l3 : x.f3.length ≤ c3) (g3 : Kd.C Kd.string w A3 x.f3.length x.f3) (hn : namesS x ≤ 100000) :
    Calls Tryz.prog 27 #[.agg #[.slice A0 x.f0.length c0, .slice A1 x.f1.length c1, .slice A2 x.f2.length c2, .slice A3 x.f3.length c3, .string x.f4, .string x.f5]] w fun e w' => e = .returned (.bool (!rightS x)) ∧ Below w.heap.size w w' := by
  have hu43 := Tryz.underlying47
  have hB0 := Lib.hid ((Below.refl w.heap.size w).alloc (Nat.le_refl _) (.cells #[.slice A0 x.f0.length c0, .slice A1 x.f1.length c1, .slice A2 x.f2.length c2, .slice A3 x.f3.length c3, .string x.f4, .string x.f5] 47))
  have hR := Lib.hid (fun (W : World) (h : Below w.heap.size w W) => right_S x A0 A1 A2 A3 c0 c1 c2 c3 W l0 (Kd.C_below g0 h) l1 (Kd.C_below g1 h) l2 (Kd.C_below g2 h) l3 (Kd.C_below g3 h) hn)
  generalize rightS x = r at *
  clear l0 g0 l1 g1 l2 g2 l3 g3 hn
  go_enter Tryz.func27, Tryz.ntmps27
  go_wp2_with fail
  refine (hR.out _ hB0.out).mono ?_
  rintro e w1 ⟨rfl, hb1⟩
  have hB1 := Lib.hid (hB0.out.trans (hb1.mono hB0.out.size))
  clear hb1
  go_wp2_with fail
  go_ret
  exact ⟨rfl, hB1.out⟩
set_option maxRecDepth 100000 in
set_option maxHeartbeats 4000000 in
theorem idxE_any (A : Option Addr) (cap : Nat) (xs : List S47) (w : World) (hC : Kd.C k47 w A xs.length xs) (hn : xs.length ≤ 100000) (hx : ∀ x ∈ xs, namesS x ≤ 100000) :
    Calls Tryz.prog 53 #[.slice A xs.length cap, .func (.func 27) #[] #[]] w fun e w' =>
      ∃ k : Int, e = .returned (.int .i64 k) ∧ decide (0 ≤ k) = (!xs.all rightS) ∧ Below w.heap.size w w' := by
  have hu43 := Tryz.underlying47
  obtain ⟨N, hN⟩ : ∃ N, xs.length = N := ⟨_, rfl⟩
  have hCH := Lib.hid hC
  have hxH := Lib.hid hx
  clear hC hx
  rw [hN] at hn ⊢
  go_enter Tryz.func53, Tryz.ntmps53
  go_wp2_with fail
  go_loopg [8] N (fun gk s8 wr => ∃ i : Nat, s8 = .int .i64 (i : Int) ∧ i + gk = N ∧ Hid ((xs.take i).all rightS = true) ∧ Hid (Below w.heap.size w wr))
  case atStart => exact ⟨0, rfl, Nat.zero_add _, rfl, Below.refl _ _⟩
  case round =>
    obtain ⟨i, rfl, hik, hA, hB⟩ := hrel
    cases gk with
    | zero =>
      obtain rfl : i = N := by omega
      have hlt : decide ((i : Int) < (i : Int)) = false := by simp
      go_wp2_with fail
      go_ret
      refine ⟨_, rfl, ?_, hB.out⟩
      have := hA.out
      rw [← hN, List.take_length] at this
      rw [this]; rfl
    | succ gk =>
      have hiN : i < xs.length := by omega
      have hlt : decide ((i : Int) < (N : Int)) = true := by rw [decide_eq_true_iff]; omega
      have i1 : (0 : Int) ≤ (i : Int) := by omega
      have i2 : (i : Int) < (N : Int) := by omega
      have hCw : Kd.C k47 wr A N xs := by have := Kd.C_below hCH.out hB.out; rwa [hN] at this
      obtain ⟨ad, A0, c0, A1, c1, A2, c2, A3, c3, hA', q0, q1, q2, q3, q4, q5, l0, g0, l1, g1, l2, g2, l3, g3⟩ := at_T47 hCw (i : Int) i1 i2
      subst hA'
      have hrd : rd_T47 xs (i : Int) = xs[i] := by simp [rd_T47, List.getD_eq_getElem?_getD, List.getElem?_eq_getElem hiN]
      rw [Int.toNat_natCast] at q0 q1 q2 q3 q4 q5
      rw [hrd] at q0 q1 q2 q3 q4 q5 l0 g0 l1 g1 l2 g2 l3 g3
      have htake : Hid (xs.take (i + 1) = xs.take i ++ [xs[i]]) := List.take_succ_eq_append_getElem hiN
      have hnx := hxH.out xs[i] (List.getElem_mem hiN)
      have hmem : Hid (rightS xs[i] = false → xs.all rightS = false) := by
        intro hr
        rw [List.all_eq_false]
        exact ⟨xs[i], List.getElem_mem hiN, by simp [hr]⟩
      generalize xs[i] = x at *
      have hP := Lib.hid (edge_pred x A0 A1 A2 A3 c0 c1 c2 c3 wr l0 g0 l1 g1 l2 g2 l3 g3 hnx)
      clear l0 g0 l1 g1 l2 g2 l3 g3 hnx hCw hrd
      go_wp2_with fail
      refine hP.out.mono ?_
      rintro e w2 ⟨rfl, hb2⟩
      have hB2 := Lib.hid (hB.out.trans (hb2.mono hB.out.size))
      clear hb2 hP
      cases hr : rightS x with
      | false =>
        go_wp2_with fail
        go_ret
        refine ⟨_, rfl, ?_, hB2.out⟩
        rw [hmem.out hr]
        simp
      | true =>
        have hA2 : Hid ((xs.take (i + 1)).all rightS = true) := by
          show _ = _
          rw [htake.out, List.all_append, hA.out]; simp [hr]
        go_wp2_with fail
        go_roundg gk
        case measure => omega
        case rel => exact ⟨i + 1, by first | rfl | simp, by omega, hA2, hB2⟩
set_option maxRecDepth 100000 in
set_option maxHeartbeats 2000000 in
theorem containsE_any (A : Option Addr) (cap : Nat) (xs : List S47) (w : World) (hC : Kd.C k47 w A xs.length xs) (hn : xs.length ≤ 100000) (hx : ∀ x ∈ xs, namesS x ≤ 100000) :
    Calls Tryz.prog 26 #[.slice A xs.length cap, .func (.func 27) #[] #[]] w fun e w' =>
      e = .returned (.bool (!xs.all rightS)) ∧ Below w.heap.size w w' := by
  have hI := Lib.hid (idxE_any A cap xs w hC hn hx)
  generalize xs.all rightS = r at *
  clear hC hx
  go_enter Tryz.func26, Tryz.ntmps26
  go_wp2_with fail
  refine hI.out.mono ?_
  rintro e w1 ⟨k, rfl, hk, hb⟩
  go_wp2_with fail
  go_ret
  exact ⟨rfl, hb⟩
def rightM (edges : List S47) (defaults : List ByteArray) : Bool := decide (edges.length ≤ 200) && (defaults.map toL).all rightL && edges.all rightS
set_option maxRecDepth 100000 in
set_option maxHeartbeats 4000000 in
theorem Right_any (A0 A1 : Option Addr) (c0 c1 : Nat) (l0 : List S47) (l1 : List ByteArray) (w : World) (hr0 : Kd.C k47 w A0 l0.length l0) (hc0 : l0.length ≤ c0) (hr1 : Kd.C Kd.string w A1 l1.length l1) (hc1 : l1.length ≤ c1) (h0 : l0.length ≤ 100000) (h1 : l1.length ≤ 100000) (hx : ∀ x ∈ l0, namesS x ≤ 100000) :
    Calls Tryz.prog 12 #[.agg #[.slice A0 l0.length c0, .slice A1 l1.length c1]] w fun e w' => e = .returned (.bool (rightM l0 l1)) ∧ Below w.heap.size w w' := by
  have hu32 := Tryz.underlying32
  by_cases hle : l0.length ≤ 200
  · have hd : decide ((l0.length : Int) ≤ 200) = true := by rw [decide_eq_true_iff]; omega
    have hre : rightM l0 l1 = ((l1.map toL).all rightL && l0.all rightS) := by simp [rightM, hle]
    rw [hre]
    clear hre
    have hK := Lib.hid (fun (W : World) (h : Below w.heap.size w W) => containsE_any A0 c0 l0 W (Kd.C_below hr0 h) h0 hx)
    obtain ⟨rows, hrows⟩ : ∃ rows : List NRow, rows = [⟨A1, c1, l1.map toL⟩] := ⟨_, rfl⟩
    have hcat : catL rows = l1.map toL := by rw [hrows]; simp [catL]
    have hP : ∀ (W : World) (R : Nat), Below w.heap.size w W → R < W.heap.size → W.heap[R]? = some (.cells #[.slice A1 l1.length c1] 23 (0, 0)) → Calls Tryz.prog 25 #[.slice (some ⟨R, 0, none⟩) 1 1] W fun x w' => x = .returned (.bool ((l1.map toL).all rightL)) ∧ Below W.heap.size W w' := by
      intro W R hW hR hh
      have := paths_any R 1 rows W (by
        intro i hi
        rw [hrows] at hi
        match i, hi with
        | 0, _ => rw [cell_of_heap hh]; simp only [hrows]; exact ⟨by simp, by simpa using hc1, by simp only [List.getElem_cons_zero, map_B_toL, List.length_map]; exact Kd.C_below hr1 hW⟩
        | (n + 1), h => simp at h) hR (by rw [hrows]; show 1 ≤ 100; omega) (by rw [hcat]; simpa using h1)
      rw [hcat, hrows] at this
      exact this
    have hPH := Lib.hid hP
    generalize (l1.map toL).all rightL = p at *
    generalize l0.all rightS = q at *
    clear hP hcat hrows h0 h1 hx hr0 hc0 hr1 hc1
    have hB0 := Lib.hid (((Below.refl w.heap.size w).alloc (Nat.le_refl _) (.cells #[.slice A0 l0.length c0, .slice A1 l1.length c1] 32)).alloc (by simp) (.cells #[.slice A1 l1.length c1] 23))
    have hC0 : ((w.alloc (.cells #[.slice A0 l0.length c0, .slice A1 l1.length c1] 32)).alloc (.cells #[.slice A1 l1.length c1] 23)).heap[w.heap.size]? = some (.cells #[.slice A0 l0.length c0, .slice A1 l1.length c1] 32 (0, 0)) := (Below.heap_alloc _ _ _ (by simp)).trans (heap_alloc_new w _)
    have hS0 : w.heap.size < ((w.alloc (.cells #[.slice A0 l0.length c0, .slice A1 l1.length c1] 32)).alloc (.cells #[.slice A1 l1.length c1] 23)).heap.size := by simp; omega
    have hCall := Lib.hid (hPH.out _ (w.heap.size + 1) hB0.out (by simp) (by simpa using heap_alloc_new (w.alloc (.cells #[.slice A0 l0.length c0, .slice A1 l1.length c1] 32)) (.cells #[.slice A1 l1.length c1] 23)))
    clear hPH
    go_enter Tryz.func12, Tryz.ntmps12
    go_wp2_with fail
    generalize (w.alloc (.cells #[.slice A0 l0.length c0, .slice A1 l1.length c1] 32)).alloc (.cells #[.slice A1 l1.length c1] 23) = W0 at *
    refine hCall.out.mono ?_
    rintro x w1 ⟨rfl, hb1⟩
    have hC1 := (hb1.block _ hS0).trans hC0
    have hB1 := Lib.hid (hB0.out.trans (hb1.mono hB0.out.size))
    have k0 := (cell_of_heap (j := 0) hC1).trans rfl
    have hCall2 := Lib.hid (hK.out _ hB1.out)
    clear hb1 hC0 hB0 hS0 hCall hK hC1
    cases p with
    | false =>
      go_wp2_with fail
      go_ret
      exact ⟨by simp, hB1.out⟩
    | true =>
      go_wp2_with fail
      refine hCall2.out.mono ?_
      rintro x w2 ⟨rfl, hb2⟩
      have hB2 := Lib.hid (hB1.out.trans (hb2.mono hB1.out.size))
      clear hb2 hCall2
      go_wp2_with fail
      go_ret
      exact ⟨by simp, hB2.out⟩
  · have hd : decide ((l0.length : Int) ≤ 200) = false := by rw [decide_eq_false_iff_not]; omega
    have hre : rightM l0 l1 = false := by simp [rightM, hle]
    rw [hre]
    clear hre hr0 hr1 hx
    go_enter Tryz.func12, Tryz.ntmps12
    go_wp2_with fail
    go_ret
    exact ⟨rfl, (Below.refl _ w).alloc (Nat.le_refl _) _⟩
def print_Right.f (l0 : List S47) (l1 : List ByteArray) : Option Bool := if l0.length ≤ 100000 ∧ l1.length ≤ 100000 ∧ (∀ x ∈ l0, namesS x ≤ 100000) then some (rightM l0 l1) else none
theorem print_Right.calls (A0 : Option Addr) (c0 : Nat) (l0 : List S47) (A1 : Option Addr) (c1 : Nat) (l1 : List ByteArray) (r : Bool) (w : World) (hr0 : Kd.C k47 w A0 l0.length l0) (hc0 : l0.length ≤ c0) (hr1 : Kd.C Kd.string w A1 l1.length l1) (hc1 : l1.length ≤ c1) (h : print_Right.f l0 l1 = some r) :
    Calls Tryz.prog 12 #[.agg #[.slice A0 l0.length c0, .slice A1 l1.length c1]] w fun e w' => e = .returned (.bool r) ∧ Below w.heap.size w w' := by
  unfold print_Right.f at h
  split at h
  · rename_i hc
    obtain rfl : rightM l0 l1 = r := Option.some.inj h
    exact Right_any A0 A1 c0 c1 l0 l1 w hr0 hc0 hr1 hc1 hc.1 hc.2.1 hc.2.2
  · cases h
end Go.Proofs.YtbjekebkgidhaaaGreatDoor.P
end
section
namespace Go.Proofs.YtbjekebkgidhaaaGreatDoor.P
open Go.RowKit Go.Proofs.YtbjekebkgidhaaaGreatDoorW.PrintWords Go.Proofs.YtbjekebkgidhaaaGreatDoorW.PrintLast Go.Proofs.YtbjekebkgidhaaaGreatDoorW.PrintMore
attribute [local go_sem] max2_int min2_int max_two min_two max_three min_three max_four min_four
set_option linter.unusedVariables false
set_option linter.unusedSimpArgs false
def print_row.f (a0 : ByteArray) (l1 : List ByteArray) : Option (ByteArray) := if (l1.length : Int) = 0 then (some (⟨#[]⟩ : ByteArray)) else (if a0.size + 1 ≤ 9223372036854775807 then ((strings_Join.f l1 (⟨#[32]⟩ : ByteArray)).bind fun t124 => (if (a0 ++ (⟨#[32]⟩ : ByteArray)).size + t124.size ≤ 9223372036854775807 then (some ((a0 ++ (⟨#[32]⟩ : ByteArray)) ++ t124)) else (none))) else (none))
set_option maxHeartbeats 8000000 in
set_option maxRecDepth 100000 in
theorem print_row.calls (a0 : ByteArray) (A1 : Option Addr) (c1 : Nat) (l1 : List ByteArray) (r : ByteArray) (w : World) (hr1 : Kd.C Kd.string w A1 l1.length l1) (hc1 : l1.length ≤ c1) (h : print_row.f a0 l1 = some r) :
    Calls Tryz.prog 15 #[.string a0, .slice A1 l1.length c1] w fun e w' => e = .returned (.string r) ∧ Below w.heap.size w w' := by
  have HR1 := Aside0.mk hr1
  have HC1 := Aside0.mk hc1
  clear hr1 hc1
  have HB := Aside0.mk (Below.refl w.heap.size w)
  have H : (if (l1.length : Int) = 0 then (some (⟨#[]⟩ : ByteArray)) else (if a0.size + 1 ≤ 9223372036854775807 then ((strings_Join.f l1 (⟨#[32]⟩ : ByteArray)).bind fun t124 => (if (a0 ++ (⟨#[32]⟩ : ByteArray)).size + t124.size ≤ 9223372036854775807 then (some ((a0 ++ (⟨#[32]⟩ : ByteArray)) ++ t124)) else (none))) else (none))) = some r := h
  clear h
  by_cases c3 : (l1.length : Int) = 0
  · rw [if_pos c3] at H
    have c3b0 : ((l1.length : Int) == 0) = true := beq_iff_eq.mpr c3
    have c3b1 : ((l1.length : Int) != 0) = false := bne_eq_false_iff_eq.mpr c3
    clear c3
    obtain rfl := Option.some.inj H
    go_enter Tryz.func15, Tryz.ntmps15
    go_wp2
    go_ret
    exact ⟨by first | rfl | (simp [errW_none, errW_some] <;> rfl) | (simp [*, errW_none, errW_some] <;> rfl), by repeat (first | (with_reducible first | exact HB.out | apply below_alloc | apply pw_below_drewN | apply below_drew1) | exact HB.out)⟩
  · rw [if_neg c3] at H
    have c3b0 : ((l1.length : Int) == 0) = false := beq_eq_false_iff_ne.mpr c3
    have c3b1 : ((l1.length : Int) != 0) = true := bne_iff_ne.mpr c3
    have c3b2 : ¬ (l1 = []) := fun h_ => c3 (by rw [h_]; rfl)
    by_cases c4 : a0.size + 1 ≤ 9223372036854775807
    · rw [if_pos c4] at H
      have c4b0 := eq_true c4
      have c4b1 : decide (a0.size + 1 ≤ 9223372036854775807) = true := decide_eq_true c4
      try have c4b2 : (9223372036854775807 < a0.size + 1) = False := eq_false (Nat.not_lt.2 c4)
      try have c4b7 : (9223372036854775806 < a0.size) = False := eq_false (by omega)
      replace H := Option.bind_eq_some_iff.mp H
      obtain ⟨t124, A50, H⟩ := H
      replace H : (if (a0 ++ (⟨#[32]⟩ : ByteArray)).size + t124.size ≤ 9223372036854775807 then (some ((a0 ++ (⟨#[32]⟩ : ByteArray)) ++ t124)) else (none)) = some r := H
      have A5 := Aside0.mk A50
      clear A50
      by_cases c6 : (a0 ++ (⟨#[32]⟩ : ByteArray)).size + t124.size ≤ 9223372036854775807
      · rw [if_pos c6] at H
        have c6b0 := eq_true c6
        have c6b1 : decide ((a0 ++ (⟨#[32]⟩ : ByteArray)).size + t124.size ≤ 9223372036854775807) = true := decide_eq_true c6
        try have c6b2 : (9223372036854775807 < (a0 ++ (⟨#[32]⟩ : ByteArray)).size + t124.size) = False := eq_false (Nat.not_lt.2 c6)
        try have c6b7 : (9223372036854775807 < a0.size + 1 + t124.size) = False := eq_false (by have hh_ := c6; rw [ByteArray.size_append] at hh_; exact Nat.not_lt.2 hh_)
        obtain rfl := Option.some.inj H
        go_enter Tryz.func15, Tryz.ntmps15
        go_wp2_with (first | ((with_reducible refine gate_callee (f := 32) rfl ?_); refine goesL_ (some 11) rfl rfl Tryz.func32 (by kernel_rfl) rfl #[.slice A1 l1.length c1, .string (⟨#[32]⟩ : ByteArray)] rfl (by (try simp only [List.map_toArray, List.map_cons, List.map_nil]); first | done | rfl | (simp only [List.length_drop, List.length_take]; rfl)) ?_; (with_reducible refine (strings_Join.calls _ _ l1 (⟨#[32]⟩ : ByteArray) t124 _ ?side1 ?side2 A5.out).mono ?_); (case side1 => repeat (first | exact HR1.out | (with_reducible refine Kd.C_alloc ?_ _) | (with_reducible refine Kd.C_drewN ?_ _) | (with_reducible refine Kd.C_drew ?_))); (case side2 => exact HC1.out); rintro e w7 ⟨rfl, hb⟩; refine ⟨_, rfl, ?_⟩; have n0_ := Aside0.mk (below_step (by repeat (first | (with_reducible first | exact HB.out | apply below_alloc | apply pw_below_drewN | apply below_drew1) | exact HB.out)) hb); clear HB; have HB := n0_; clear n0_; (try clear hb); (try clear hb2); (try clear hk); (try clear hi)))
        go_ret
        exact ⟨by first | rfl | (simp [errW_none, errW_some] <;> rfl) | (simp [*, errW_none, errW_some] <;> rfl), by repeat (first | (with_reducible first | exact HB.out | apply below_alloc | apply pw_below_drewN | apply below_drew1) | exact HB.out)⟩
      · rw [if_neg c6] at H
        exact absurd H (by simp)
    · rw [if_neg c4] at H
      exact absurd H (by simp)
end Go.Proofs.YtbjekebkgidhaaaGreatDoor.P
end
