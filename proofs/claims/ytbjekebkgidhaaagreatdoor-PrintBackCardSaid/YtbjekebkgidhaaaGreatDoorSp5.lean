/- Laid together by wip/tools/shake.py from texts of this claim: MfTakesI, MfTakes, MfEndsA, MfEnds, MfCatch, MfParseA, Lines, LinesF, MfParseB, MfParseC, MfParse, MfTold, MfOut, PrBackL. -/
import Derived.Test.YtbjekebkgidhaaaGreatDoorSp4
import Derived.Recover
import Derived.Defers
import Derived.Tactics2
import Derived.OwnWalk
import Derived.Laws.AppendOwn
import Derived.Maps.AppendAt
import Derived.Below
section
set_option linter.unusedSimpArgs false
set_option linter.unusedVariables false
namespace Go.Proofs.YtbjekebkgidhaaaGreatDoor.Mf
open Go.RowKit Go.Lib Go.Shelf Go.Maps Go.Proofs.YtbjekebkgidhaaaGreatDoorW.PrintWords Go.Proofs.YtbjekebkgidhaaaGreatDoor.U Go.Proofs.YtbjekebkgidhaaaGreatDoor.Sc Go.Proofs.YtbjekebkgidhaaaGreatDoor.P Go.Proofs.YtbjekebkgidhaaaGreatDoor.MapV
set_option maxRecDepth 100000 in
set_option maxHeartbeats 8000000 in
theorem takes_in (B0 : Nat) (g : Mem) (st : St) (text : Txt) (num : Nat) (w : World) (hI : Inv B0 w g st) (htl : text.length ≤ 16384) (hgn : g.n < 1000000) :
    Calls Tryz.prog 21 #[at0 g.r, .agg #[.bool true, .string (B text), .int .i64 (num : Int)]] w (Steps B0 g (innerE st num text) w) := by
  have hB0 := hI.base
  have hg0 := hI.new g.r (by rw [hI.rr]; decide)
  have hrlt := lt_blk hI.hr
  have c4 : w.cell? ⟨g.r, 4, none⟩ = some (.int .i64 (g.line : Int)) := hI.cell 4
  have f4 : w.frozen? ⟨g.r, 4, none⟩ = false := hI.free 4
  have hnr : Hid (w.heap.size ≠ g.r) := by show _ ≠ _; omega
  have hsz : (w.setCell ⟨g.r, 4, none⟩ (.int .i64 (num : Int))).heap.size = w.heap.size := by simp
  have hI1 : Hid (Inv B0 ((w.setCell ⟨g.r, 4, none⟩ (.int .i64 (num : Int))).alloc (.cells #[.bool true, .string (B text), .int .i64 (num : Int)] 72)) { g with line := num } st) := (hI.lineSet num).below ((Below.refl _ _).alloc (Nat.le_refl _) _)
  have hn1 : Hid (((w.setCell ⟨g.r, 4, none⟩ (.int .i64 (num : Int))).alloc (.cells #[.bool true, .string (B text), .int .i64 (num : Int)] 72)).heap[w.heap.size]? = some (.cells #[.bool true, .string (B text), .int .i64 (num : Int)] 72)) := by
    have := heap_alloc_new (w.setCell ⟨g.r, 4, none⟩ (.int .i64 (num : Int))) (.cells #[.bool true, .string (B text), .int .i64 (num : Int)] 72)
    rw [hsz] at this; exact this
  have hB1 : Hid (Below B0 w ((w.setCell ⟨g.r, 4, none⟩ (.int .i64 (num : Int))).alloc (.cells #[.bool true, .string (B text), .int .i64 (num : Int)] 72))) := ((Below.refl _ _).setCell hg0 _).alloc (by rw [hsz]; exact hB0) _
  clear hsz
  have hIH := Lib.hid hI
  have hq1 := neq_none
  have hq2 := neq_some
  clear hI
  go_enter Tryz.func21, Tryz.ntmps21
  go_upto_region 2 with (fail)
  generalize ((w.setCell ⟨g.r, 4, none⟩ (.int .i64 (num : Int))).alloc (.cells #[.bool true, .string (B text), .int .i64 (num : Int)] 72)) = w1 at *
  have e0 : w1.cell? ⟨w.heap.size, 0, none⟩ = some (.bool true) := (cell_of_heap (j := 0) hn1.out).trans rfl
  have e1 : w1.cell? ⟨w.heap.size, 1, none⟩ = some (.string (B text)) := (cell_of_heap (j := 1) hn1.out).trans rfl
  have hg1 : Hid (w1.heap[g.r]? = w1.heap[g.r]?) := rfl
  clear c4 f4
  rcases hI1.out.inn with ⟨a1, a2, a3⟩ | ⟨a1, a2, a3, p, q, a4, a5, a6, a7, a8⟩ | ⟨a1, a2, a3, p, q, a4, a5, a6, a7, a8⟩
  · have c5 : w1.cell? ⟨g.r, 5, none⟩ = some .nilFunc := (hI1.out.cell 5).trans (by rw [← a2]; rfl)
    have hR : Hid (innerE st num text = .error (num, 10)) := innerE_0 a1
    clear a1 a2 a3
    go_wp2_with fail
    refine (need_no g.r num 10 _ (hI1.out.cell 4)).mono ?_
    rintro e w2 ⟨rfl, rfl⟩
    exact ⟨rfl, Steps.bad hR.out hB1.out⟩
  · have hvi : ({ g with line := num } : Mem).vi = .func (.func 72) #[] #[at0 p, at0 q] := a4
    have c5 : w1.cell? ⟨g.r, 5, none⟩ = some (.func (.func 72) #[] #[at0 p, at0 q]) := (hI1.out.cell 5).trans (by rw [← a4]; rfl)
    have hviH := Lib.hid hvi
    clear a2 a3 a4 a5 a6 a7 a8 hvi
    go_wp2_with fail
    refine (need_ok _ _ _).mono ?_
    rintro e w2 ⟨rfl, rfl⟩
    go_wp2_with fail
    refine RegP.regionH (fun w' => w'.cell? ⟨g.r, 5, none⟩ = some (.func (.func 72) #[] #[at0 p, at0 q]) ∧ w'.cell? ⟨w.heap.size, 1, none⟩ = some (.string (B text))) [(0, 0), (0, 1), (0, 2), (1, 3), (0, 4), (0, 5), (1, 6), (2, 7), (0, 8), (0, 9), (2, 10)] (by kernel_rfl) (by kernel_rfl) (by rfl) (by kernel_rfl) (by exact ⟨c5, e1⟩) ?_
    refine RegP.pure1 (by (simp only [gA,gB,gC]); rfl) (by exact fun _ _ _ h => h) (by rfl) (by intro w'; go_simp; try with_reducible rfl) ?_
    try simp only [Act.put, pA,pB,pC]
    refine RegP.pure1 (by (simp only [gA,gB,gC]); rfl) (by exact fun _ _ _ h => h) (by rfl) (by intro w'; go_simp; try with_reducible rfl) ?_
    try simp only [Act.put, pA,pB,pC]
    refine RegP.pure1 (by (simp only [gA,gB,gC]); rfl) (by exact fun _ _ _ h => h) (by rfl) (by intro w'; go_simp; try with_reducible rfl) ?_
    try simp only [Act.put, pA,pB,pC]
    refine RegP.held1 (by (simp only [gA,gB,gC]); rfl) (by exact fun _ _ _ h => h) (by rfl) (by intro w' hS_; (try dsimp only at hS_); go_split_ands; go_simp; try with_reducible rfl) ?_
    try simp only [Act.put, pA,pB,pC]
    refine RegP.pure1 (by (simp only [gA,gB,gC]); rfl) (by exact fun _ _ _ h => h) (by rfl) (by intro w'; go_simp; try with_reducible rfl) ?_
    try simp only [Act.put, pA,pB,pC]
    refine RegP.pure1 (by (simp only [gA,gB,gC]); rfl) (by exact fun _ _ _ h => h) (by rfl) (by intro w'; go_simp; try with_reducible rfl) ?_
    try simp only [Act.put, pA,pB,pC]
    refine RegP.held1 (by (simp only [gA,gB,gC]); rfl) (by exact fun _ _ _ h => h) (by rfl) (by intro w' hS_; (try dsimp only at hS_); go_split_ands; go_simp; try with_reducible rfl) ?_
    try simp only [Act.put, pA,pB,pC]
    refine RegP.ev1 (by (simp only [gA,gB,gC]); rfl) (fun K hK => ?_)
    rcases hs : setE num text with ⟨l1, e1⟩ | ⟨nm, v⟩
    · have hR : Hid (innerE st num text = .error (l1, e1)) := innerE_bad (by omega) hs
      go_simp
      have hP := set_any g.r num [⟨g.fb, g.fm, g.n, st.file⟩] (at0 g.fb) text (by omega) w1.drew (hI1.out.below (Below.refl _ _).drew).rd
      rw [hs] at hP
      refine hP.mono ?_
      rintro e w2 ⟨rfl, hb⟩
      exact ⟨rfl, Steps.bad hR.out (hB1.out.trans ((((Below.refl _ _).drew).trans hb).mono hI1.out.base))⟩
    have hso := setE_ok hs
    go_simp
    have hP := set_any g.r num [⟨g.fb, g.fm, g.n, st.file⟩] (at0 g.fb) text (by omega) w1.drew (hI1.out.below (Below.refl _ _).drew).rd
    rw [hs] at hP
    refine hP.mono ?_
    rintro e w2 ⟨rfl, hb⟩
    clear hP
    have hb2 := Lib.hid (((Below.refl w1.heap.size w1).drew).trans hb)
    have hI2 := Lib.hid (hI1.out.below hb2.out)
    clear hb
    refine hK.out _ _ ?_ (fun hHeld => ?_)
    · (try dsimp only); exact ⟨(hb2.out.cell (p := ⟨g.r, 5, none⟩) (lt_blk hI1.out.hr)).trans c5, (hb2.out.cell (p := ⟨w.heap.size, 1, none⟩) (lt_blk hn1.out)).trans e1⟩
    clear hK K
    try simp only [Act.put, pA,pB,pC]
    refine RegP.pure1 (by (simp only [gA,gB,gC]); rfl) (by exact fun _ _ _ h => h) (by rfl) (by intro w'; go_simp; try with_reducible rfl) ?_
    try simp only [Act.put, pA,pB,pC]
    refine RegP.pure1 (by (simp only [gA,gB,gC]); rfl) (by exact fun _ _ _ h => h) (by rfl) (by intro w'; go_simp; try with_reducible rfl) ?_
    try simp only [Act.put, pA,pB,pC]
    refine RegP.ev1 (by (simp only [gA,gB,gC]); rfl) (fun K hK => ?_)
    have hP : Calls Tryz.prog 72 #[.string (B nm), .string (B v), at0 p, at0 q] w2 (Inner B0 { g with line := num } st (inR st num nm v) w2) := ruleIn_any B0 { g with line := num } st nm v p q w2 hI2.out a1 hviH.out (by omega) (by omega) hgn
    rcases hin : inR st num nm v with ⟨l2, e2⟩ | st2
    · have hR : Hid (innerE st num text = .error (l2, e2)) := (innerE_1 a1 hs).trans hin
      go_simp
      rw [hin] at hP
      refine hP.mono ?_
      rintro e w3 ⟨rfl, hb⟩
      exact ⟨rfl, Steps.bad hR.out (hB1.out.trans ((hb2.out.mono hI1.out.base).trans hb))⟩
    have hR : Hid (innerE st num text = .ok st2) := (innerE_1 a1 hs).trans hin
    go_simp
    rw [hin] at hP
    refine hP.mono ?_
    rintro e w3 ⟨rfl, ⟨g', q1, q2, q3⟩, hb, hk⟩
    have hq1 := Lib.hid q1
    have hb3 := Lib.hid (hB1.out.trans ((hb2.out.mono hI1.out.base).trans hb))
    have hKr : Hid (w3.heap[g.r]? = w1.heap[g.r]?) := by
      have h1 := lt_blk hI1.out.hr
      have h2 := hI2.out.apart g.r (.inr rfl)
      exact (hk g.r (Nat.lt_of_lt_of_le h1 hb2.out.size) h2.1 h2.2).trans (hb2.out.block _ h1)
    have hKn : Hid (w3.heap[w.heap.size]? = w1.heap[w.heap.size]?) := by
      have h1 := lt_blk hn1.out
      have h2 := hIH.out.apart w.heap.size (.inl (Nat.le_refl _))
      exact (hk w.heap.size (Nat.lt_of_lt_of_le h1 hb2.out.size) h2.1 h2.2).trans (hb2.out.block _ h1)
    clear hP q1 hb hk
    refine hK.out _ _ ?_ (fun hHeld => ?_)
    · (try dsimp only); exact ⟨(World.cell?_of_block (a := ⟨g.r, 5, none⟩) hKr.out).trans c5, (World.cell?_of_block (a := ⟨w.heap.size, 1, none⟩) hKn.out).trans e1⟩
    clear hK K
    try simp only [Act.put, pA,pB,pC]
    refine RegP.done1 ?_
    clear hHeld
    try dsimp only
    go_wp2_with fail
    go_end0
    exact Steps.fin hR.out hq1.out q2 q3 hb3.out
  · have hvi : ({ g with line := num } : Mem).vi = .func (.func 76) #[] #[at0 p, at0 q] := a4
    have c5 : w1.cell? ⟨g.r, 5, none⟩ = some (.func (.func 76) #[] #[at0 p, at0 q]) := (hI1.out.cell 5).trans (by rw [← a4]; rfl)
    have hviH := Lib.hid hvi
    clear a2 a3 a4 a5 a6 a7 a8 hvi
    go_wp2_with fail
    refine (need_ok _ _ _).mono ?_
    rintro e w2 ⟨rfl, rfl⟩
    go_wp2_with fail
    refine RegP.regionH (fun w' => w'.cell? ⟨g.r, 5, none⟩ = some (.func (.func 76) #[] #[at0 p, at0 q]) ∧ w'.cell? ⟨w.heap.size, 1, none⟩ = some (.string (B text))) [(0, 0), (0, 1), (0, 2), (1, 3), (0, 4), (0, 5), (1, 6), (2, 7), (0, 8), (0, 9), (2, 10)] (by kernel_rfl) (by kernel_rfl) (by rfl) (by kernel_rfl) (by exact ⟨c5, e1⟩) ?_
    refine RegP.pure1 (by (simp only [gA,gB,gC]); rfl) (by exact fun _ _ _ h => h) (by rfl) (by intro w'; go_simp; try with_reducible rfl) ?_
    try simp only [Act.put, pA,pB,pC]
    refine RegP.pure1 (by (simp only [gA,gB,gC]); rfl) (by exact fun _ _ _ h => h) (by rfl) (by intro w'; go_simp; try with_reducible rfl) ?_
    try simp only [Act.put, pA,pB,pC]
    refine RegP.pure1 (by (simp only [gA,gB,gC]); rfl) (by exact fun _ _ _ h => h) (by rfl) (by intro w'; go_simp; try with_reducible rfl) ?_
    try simp only [Act.put, pA,pB,pC]
    refine RegP.held1 (by (simp only [gA,gB,gC]); rfl) (by exact fun _ _ _ h => h) (by rfl) (by intro w' hS_; (try dsimp only at hS_); go_split_ands; go_simp; try with_reducible rfl) ?_
    try simp only [Act.put, pA,pB,pC]
    refine RegP.pure1 (by (simp only [gA,gB,gC]); rfl) (by exact fun _ _ _ h => h) (by rfl) (by intro w'; go_simp; try with_reducible rfl) ?_
    try simp only [Act.put, pA,pB,pC]
    refine RegP.pure1 (by (simp only [gA,gB,gC]); rfl) (by exact fun _ _ _ h => h) (by rfl) (by intro w'; go_simp; try with_reducible rfl) ?_
    try simp only [Act.put, pA,pB,pC]
    refine RegP.held1 (by (simp only [gA,gB,gC]); rfl) (by exact fun _ _ _ h => h) (by rfl) (by intro w' hS_; (try dsimp only at hS_); go_split_ands; go_simp; try with_reducible rfl) ?_
    try simp only [Act.put, pA,pB,pC]
    refine RegP.ev1 (by (simp only [gA,gB,gC]); rfl) (fun K hK => ?_)
    rcases hs : setE num text with ⟨l1, e1⟩ | ⟨nm, v⟩
    · have hR : Hid (innerE st num text = .error (l1, e1)) := innerE_bad (by omega) hs
      go_simp
      have hP := set_any g.r num [⟨g.fb, g.fm, g.n, st.file⟩] (at0 g.fb) text (by omega) w1.drew (hI1.out.below (Below.refl _ _).drew).rd
      rw [hs] at hP
      refine hP.mono ?_
      rintro e w2 ⟨rfl, hb⟩
      exact ⟨rfl, Steps.bad hR.out (hB1.out.trans ((((Below.refl _ _).drew).trans hb).mono hI1.out.base))⟩
    have hso := setE_ok hs
    go_simp
    have hP := set_any g.r num [⟨g.fb, g.fm, g.n, st.file⟩] (at0 g.fb) text (by omega) w1.drew (hI1.out.below (Below.refl _ _).drew).rd
    rw [hs] at hP
    refine hP.mono ?_
    rintro e w2 ⟨rfl, hb⟩
    clear hP
    have hb2 := Lib.hid (((Below.refl w1.heap.size w1).drew).trans hb)
    have hI2 := Lib.hid (hI1.out.below hb2.out)
    clear hb
    refine hK.out _ _ ?_ (fun hHeld => ?_)
    · (try dsimp only); exact ⟨(hb2.out.cell (p := ⟨g.r, 5, none⟩) (lt_blk hI1.out.hr)).trans c5, (hb2.out.cell (p := ⟨w.heap.size, 1, none⟩) (lt_blk hn1.out)).trans e1⟩
    clear hK K
    try simp only [Act.put, pA,pB,pC]
    refine RegP.pure1 (by (simp only [gA,gB,gC]); rfl) (by exact fun _ _ _ h => h) (by rfl) (by intro w'; go_simp; try with_reducible rfl) ?_
    try simp only [Act.put, pA,pB,pC]
    refine RegP.pure1 (by (simp only [gA,gB,gC]); rfl) (by exact fun _ _ _ h => h) (by rfl) (by intro w'; go_simp; try with_reducible rfl) ?_
    try simp only [Act.put, pA,pB,pC]
    refine RegP.ev1 (by (simp only [gA,gB,gC]); rfl) (fun K hK => ?_)
    have hP : Calls Tryz.prog 76 #[.string (B nm), .string (B v), at0 p, at0 q] w2 (Inner B0 { g with line := num } st (inB st num nm v) w2) := buildIn_any B0 { g with line := num } st nm v p q w2 hI2.out a1 hviH.out hso.1 (by omega) (by omega) hgn
    rcases hin : inB st num nm v with ⟨l2, e2⟩ | st2
    · have hR : Hid (innerE st num text = .error (l2, e2)) := (innerE_2 a1 hs).trans hin
      go_simp
      rw [hin] at hP
      refine hP.mono ?_
      rintro e w3 ⟨rfl, hb⟩
      exact ⟨rfl, Steps.bad hR.out (hB1.out.trans ((hb2.out.mono hI1.out.base).trans hb))⟩
    have hR : Hid (innerE st num text = .ok st2) := (innerE_2 a1 hs).trans hin
    go_simp
    rw [hin] at hP
    refine hP.mono ?_
    rintro e w3 ⟨rfl, ⟨g', q1, q2, q3⟩, hb, hk⟩
    have hq1 := Lib.hid q1
    have hb3 := Lib.hid (hB1.out.trans ((hb2.out.mono hI1.out.base).trans hb))
    have hKr : Hid (w3.heap[g.r]? = w1.heap[g.r]?) := by
      have h1 := lt_blk hI1.out.hr
      have h2 := hI2.out.apart g.r (.inr rfl)
      exact (hk g.r (Nat.lt_of_lt_of_le h1 hb2.out.size) h2.1 h2.2).trans (hb2.out.block _ h1)
    have hKn : Hid (w3.heap[w.heap.size]? = w1.heap[w.heap.size]?) := by
      have h1 := lt_blk hn1.out
      have h2 := hIH.out.apart w.heap.size (.inl (Nat.le_refl _))
      exact (hk w.heap.size (Nat.lt_of_lt_of_le h1 hb2.out.size) h2.1 h2.2).trans (hb2.out.block _ h1)
    clear hP q1 hb hk
    refine hK.out _ _ ?_ (fun hHeld => ?_)
    · (try dsimp only); exact ⟨(World.cell?_of_block (a := ⟨g.r, 5, none⟩) hKr.out).trans c5, (World.cell?_of_block (a := ⟨w.heap.size, 1, none⟩) hKn.out).trans e1⟩
    clear hK K
    try simp only [Act.put, pA,pB,pC]
    refine RegP.done1 ?_
    clear hHeld
    try dsimp only
    go_wp2_with fail
    go_end0
    exact Steps.fin hR.out hq1.out q2 q3 hb3.out
end Go.Proofs.YtbjekebkgidhaaaGreatDoor.Mf
end
section
set_option linter.unusedSimpArgs false
set_option linter.unusedVariables false
namespace Go.Proofs.YtbjekebkgidhaaaGreatDoor.Mf
open Go.RowKit Go.Lib Go.Shelf Go.Maps Go.Proofs.YtbjekebkgidhaaaGreatDoorW.PrintWords Go.Proofs.YtbjekebkgidhaaaGreatDoor.U Go.Proofs.YtbjekebkgidhaaaGreatDoor.Sc Go.Proofs.YtbjekebkgidhaaaGreatDoor.P Go.Proofs.YtbjekebkgidhaaaGreatDoor.MapV
set_option maxRecDepth 100000 in
set_option maxHeartbeats 8000000 in
theorem takes_left (B0 : Nat) (g : Mem) (st : St) (text : Txt) (num : Nat) (w : World) (hI : Inv B0 w g st) (htl : text.length ≤ 16384) (hgn : g.n < 1000000) (hdl : st.defs.length ≤ 300000000) :
    Calls Tryz.prog 21 #[at0 g.r, .agg #[.bool false, .string (B text), .int .i64 (num : Int)]] w (Steps B0 g (leftE st num text) w) := by
  have hB0 := hI.base
  have hg0 := hI.new g.r (by rw [hI.rr]; decide)
  have hrlt := lt_blk hI.hr
  have c4 : w.cell? ⟨g.r, 4, none⟩ = some (.int .i64 (g.line : Int)) := hI.cell 4
  have f4 : w.frozen? ⟨g.r, 4, none⟩ = false := hI.free 4
  have hnr : Hid (w.heap.size ≠ g.r) := by show _ ≠ _; omega
  have hsz : (w.setCell ⟨g.r, 4, none⟩ (.int .i64 (num : Int))).heap.size = w.heap.size := by simp
  have hI1 : Hid (Inv B0 ((w.setCell ⟨g.r, 4, none⟩ (.int .i64 (num : Int))).alloc (.cells #[.bool false, .string (B text), .int .i64 (num : Int)] 72)) { g with line := num } st) := (hI.lineSet num).below ((Below.refl _ _).alloc (Nat.le_refl _) _)
  have hn1 : Hid (((w.setCell ⟨g.r, 4, none⟩ (.int .i64 (num : Int))).alloc (.cells #[.bool false, .string (B text), .int .i64 (num : Int)] 72)).heap[w.heap.size]? = some (.cells #[.bool false, .string (B text), .int .i64 (num : Int)] 72)) := by
    have := heap_alloc_new (w.setCell ⟨g.r, 4, none⟩ (.int .i64 (num : Int))) (.cells #[.bool false, .string (B text), .int .i64 (num : Int)] 72)
    rw [hsz] at this; exact this
  have hB1 : Hid (Below B0 w ((w.setCell ⟨g.r, 4, none⟩ (.int .i64 (num : Int))).alloc (.cells #[.bool false, .string (B text), .int .i64 (num : Int)] 72))) := ((Below.refl _ _).setCell hg0 _).alloc (by rw [hsz]; exact hB0) _
  clear hsz
  have hIH := Lib.hid hI
  have hq1 := neq_none
  have hq2 := neq_some
  clear hI
  go_enter Tryz.func21, Tryz.ntmps21
  go_upto_region 2 with (fail)
  generalize ((w.setCell ⟨g.r, 4, none⟩ (.int .i64 (num : Int))).alloc (.cells #[.bool false, .string (B text), .int .i64 (num : Int)] 72)) = w1 at *
  have e0 : w1.cell? ⟨w.heap.size, 0, none⟩ = some (.bool false) := (cell_of_heap (j := 0) hn1.out).trans rfl
  have e1 : w1.cell? ⟨w.heap.size, 1, none⟩ = some (.string (B text)) := (cell_of_heap (j := 1) hn1.out).trans rfl
  have hg1 : Hid (w1.heap[g.r]? = w1.heap[g.r]?) := rfl
  clear c4 f4
  have hq3 := neq_none2
  have hq4 := neq_some2
  go_wp2_with fail
  rcases hc : closeE st with ⟨l1, e1⟩ | st2
  · have hR : Hid (leftE st num text = .error (l1, e1)) := by show _ = _; rw [leftE, hc]
    have hP := close_far B0 { g with line := num } st w1 hI1.out
    rw [hc] at hP
    refine hP.mono ?_
    rintro e w2 ⟨rfl, hb⟩
    exact ⟨rfl, Steps.bad hR.out (hB1.out.trans hb)⟩
  have hP := close_far B0 { g with line := num } st w1 hI1.out
  rw [hc] at hP
  refine hP.mono ?_
  rintro e w2 ⟨rfl, ⟨g2, i1, i2, i3, i4, i5⟩, hb, hk, hsz⟩
  have hI2 := Lib.hid i1
  have hr2 : g2.r = g.r := i2
  have hn2 : g2.n = g.n := i3
  have hl2 : g2.line = num := i4
  have hB2 := Lib.hid (hB1.out.trans hb)
  have hn2' := Lib.hid ((hk _ hnr.out).trans hn1.out)
  have hd2 : st2.defs = st.defs := by
    have := hc
    unfold closeE at this
    split at this
    · split at this
      · split at this
        · cases this
        · injection this with this; rw [← this]
      · injection this with this; rw [← this]
    · injection this with this; rw [← this]
  have x1 : w2.cell? ⟨w.heap.size, 1, none⟩ = some (.string (B text)) := (cell_of_heap (j := 1) hn2'.out).trans rfl
  clear hP i1 i2 i3 i4 hb hk hsz e0 e1 hg1
  go_wp2_with fail
  refine (words_C text (by omega) _).mono ?_
  rintro e w3 ⟨A, c, rfl, hwc, hW, hb⟩
  have hwl : (Lex.words text).length ≤ 16384 := Nat.le_trans (Lex.words_len text) htl
  have hwt : ∀ t ∈ Lex.words text, t.length ≤ 1000000 := words_short text (by omega)
  have hB3 := Lib.hid (hB2.out.trans (hb.mono hI2.out.base))
  have hI3 := Lib.hid (hI2.out.below hb)
  have hn3 := Lib.hid ((hb.block _ (lt_blk hn2'.out)).trans hn2'.out)
  clear hb x1
  rcases hws : Lex.words text with _ | ⟨wd, ws⟩
  · have hR : Hid (leftE st num text = .error (num, 10)) := by show _ = _; rw [leftE, hc, hws]
    rw [hws] at hwc
    clear hws hwl hwt hW hc
    go_wp2_with fail
    have h4 := hI3.out.cell 4
    rw [hr2, show (#[at0 g2.fb, Value.map (some g2.rm), g2.ve, g2.vd, .int .i64 (g2.line : Int), g2.vi, g2.vo][4]? : Option Value) = some (.int .i64 (g2.line : Int)) from rfl, hl2] at h4
    refine (need_no g.r num 10 _ h4).mono ?_
    rintro e w4 ⟨rfl, rfl⟩
    exact ⟨rfl, Steps.bad hR.out hB3.out⟩
  have hL0 : Hid (leftE st num text = if wd = kRule then ruleE st2 num (wd :: ws) else if wd = kBuild then buildE st2 num (wd :: ws) else if wd = kDefault then targetsE st2 num (wd :: ws) else setLineE st2 num text) := by
    show _ = _; rw [leftE, hc, hws]
  rw [hws] at hwc hW hwl hwt
  obtain ⟨ad, hA, hq0⟩ := str_at hW 0 (by simp)
  subst hA
  have hq0' : w3.cell? ad = some (.string (B wd)) := by
    have e : ad.add 0 = ad := by simp [Addr.add]
    rw [e] at hq0; exact hq0
  have hwdl : wd.length ≤ 1000000 := hwt wd (by simp)
  have hWH := Lib.hid hW
  have hwtH := Lib.hid hwt
  obtain ⟨nw, hnw⟩ : ∃ nw, (wd :: ws).length = nw := ⟨_, rfl⟩
  have hNW := Lib.hid hnw
  rw [hnw] at hwc hwl ⊢
  have hn0 : 0 < nw := by rw [← hnw]; simp
  have hd0 : decide ((0 : Int) < (nw : Int)) = true := by rw [decide_eq_true_iff]; omega
  have hd1 : decide (0 < nw) = true := by rw [decide_eq_true_iff]; omega
  have hn0i : (0 : Int) < (nw : Int) := by omega
  clear hnw hwt hW hq0 hws hc
  have hmm := @run_makeMap Tryz.prog
  have hmf : ∀ (fn : Fn) (first cap : Array Value) (w : World), (Instr.makeFunc fn first cap).run Tryz.prog w = .ok (.func fn first cap) w := fun _ _ _ _ => rfl
  have hm0 : OwnsV (w3.alloc (.map #[] 0)) w3.heap.size 0 noneV := OwnsV.made w3
  obtain ⟨y1, r1, m1, g1⟩ := hm0.store (t := 97) Tryz.underlying97 (by decide) kRule (.func (.func 43) #[at0 g.r] #[]) (by decide)
  obtain ⟨y2, r2, m2, g2'⟩ := m1.store (t := 97) Tryz.underlying97 (by decide) kBuild (.func (.func 44) #[at0 g.r] #[]) (by decide)
  obtain ⟨y3, r3, m3, g3⟩ := m2.store (t := 97) Tryz.underlying97 (by decide) kDefault (.func (.func 45) #[at0 g.r] #[]) (by decide)
  have r1' : (Instr.mapUpdate 97 (.map (some w3.heap.size)) (.string ⟨#[114, 117, 108, 101]⟩) (.func (.func 43) #[at0 g.r] #[])).run Tryz.prog (w3.alloc (.map #[] 0)) = .ok () y1 := r1
  have r2' : (Instr.mapUpdate 97 (.map (some w3.heap.size)) (.string ⟨#[98, 117, 105, 108, 100]⟩) (.func (.func 44) #[at0 g.r] #[])).run Tryz.prog y1 = .ok () y2 := r2
  have r3' : (Instr.mapUpdate 97 (.map (some w3.heap.size)) (.string ⟨#[100, 101, 102, 97, 117, 108, 116]⟩) (.func (.func 45) #[at0 g.r] #[])).run Tryz.prog y2 = .ok () y3 := r3
  have hBy : Hid (Below w3.heap.size w3 y3) := by
    have h0 : Below w3.heap.size w3 (w3.alloc (.map #[] 0)) := (Below.refl _ _).alloc (Nat.le_refl _) _
    have hk : ∀ k, some w3.heap.size = some k → w3.heap.size ≤ k := fun k hk => by injection hk with hk; omega
    have h1 := h0.grown g1 h0.size hk
    have h2 := h1.grown g2' h1.size hk
    exact h2.grown g3 h2.size hk
  have hz : ∀ w : World, (zeroValue 96).run Tryz.prog w = .ok .nilFunc w := fun w => by kernel_rfl
  have hlk := m3.look (t := 97) Tryz.underlying97 (hz y3) wd (by unfold maxLen; omega)
  have x0 : y3.cell? ad = some (.string (B wd)) := (hBy.out.cell (World.block_lt_of_cell? w3 _ hq0')).trans hq0'
  have x1 : y3.cell? ⟨w.heap.size, 1, none⟩ = some (.string (B text)) := (cell_of_heap (j := 1) ((hBy.out.block _ (lt_blk hn3.out)).trans hn3.out)).trans rfl
  have hI4 := Lib.hid (hI3.out.below hBy.out)
  have hB4 := Lib.hid (hB3.out.trans (hBy.out.mono hI3.out.base))
  have hW4 : Hid (Kd.C Kd.string y3 (some ad) (wd :: ws).length ((wd :: ws).map B)) := Kd.C_below hWH.out hBy.out
  have ha0 : ad.add 0 = ad := by simp [Addr.add]
  clear r1 r2 r3 m1 m2 m3 g1 g2' g3 hm0 hq0'
  by_cases hkRule : wd = kRule
  · subst hkRule
    have hlk' : (Instr.lookup 97 (.map (some w3.heap.size)) (.string (B kRule)) false).run Tryz.prog y3 = .ok (.func (.func 43) #[at0 g.r] #[]) y3 := hlk
    have hLR : Hid (leftE st num text = ruleE st2 num (kRule :: ws)) := by show _ = _; rw [hL0.out]; rfl
    clear hlk
    go_wp2_with fail
    refine (need_ok _ _ _).mono ?_
    rintro e w4 ⟨rfl, rfl⟩
    go_wp2_with fail
    have hP : Calls Tryz.prog 43 #[at0 g.r, .slice (some ad) nw c] y3 (Steps B0 g2 (ruleE st2 num (kRule :: ws)) y3) := by
      have := rule_any B0 g2 st2 (some ad) c (kRule :: ws) y3 hI4.out i5 hW4.out (by rw [hNW.out]; exact hwc) hwtH.out (by omega) (by rw [hNW.out]; omega)
      rw [hNW.out, hr2, hl2] at this
      exact this
    rcases hx : ruleE st2 num (kRule :: ws) with ⟨l5, e5⟩ | st5
    · rw [hx] at hP
      refine hP.mono ?_
      rintro e w5 ⟨rfl, hb⟩
      exact ⟨rfl, Steps.bad (hLR.out.trans hx) (hB4.out.trans hb)⟩
    · rw [hx] at hP
      refine hP.mono ?_
      rintro e w5 ⟨rfl, ⟨g', q1, q2, q3⟩, hb⟩
      have hq1' := Lib.hid q1
      clear q1 hP
      go_wp2_with fail
      go_end0
      exact Steps.fin (hLR.out.trans hx) hq1'.out (q2.trans hr2) (by omega) (hB4.out.trans hb)
  by_cases hkBuild : wd = kBuild
  · subst hkBuild
    have hlk' : (Instr.lookup 97 (.map (some w3.heap.size)) (.string (B kBuild)) false).run Tryz.prog y3 = .ok (.func (.func 44) #[at0 g.r] #[]) y3 := hlk
    have hLR : Hid (leftE st num text = buildE st2 num (kBuild :: ws)) := by show _ = _; rw [hL0.out]; rfl
    clear hlk
    go_wp2_with fail
    refine (need_ok _ _ _).mono ?_
    rintro e w4 ⟨rfl, rfl⟩
    go_wp2_with fail
    have hP : Calls Tryz.prog 44 #[at0 g.r, .slice (some ad) nw c] y3 (Steps B0 g2 (buildE st2 num (kBuild :: ws)) y3) := by
      have := build_any B0 g2 st2 (some ad) c (kBuild :: ws) y3 hI4.out i5 hW4.out (by rw [hNW.out]; exact hwc) (by rw [hNW.out]; omega) (by rw [hNW.out]; omega) hwtH.out (by omega)
      rw [hNW.out, hr2, hl2] at this
      exact this
    rcases hx : buildE st2 num (kBuild :: ws) with ⟨l5, e5⟩ | st5
    · rw [hx] at hP
      refine hP.mono ?_
      rintro e w5 ⟨rfl, hb⟩
      exact ⟨rfl, Steps.bad (hLR.out.trans hx) (hB4.out.trans hb)⟩
    · rw [hx] at hP
      refine hP.mono ?_
      rintro e w5 ⟨rfl, ⟨g', q1, q2, q3⟩, hb⟩
      have hq1' := Lib.hid q1
      clear q1 hP
      go_wp2_with fail
      go_end0
      exact Steps.fin (hLR.out.trans hx) hq1'.out (q2.trans hr2) (by omega) (hB4.out.trans hb)
  by_cases hkDefault : wd = kDefault
  · subst hkDefault
    have hlk' : (Instr.lookup 97 (.map (some w3.heap.size)) (.string (B kDefault)) false).run Tryz.prog y3 = .ok (.func (.func 45) #[at0 g.r] #[]) y3 := hlk
    have hLR : Hid (leftE st num text = targetsE st2 num (kDefault :: ws)) := by show _ = _; rw [hL0.out]; rfl
    clear hlk
    go_wp2_with fail
    refine (need_ok _ _ _).mono ?_
    rintro e w4 ⟨rfl, rfl⟩
    go_wp2_with fail
    have hP : Calls Tryz.prog 45 #[at0 g.r, .slice (some ad) nw c] y3 (Steps B0 g2 (targetsE st2 num (kDefault :: ws)) y3) := by
      have := targets_any B0 g2 st2 (some ad) c (kDefault :: ws) y3 hI4.out i5 hW4.out (by rw [hNW.out]; exact hwc) (by rw [hNW.out]; omega) (fun t ht => Nat.lt_of_le_of_lt (hwtH.out t ht) (by decide)) (by rw [hd2]; exact hdl)
      rw [hNW.out, hr2, hl2] at this
      exact this
    rcases hx : targetsE st2 num (kDefault :: ws) with ⟨l5, e5⟩ | st5
    · rw [hx] at hP
      refine hP.mono ?_
      rintro e w5 ⟨rfl, hb⟩
      exact ⟨rfl, Steps.bad (hLR.out.trans hx) (hB4.out.trans hb)⟩
    · rw [hx] at hP
      refine hP.mono ?_
      rintro e w5 ⟨rfl, ⟨g', q1, q2, q3⟩, hb⟩
      have hq1' := Lib.hid q1
      clear q1 hP
      go_wp2_with fail
      go_end0
      exact Steps.fin (hLR.out.trans hx) hq1'.out (q2.trans hr2) (by omega) (hB4.out.trans hb)
  have hlk' : (Instr.lookup 97 (.map (some w3.heap.size)) (.string (B wd)) false).run Tryz.prog y3 = .ok .nilFunc y3 := by
    rw [hlk]
    simp only [updV, noneV, if_neg hkRule, if_neg hkBuild, if_neg hkDefault]; rfl
  have hLR : Hid (leftE st num text = setLineE st2 num text) := by show _ = _; rw [hL0.out, if_neg hkRule, if_neg hkBuild, if_neg hkDefault]
  clear hlk
  go_wp2_with fail
  refine (need_ok _ _ _).mono ?_
  rintro e w4 ⟨rfl, rfl⟩
  go_wp2_with fail
  have hP : Calls Tryz.prog 41 #[at0 g.r, .string (B text)] y3 (Gives (setE num text) (fun p => .tuple #[.string (B p.1), .string (B p.2)]) y3) := by
    have := set_any g2.r g2.line [⟨g2.fb, g2.fm, g2.n, st2.file⟩] (at0 g2.fb) text (by omega) y3 hI4.out.rd
    rw [hr2, hl2] at this; exact this
  rcases hs : setE num text with ⟨l1, e1⟩ | ⟨nm, v⟩
  · rw [hs] at hP
    have hR : Hid (leftE st num text = .error (l1, e1)) := by show _ = _; rw [hLR.out, setLineE, hs]
    refine hP.mono ?_
    rintro e w5 ⟨rfl, hb⟩
    exact ⟨rfl, Steps.bad hR.out (hB4.out.trans (hb.mono hI4.out.base))⟩
  rw [hs] at hP
  have hso := setE_ok hs
  refine hP.mono ?_
  rintro e w5 ⟨rfl, hb⟩
  have hB5 := Lib.hid (hB4.out.trans (hb.mono hI4.out.base))
  have hI5 := Lib.hid (hI4.out.below hb)
  have z5 : w5.cell? ⟨g.r, 0, none⟩ = some (at0 g2.fb) := by rw [← hr2]; exact hI5.out.cell 0
  clear hP hb
  go_wp2_with fail
  refine RegP.regionH (fun w' => w'.cell? ⟨g.r, 0, none⟩ = some (at0 g2.fb)) [(0, 0), (0, 1), (0, 2), (1, 3), (0, 4), (0, 5), (0, 6), (0, 7), (0, 8), (1, 9), (0, 10), (2, 11), (2, 12)] (by kernel_rfl) (by kernel_rfl) (by rfl) (by kernel_rfl) (by exact z5) ?_
  refine RegP.pure1 (by (simp only [gA,gB,gC]); rfl) (by exact fun _ _ _ h => h) (by rfl) (by intro w'; go_simp; try with_reducible rfl) ?_
  try simp only [Act.put, pA,pB,pC]
  refine RegP.pure1 (by (simp only [gA,gB,gC]); rfl) (by exact fun _ _ _ h => h) (by rfl) (by intro w'; go_simp; try with_reducible rfl) ?_
  try simp only [Act.put, pA,pB,pC]
  refine RegP.pure1 (by (simp only [gA,gB,gC]); rfl) (by exact fun _ _ _ h => h) (by rfl) (by intro w'; go_simp; try with_reducible rfl) ?_
  try simp only [Act.put, pA,pB,pC]
  refine RegP.held1 (by (simp only [gA,gB,gC]); rfl) (by exact fun _ _ _ h => h) (by rfl) (by intro w' hS_; (try dsimp only at hS_); go_split_ands; go_simp; try with_reducible rfl) ?_
  try simp only [Act.put, pA,pB,pC]
  refine RegP.pure1 (by (simp only [gA,gB,gC]); rfl) (by exact fun _ _ _ h => h) (by rfl) (by intro w'; go_simp; try with_reducible rfl) ?_
  try simp only [Act.put, pA,pB,pC]
  refine RegP.pure1 (by (simp only [gA,gB,gC]); rfl) (by exact fun _ _ _ h => h) (by rfl) (by intro w'; go_simp; try with_reducible rfl) ?_
  try simp only [Act.put, pA,pB,pC]
  refine RegP.pure1 (by (simp only [gA,gB,gC]); rfl) (by exact fun _ _ _ h => h) (by rfl) (by intro w'; go_simp; try with_reducible rfl) ?_
  try simp only [Act.put, pA,pB,pC]
  refine RegP.pure1 (by (simp only [gA,gB,gC]); rfl) (by exact fun _ _ _ h => h) (by rfl) (by intro w'; go_simp; try with_reducible rfl) ?_
  try simp only [Act.put, pA,pB,pC]
  refine RegP.pure1 (by (simp only [gA,gB,gC]); rfl) (by exact fun _ _ _ h => h) (by rfl) (by intro w'; go_simp; try with_reducible rfl) ?_
  try simp only [Act.put, pA,pB,pC]
  refine RegP.held1 (by (simp only [gA,gB,gC]); rfl) (by exact fun _ _ _ h => h) (by rfl) (by intro w' hS_; (try dsimp only at hS_); go_split_ands; go_simp; try with_reducible rfl) ?_
  try simp only [Act.put, pA,pB,pC]
  refine RegP.pure1 (by (simp only [gA,gB,gC]); rfl) (by exact fun _ _ _ h => h) (by rfl) (by intro w'; go_simp; try with_reducible rfl) ?_
  try simp only [Act.put, pA,pB,pC]
  refine RegP.ev1 (by (simp only [gA,gB,gC]); rfl) (fun K hK => ?_)
  rcases he : expE num [st2.file] v with ⟨l1, e1⟩ | x
  · have hR : Hid (leftE st num text = .error (l1, e1)) := by show _ = _; rw [hLR.out, setLineE, hs]; simp only [he]
    go_simp
    have hP : Calls Tryz.prog 47 #[at0 g.r, at0 g2.fb, .string (B v)] w5.drew (Gives (expE num [st2.file] v) (fun x => .string (B x)) w5.drew) := by
      have := (hI5.out.below (Below.refl _ _).drew).expanded v (by omega)
      rw [hr2, hl2] at this; exact this
    rw [he] at hP
    refine hP.mono ?_
    rintro e w6 ⟨rfl, hb⟩
    exact ⟨rfl, Steps.bad hR.out (hB5.out.trans ((((Below.refl _ _).drew).trans hb).mono hI5.out.base))⟩
  have hR : Hid (leftE st num text = .ok { st2 with file := upd st2.file nm x }) := by show _ = _; rw [hLR.out, setLineE, hs]; simp only [he]
  have hxl := expE_len he
  go_simp
  have hP : Calls Tryz.prog 47 #[at0 g.r, at0 g2.fb, .string (B v)] w5.drew (Gives (expE num [st2.file] v) (fun x => .string (B x)) w5.drew) := by
    have := (hI5.out.below (Below.refl _ _).drew).expanded v (by omega)
    rw [hr2, hl2] at this; exact this
  rw [he] at hP
  refine hP.mono ?_
  rintro e w6 ⟨rfl, hb⟩
  have hB6 := Lib.hid (hB5.out.trans ((((Below.refl _ _).drew).trans hb).mono hI5.out.base))
  have hI6 := Lib.hid (hI5.out.below (((Below.refl _ _).drew).trans hb))
  have z6 : w6.cell? ⟨g.r, 0, none⟩ = some (at0 g2.fb) := by rw [← hr2]; exact hI6.out.cell 0
  clear hP hb
  refine hK.out _ _ ?_ (fun hHeld => ?_)
  · (try dsimp only); exact z6
  clear hK K
  try simp only [Act.put, pA,pB,pC]
  refine RegP.ev1 (by (simp only [gA,gB,gC]); rfl) (fun K hK => ?_)
  go_simp
  refine (Set_ok ⟨g2.fb, g2.fm, g2.n, st2.file⟩ [] (at0 g2.fb) nm x hso.1 (by unfold maxLen; omega) (by unfold maxLen; omega) (by show g2.n < 1000000; omega) _ hI6.out.fchain).mono ?_
  rintro e w7 ⟨rfl, hst⟩
  have hfin := Lib.hid (hI6.out.fileSet nm x hxl hst)
  have hB7 := Lib.hid (hB6.out.trans (hst.below hI6.out.base (hI6.out.new _ (by show g2.role g2.fm ≠ _; rw [hI6.out.rfm]; simp))))
  have z7 : w7.cell? ⟨g.r, 0, none⟩ = some (at0 g2.fb) := by rw [← hr2]; exact hfin.out.cell 0
  clear hst
  refine hK.out _ _ ?_ (fun hHeld => ?_)
  · (try dsimp only); exact z7
  clear hK K
  try simp only [Act.put, pA,pB,pC]
  refine RegP.done1 ?_
  clear hHeld
  try dsimp only
  go_wp2_with fail
  go_end0
  exact Steps.fin hR.out hfin.out hr2 (by show g2.n + 1 ≤ _; omega) hB7.out
theorem takes_any (B0 : Nat) (g : Mem) (st : St) (l : Ln.LineT) (w : World) (hI : Inv B0 w g st) (htl : l.text.length ≤ 16384) (hgn : g.n < 1000000) (hdl : st.defs.length ≤ 300000000) :
    Calls Tryz.prog 21 #[at0 g.r, .agg #[.bool l.inner, .string (B l.text), .int .i64 (l.num : Int)]] w (Steps B0 g (takesE st l) w) := by
  obtain ⟨inner, text, num⟩ := l
  cases inner with
  | true => exact takes_in B0 g st text num w hI htl hgn
  | false => exact takes_left B0 g st text num w hI htl hgn hdl
end Go.Proofs.YtbjekebkgidhaaaGreatDoor.Mf
end
section
set_option linter.unusedSimpArgs false
set_option linter.unusedVariables false
namespace Go.Proofs.YtbjekebkgidhaaaGreatDoor.Mf
open Go.RowKit Go.Lib Go.Shelf Go.Maps Go.Proofs.YtbjekebkgidhaaaGreatDoorW.PrintWords Go.Proofs.YtbjekebkgidhaaaGreatDoor.U Go.Proofs.YtbjekebkgidhaaaGreatDoor.Sc Go.Proofs.YtbjekebkgidhaaaGreatDoor.P Go.Proofs.YtbjekebkgidhaaaGreatDoor.MapV
structure Rest (B0 : Nat) (w : World) (g : Mem) (st : St) (i : Nat) : Prop where
  base : B0 ≤ w.heap.size
  new : ∀ b, g.role b ≠ .still → B0 ≤ b
  rr : g.role g.r = .reader
  hr : ∃ line : Nat, w.heap[g.r]? = some (.cells #[at0 g.fb, .map (some g.rm), g.ve, g.vd, .int .i64 (line : Int), g.vi, g.vo] 70 (0, 0))
  rf : g.role g.fb = .still
  hf : w.heap[g.fb]? = some (.cells #[.pointer none, .map (some g.fm)] 91 (0, 0))
  rfm : g.role g.fm = .fmap
  mf : OwnsM w g.fm g.n st.file
  sf : Short 16384 st.file
  rules : ∀ i (h : i < st.rules.length), RuleAt w g i st.rules[i]
  edges : ∀ j (h : j < st.edges.length), i ≤ j → EdgeAt B0 w g st.rules.length j st.edges[j]
  rows : ∀ j (h : j < st.edges.length), SlA B0 w g (g.e0 j) st.edges[j].outs ∧ SlA B0 w g (g.e1 j) st.edges[j].ins ∧ SlA B0 w g (g.e2 j) st.edges[j].imp ∧ SlA B0 w g (g.e3 j) st.edges[j].ord
  ne : st.edges.length ≤ 200
  oe : w.ownsRow B0 74 1 g.ve st.edges.length ((List.range st.edges.length).map fun j => at0 (g.eb j))
  roe : ∀ b, g.ve.ownBlock = some b → g.role b = .erow
  od : w.ownsRow B0 9 1 g.vd st.defs.length (st.defs.map fun t => Value.string (B t))
  rod : ∀ b, g.vd.ownBlock = some b → g.role b = .drow
theorem Inv.rest {B0 : Nat} {w : World} {g : Mem} {st : St} (h : Inv B0 w g st) : Rest B0 w g st 0 :=
  ⟨h.base, h.new, h.rr, ⟨_, h.hr⟩, h.rf, h.hf, h.rfm, h.mf, h.sf, h.rules, fun j hj _ => h.edges j hj, fun j hj => ⟨(h.edges j hj).s0, (h.edges j hj).s1, (h.edges j hj).s2, (h.edges j hj).s3⟩, h.ne, h.oe, h.roe, h.od, h.rod⟩
theorem Rest.step {B0 : Nat} {w w' : World} {g : Mem} {st : St} {i : Nat} (h : Rest B0 w g st i) (hi : i < st.edges.length) (hs : w.heap.size ≤ w'.heap.size) (hk : ∀ b, b < w.heap.size → b ≠ g.r → b ≠ g.eb i → b ≠ g.mb i → w'.heap[b]? = w.heap[b]?)
    (hr : ∃ line : Nat, w'.heap[g.r]? = some (.cells #[at0 g.fb, .map (some g.rm), g.ve, g.vd, .int .i64 (line : Int), g.vi, g.vo] 70 (0, 0))) : Rest B0 w' g st (i + 1) := by
  have he := h.edges i hi (Nat.le_refl _)
  have K : Grow st.rules.length st.edges.length (fun r => r = .reader ∨ r = .edge i ∨ r = .omap i) w w' g g :=
    ⟨hs, fun b hb hx => hk b hb (fun e => hx (.inl (by rw [e]; exact h.rr))) (fun e => hx (.inr (.inl (by rw [e]; exact he.re)))) (fun e => hx (.inr (.inr (by rw [e]; exact he.rm)))), fun _ _ => rfl, rfl, fun _ _ => ⟨rfl, rfl⟩, fun _ _ => ⟨rfl, rfl, rfl, rfl, rfl, rfl, rfl⟩, Nat.le_refl _⟩
  refine ⟨Nat.le_trans h.base hs, h.new, h.rr, hr, h.rf, K.blk h.hf h.rf (by simp), h.rfm, K.mapM h.mf h.rfm (by simp), h.sf, fun i hi => (h.rules i hi).grow K hi (by simp) (by simp), fun j hj hij => (h.edges j hj (by omega)).grow K hj (Nat.le_refl _) (by simp) (by simp; omega) (by simp; omega), ?_, h.ne, K.row h.oe h.roe (by simp), h.roe, K.row h.od h.rod (by simp), h.rod⟩
  intro j hj
  obtain ⟨a, b, c, d⟩ := h.rows j hj
  exact ⟨a.grow K (by simp), b.grow K (by simp), c.grow K (by simp), d.grow K (by simp)⟩
structure EW (B0 : Nat) (w0 w : World) (g : Mem) (st : St) (j : Nat) (e : EdgeS) (m : MapL) (n : Nat) (c d : Txt) : Prop where
  below : Below B0 w0 w
  size : w0.heap.size < w.heap.size
  same : ∀ b, b < w0.heap.size → b ≠ g.r → b ≠ g.eb j → b ≠ g.mb j → w.heap[b]? = w0.heap[b]?
  hr : w.heap[g.r]? = some (.cells #[at0 g.fb, .map (some g.rm), g.ve, g.vd, .int .i64 (e.line : Int), g.vi, g.vo] 70 (0, 0))
  he : w.heap[g.eb j]? = some (.cells #[g.e0 j, g.e1 j, g.e2 j, g.e3 j, .string (B c), .string (B d), at0 (g.rb e.rule), at0 (g.sb j), .int .i64 (e.line : Int)] 103 (0, 0))
  ch : Chain w [⟨g.sb j, g.mb j, n, m⟩, ⟨g.fb, g.fm, g.n, st.file⟩] (at0 (g.sb j))
  res : w.heap[w0.heap.size]? = some (.cells #[.slice none 0 0, .slice none 0 0, .slice none 0 0, .slice none 0 0, .string (B []), .string (B [])] 47 (0, 0))
section
variable {B0 : Nat} {w0 w w' : World} {g : Mem} {st : St} {j : Nat} {e : EdgeS} {m : MapL} {n : Nat} {c d : Txt}
theorem EW.more (h : EW B0 w0 w g st j e m n c d) (hB : B0 ≤ w0.heap.size) (hb : Below w.heap.size w w') : EW B0 w0 w' g st j e m n c d :=
  ⟨h.below.trans (hb.mono (by have := h.size; omega)), Nat.lt_of_lt_of_le h.size hb.size, fun b h1 h2 h3 h4 => (hb.block b (by have := h.size; omega)).trans (h.same b h1 h2 h3 h4), (hb.block _ (lt_blk h.hr)).trans h.hr, (hb.block _ (lt_blk h.he)).trans h.he, h.ch.below hb, (hb.block _ (lt_blk h.res)).trans h.res⟩
structure Apart (B0 : Nat) (w0 : World) (g : Mem) (st : St) (j : Nat) : Prop where
  rest : Rest B0 w0 g st j
  lt : j < st.edges.length
theorem Apart.ed (h : Apart B0 w0 g st j) : EdgeAt B0 w0 g st.rules.length j (st.edges[j]'h.lt) := h.rest.edges j h.lt (Nat.le_refl _)
theorem Apart.r_eb (h : Apart B0 w0 g st j) : g.r ≠ g.eb j := fun x => by have := h.rest.rr; rw [x, h.ed.re] at this; cases this
theorem Apart.r_mb (h : Apart B0 w0 g st j) : g.r ≠ g.mb j := fun x => by have := h.rest.rr; rw [x, h.ed.rm] at this; cases this
theorem Apart.eb_mb (h : Apart B0 w0 g st j) : g.eb j ≠ g.mb j := fun x => by have := h.ed.re; rw [x, h.ed.rm] at this; cases this
theorem Apart.sb_mb (h : Apart B0 w0 g st j) : g.sb j ≠ g.mb j := fun x => by have := h.ed.rs; rw [x, h.ed.rm] at this; cases this
theorem Apart.sb_eb (h : Apart B0 w0 g st j) : g.sb j ≠ g.eb j := fun x => by have := h.ed.rs; rw [x, h.ed.re] at this; cases this
theorem Apart.fb_mb (h : Apart B0 w0 g st j) : g.fb ≠ g.mb j := fun x => by have := h.rest.rf; rw [x, h.ed.rm] at this; cases this
theorem Apart.fb_eb (h : Apart B0 w0 g st j) : g.fb ≠ g.eb j := fun x => by have := h.rest.rf; rw [x, h.ed.re] at this; cases this
theorem Apart.fm_mb (h : Apart B0 w0 g st j) : g.fm ≠ g.mb j := fun x => by have := h.rest.rfm; rw [x, h.ed.rm] at this; cases this
theorem Apart.fm_eb (h : Apart B0 w0 g st j) : g.fm ≠ g.eb j := fun x => by have := h.rest.rfm; rw [x, h.ed.re] at this; cases this
theorem EW.set (h : EW B0 w0 w g st j e m n c d) (hA : Apart B0 w0 g st j) {k t : Txt} (hs : Stored w w' ⟨g.sb j, g.mb j, n, m⟩ k t) : EW B0 w0 w' g st j e (upd m k t) (n + 1) c d := by
  have hmb : B0 ≤ g.mb j := hA.rest.new _ (by rw [hA.ed.rm]; simp)
  have hsz := h.size
  have hb0 := hA.rest.base
  refine ⟨h.below.trans (hs.below (by omega) hmb), Nat.lt_of_lt_of_le h.size hs.size, fun b h1 h2 h3 h4 => (hs.keep b (by omega) h4).trans (h.same b h1 h2 h3 h4), (hs.keep _ (lt_blk h.hr) hA.r_mb).trans h.hr, (hs.keep _ (lt_blk h.he) hA.eb_mb).trans h.he, ?_, (hs.keep _ (lt_blk h.res) ?_).trans h.res⟩
  · exact Stored.head hs h.ch (fun x hx => by rw [List.mem_singleton.1 hx]; exact ⟨hA.fm_mb, hA.fb_mb⟩) hA.sb_mb
  · have := hA.ed.hm.lt
    show w0.heap.size ≠ g.mb j
    omega
theorem EW.put (h : EW B0 w0 w g st j e m n c d) (hA : Apart B0 w0 g st j) (i : Nat) (t c' d' : Txt)
    (hc : (#[g.e0 j, g.e1 j, g.e2 j, g.e3 j, .string (B c), .string (B d), at0 (g.rb e.rule), at0 (g.sb j), .int .i64 (e.line : Int)] : Array Value).setIfInBounds i (.string (B t)) = #[g.e0 j, g.e1 j, g.e2 j, g.e3 j, .string (B c'), .string (B d'), at0 (g.rb e.rule), at0 (g.sb j), .int .i64 (e.line : Int)]) :
    EW B0 w0 (w.setCell ⟨g.eb j, i, none⟩ (.string (B t))) g st j e m n c' d' := by
  have heb : B0 ≤ g.eb j := hA.rest.new _ (by rw [hA.ed.re]; simp)
  have hsz := h.size
  refine ⟨h.below.setCell heb _, by rw [World.size_setCell]; exact h.size, fun b h1 h2 h3 h4 => (Below.heap_setCell _ _ _ b h3).trans (h.same b h1 h2 h3 h4), (Below.heap_setCell _ _ _ _ hA.r_eb).trans h.hr, blk_put h.he i _ hc, ?_, (Below.heap_setCell _ _ _ _ ?_).trans h.res⟩
  · refine h.ch.same fun x hx => ?_
    rcases List.mem_cons.1 hx with rfl | hx
    · exact ⟨Below.heap_setCell _ _ _ _ hA.sb_eb, Below.heap_setCell _ _ _ _ hA.eb_mb.symm⟩
    · rw [List.mem_singleton.1 hx]; exact ⟨Below.heap_setCell _ _ _ _ hA.fb_eb, Below.heap_setCell _ _ _ _ hA.fm_eb⟩
  · have := lt_blk hA.ed.he
    show w0.heap.size ≠ g.eb j
    omega
theorem EW.rule (h : EW B0 w0 w g st j e m n c d) (hA : Apart B0 w0 g st j) (he : st.edges[j]'hA.lt = e) : ∃ r, st.rules[e.rule]? = some r ∧ Short 16384 r.texts ∧ w.cell? ⟨g.rb e.rule, 0, none⟩ = some (.map (some (g.tb e.rule))) ∧ OwnsM w (g.tb e.rule) g.n r.texts := by
  have h1 := hA.ed.lt
  rw [he] at h1
  have h2 := hA.rest.rules e.rule h1
  refine ⟨st.rules[e.rule], List.getElem?_eq_getElem h1, h2.sh, ?_, ?_⟩
  · have h3 := (h.same (g.rb e.rule) (lt_blk h2.hb) (fun x => by have := h2.rr; rw [x, hA.rest.rr] at this; cases this) (fun x => by have := h2.rr; rw [x, hA.ed.re] at this; cases this) (fun x => by have := h2.rr; rw [x, hA.ed.rm] at this; cases this)).trans h2.hb
    exact (cell_of_heap (j := 0) h3).trans rfl
  · exact h2.ht.same (h.same (g.tb e.rule) h2.ht.lt (fun x => by have := h2.rt; rw [x, hA.rest.rr] at this; cases this) (fun x => by have := h2.rt; rw [x, hA.ed.re] at this; cases this) (fun x => by have := h2.rt; rw [x, hA.ed.rm] at this; cases this))
theorem EW.cell (h : EW B0 w0 w g st j e m n c d) (i : Nat) : w.cell? ⟨g.eb j, i, none⟩ = #[g.e0 j, g.e1 j, g.e2 j, g.e3 j, .string (B c), .string (B d), at0 (g.rb e.rule), at0 (g.sb j), .int .i64 (e.line : Int)][i]? := by rw [cell_of_heap h.he]
theorem EW.free (h : EW B0 w0 w g st j e m n c d) (i : Nat) : w.frozen? ⟨g.eb j, i, none⟩ = false := frozen_of_heap h.he i
theorem EW.rcell (h : EW B0 w0 w g st j e m n c d) : w.cell? ⟨g.r, 4, none⟩ = some (.int .i64 (e.line : Int)) := (cell_of_heap (j := 4) h.hr).trans rfl
end
theorem joinS_len (l : List Txt) (M : Nat) (h : ∀ t ∈ l, t.length ≤ M) : (joinS l).length ≤ l.length * (M + 1) := by
  unfold joinS
  induction l with
  | nil => simp [List.intercalate]
  | cons x r ih =>
    have hx := h x (by simp)
    have ih := ih (fun t ht => h t (List.mem_cons_of_mem _ ht))
    cases r with
    | nil => simp [List.intercalate]; omega
    | cons y r =>
      have e : [32].intercalate (x :: y :: r) = x ++ [32] ++ [32].intercalate (y :: r) := by simp [List.intercalate, List.intersperse]
      rw [e, List.length_append, List.length_append, List.length_cons (a := x), Nat.add_mul]
      simp only [List.length_cons, List.length_nil] at *
      omega
theorem joinS_few {l : List Txt} (h : few l) : (joinS l).length ≤ 2020000 := Nat.le_trans (joinS_len l 100 h.2) (by have := h.1; omega)
theorem join_C (A : Option Addr) (c : Nat) (l : List Txt) (w : World) (hC : Kd.C Kd.string w A l.length (l.map B)) (hc : l.length ≤ c) (hf : few l) :
    Calls Tryz.prog 32 #[.slice A l.length c, .string ⟨#[32]⟩] w fun e w' => e = .returned (.string (B (joinS l))) ∧ Below w.heap.size w w' := by
  have hm : (l.map B).map (·.data.toList) = l := by
    rw [List.map_map]
    have : ((fun x : ByteArray => x.data.toList) ∘ B) = id := by funext x; simp [B]
    rw [this, List.map_id]
  have hj : Lib.join ((l.map B).map (·.data.toList)) (ByteArray.mk #[32]).data.toList = joinS l := by rw [hm]; rfl
  have hlen : (l.map B).length = l.length := List.length_map ..
  have hf' : strings_Join.f (l.map B) ⟨#[32]⟩ = some (B (joinS l)) := by
    unfold strings_Join.f
    have h1 := joinS_few hf
    have h2 := hf.1
    rw [if_pos ⟨by rw [hlen]; omega, by rw [hj]; omega⟩]
    unfold joinB
    rw [hj]
  have := strings_Join.calls A c (l.map B) ⟨#[32]⟩ (B (joinS l)) w (by rw [hlen]; exact hC) (by rw [hlen]; exact hc) hf'
  rw [hlen] at this
  exact this
section
variable {B0 : Nat} {w0 w w' : World} {g : Mem} {st : St} {j : Nat} {e : EdgeS} {m : MapL} {n : Nat} {c d : Txt}
theorem EW.rowC (h : EW B0 w0 w g st j e m n c d) (hA : Apart B0 w0 g st j) {v : Value} {l : List Txt} {A : Option Addr} {cp : Nat} (hs : SlA B0 w0 g v l) (hv : v = .slice A l.length cp) : l.length ≤ cp ∧ Kd.C Kd.string w A l.length (l.map B) := by
  have h1 : w.ownsRow B0 9 1 v l.length (strs l) := own_move hs.own fun b hb => h.same b (own_lt hs.own b hb) (fun x => by have := hs.rl b hb; rw [x, hA.rest.rr] at this; cases this) (fun x => by have := hs.rl b hb; rw [x, hA.ed.re] at this; cases this) (fun x => by have := hs.rl b hb; rw [x, hA.ed.rm] at this; cases this)
  obtain ⟨A', c', e1, h2, h3⟩ := own_slice h1
  rw [hv] at e1
  injection e1 with e1 e2 e3
  subst e1 e3
  exact ⟨h2, h3⟩
theorem EW.s4 (h : EW B0 w0 w g st j e m n c d) (hA : Apart B0 w0 g st j) (he : st.edges[j]'hA.lt = e) {r : RuleS} (hr : st.rules[e.rule]? = some r) (key : Txt) (hk : key.length ≤ maxLen) :
    w.cell? ⟨g.eb j, 7, none⟩ = some (at0 (g.sb j)) ∧ w.cell? ⟨g.eb j, 6, none⟩ = some (at0 (g.rb e.rule)) ∧ w.cell? ⟨g.rb e.rule, 0, none⟩ = some (.map (some (g.tb e.rule))) ∧
      (Instr.lookup 89 (.map (some (g.tb e.rule))) (.string (B key)) false).run Tryz.prog w = .ok (.string (B ((r.texts key).getD []))) w := by
  obtain ⟨r', h1, _, h2, h3⟩ := h.rule hA he
  rw [hr] at h1
  injection h1 with h1
  subst h1
  exact ⟨(h.cell 7).trans rfl, (h.cell 6).trans rfl, h2, look0 h3 key hk⟩
end
end Go.Proofs.YtbjekebkgidhaaaGreatDoor.Mf
end
section
set_option linter.unusedSimpArgs false
set_option linter.unusedVariables false
namespace Go.Proofs.YtbjekebkgidhaaaGreatDoor.Mf
open Go.RowKit Go.Lib Go.Shelf Go.Maps Go.Proofs.YtbjekebkgidhaaaGreatDoorW.PrintWords Go.Proofs.YtbjekebkgidhaaaGreatDoor.U Go.Proofs.YtbjekebkgidhaaaGreatDoor.Sc Go.Proofs.YtbjekebkgidhaaaGreatDoor.P Go.Proofs.YtbjekebkgidhaaaGreatDoor.MapV
def Ends (B0 : Nat) (g : Mem) (st : St) (j : Nat) (r : Except Er EdgeO) (w : World) (e : Ending) (w' : World) : Prop :=
  match r with
  | .ok x => e = .returned (.agg #[g.e0 j, g.e1 j, g.e2 j, g.e3 j, .string (B x.command), .string (B x.depfile)]) ∧ Rest B0 w' g st (j + 1) ∧ Below B0 w w' ∧ (∀ b, b < w.heap.size → b ≠ g.r → b ≠ g.eb j → b ≠ g.mb j → w'.heap[b]? = w.heap[b]?) ∧ x.outs = (st.edges[j]?.map (·.outs)).getD [] ∧ x.ins = (st.edges[j]?.map (·.ins)).getD [] ∧ x.imp = (st.edges[j]?.map (·.imp)).getD [] ∧ x.ord = (st.edges[j]?.map (·.ord)).getD []
  | .error x => e = wr x.1 x.2 ∧ Below B0 w w'
theorem Ends.fin {B0 : Nat} {g : Mem} {st : St} {j : Nat} {r : Except Er EdgeO} {w w' : World} {x : EdgeO} {c d : Txt} (h : r = .ok x) (hc : x.command = c) (hd : x.depfile = d) (hr : Rest B0 w' g st (j + 1)) (hb : Below B0 w w') (hk : ∀ b, b < w.heap.size → b ≠ g.r → b ≠ g.eb j → b ≠ g.mb j → w'.heap[b]? = w.heap[b]?) {e : EdgeS} (he : st.edges[j]? = some e) (ho : x.outs = e.outs) (hi : x.ins = e.ins) (hm : x.imp = e.imp) (hd' : x.ord = e.ord) :
    Ends B0 g st j r w (.returned (.agg #[g.e0 j, g.e1 j, g.e2 j, g.e3 j, .string (B c), .string (B d)])) w' := by
  subst h hc hd; exact ⟨rfl, hr, hb, hk, by rw [he]; exact ho, by rw [he]; exact hi, by rw [he]; exact hm, by rw [he]; exact hd'⟩
theorem Ends.fin4 {B0 : Nat} {g : Mem} {st : St} {j : Nat} {r : Except Er EdgeO} {w w' : World} {x : EdgeO} {c d : Txt} {v0 v1 v2 v3 : Value} (h : r = .ok x) (hc : x.command = c) (hd : x.depfile = d) (h0 : g.e0 j = v0) (h1 : g.e1 j = v1) (h2 : g.e2 j = v2) (h3 : g.e3 j = v3)
    (hr : Rest B0 w' g st (j + 1)) (hb : Below B0 w w') (hk : ∀ b, b < w.heap.size → b ≠ g.r → b ≠ g.eb j → b ≠ g.mb j → w'.heap[b]? = w.heap[b]?) {e : EdgeS} (he : st.edges[j]? = some e) (ho : x.outs = e.outs) (hi : x.ins = e.ins) (hm : x.imp = e.imp) (hd' : x.ord = e.ord) : Ends B0 g st j r w (.returned (.agg #[v0, v1, v2, v3, .string (B c), .string (B d)])) w' := by
  subst h0 h1 h2 h3; exact Ends.fin h hc hd hr hb hk he ho hi hm hd'
theorem Ends.bad {B0 : Nat} {g : Mem} {st : St} {j : Nat} {r : Except Er EdgeO} {w w' : World} {l : Nat} {c : Int} (h : r = .error (l, c)) (hb : Below B0 w w') : Ends B0 g st j r w (wr l c) w' := by
  subst h; exact ⟨rfl, hb⟩
theorem endsE_eq (file : MapL) (rules : List RuleS) (e : EdgeS) (r : RuleS) (hr : rules[e.rule]? = some r) : endsE file rules e =
    match expE e.line [upd (upd e.own kIn (joinS e.ins)) kOut (joinS e.outs), file] ((r.texts kCommand).getD []) with
    | .error x => .error x
    | .ok c => if c = [] then .error (e.line, 10) else
      match expE e.line [upd (upd e.own kIn (joinS e.ins)) kOut (joinS e.outs), file] ((r.texts kDepfile).getD []) with
      | .error x => .error x
      | .ok d => if d = [] then .ok ⟨e.outs, e.ins, e.imp, e.ord, c, []⟩ else
        match cleanE e.line d with
        | .error x => .error x
        | .ok p => .ok ⟨e.outs, e.ins, e.imp, e.ord, c, p⟩ := by
  unfold endsE; simp only [hr]; rfl
theorem EW.fin {B0 : Nat} {w0 w : World} {g : Mem} {st : St} {j : Nat} {e : EdgeS} {m : MapL} {n : Nat} {c d : Txt} (h : EW B0 w0 w g st j e m n c d) (hA : Apart B0 w0 g st j) : Rest B0 w g st (j + 1) :=
  hA.rest.step hA.lt (Nat.le_of_lt h.size) h.same ⟨_, h.hr⟩
theorem EW.fin2 {B0 : Nat} {w0 w w' : World} {g : Mem} {st : St} {j : Nat} {e : EdgeS} {m : MapL} {n : Nat} {c d : Txt} (h : EW B0 w0 w g st j e m n c d) (hA : Apart B0 w0 g st j) (hs : w.heap.size ≤ w'.heap.size) (hk : ∀ b, b < w0.heap.size → w'.heap[b]? = w.heap[b]?) : Rest B0 w' g st (j + 1) := by
  obtain ⟨ln, hr⟩ := hA.rest.hr
  exact hA.rest.step hA.lt (Nat.le_trans (Nat.le_of_lt h.size) hs) (fun b h1 h2 h3 h4 => (hk b h1).trans (h.same b h1 h2 h3 h4)) ⟨_, (hk _ (lt_blk hr)).trans h.hr⟩
theorem EW.exp {B0 : Nat} {w0 w : World} {g : Mem} {st : St} {j : Nat} {e : EdgeS} {m : MapL} {n : Nat} {c d : Txt} (h : EW B0 w0 w g st j e m n c d) (hA : Apart B0 w0 g st j) (hm : Short 3000000 m) (text : Txt) (hl : text.length ≤ 1000000) :
    Calls Tryz.prog 47 #[at0 g.r, at0 (g.sb j), .string (B text)] w (Gives (expE e.line [m, st.file] text) (fun x => .string (B x)) w) :=
  expanded_any g.r e.line [⟨g.sb j, g.mb j, n, m⟩, ⟨g.fb, g.fm, g.n, st.file⟩] (at0 (g.sb j)) text w h.rcell (lt_blk h.hr) (by omega)
    (fun k => Nat.lt_of_le_of_lt (getL_short (M := 3000000) (fun s hs => by
      rcases List.mem_cons.1 hs with rfl | hs
      · exact hm
      · rw [List.mem_singleton.1 hs]; exact hA.rest.sf.mono (by decide)) k) (by decide)) h.ch
set_option maxRecDepth 100000 in
set_option maxHeartbeats 16000000 in
theorem ends_any (B0 : Nat) (g : Mem) (st : St) (j : Nat) (w : World) (hRe : Rest B0 w g st j) (hj : j < st.edges.length) (hgn : g.n < 900000) :
    Calls Tryz.prog 23 #[at0 g.r, at0 (g.eb j)] w (Ends B0 g st j (endsE st.file st.rules st.edges[j]) w) := by
  have hA : Hid (Apart B0 w g st j) := ⟨hRe, hj⟩
  have hE := hA.out.ed
  obtain ⟨e, hee⟩ : ∃ e, st.edges[j] = e := ⟨_, rfl⟩
  have hEe : Hid (st.edges[j] = e) := hee
  rw [hee] at hE ⊢
  have hB0 := hRe.base
  have hg0 := hRe.new g.r (by rw [hRe.rr]; decide)
  have hebB := hRe.new (g.eb j) (by rw [hE.re]; simp)
  obtain ⟨r, hr⟩ : ∃ r, st.rules[e.rule]? = some r := ⟨_, List.getElem?_eq_getElem hE.lt⟩
  have hrs : Short 16384 r.texts := by
    have h1 := (hRe.rules e.rule hE.lt).sh
    have h2 := hr
    rw [List.getElem?_eq_getElem hE.lt] at h2
    injection h2 with h2
    rw [h2] at h1; exact h1
  have hPl := Lib.hid (endsE_eq st.file st.rules e r hr)
  have hrH := Lib.hid hr
  obtain ⟨A0, k0, hv0, hl0, _⟩ := own_slice hE.s0.own
  obtain ⟨A1, k1, hv1, hl1, _⟩ := own_slice hE.s1.own
  obtain ⟨A2, k2, hv2, _, _⟩ := own_slice hE.s2.own
  obtain ⟨A3, k3, hv3, _, _⟩ := own_slice hE.s3.own
  have hV2 := Lib.hid hv2
  have hV3 := Lib.hid hv3
  have hs0 := Lib.hid hE.s0
  have hs1 := Lib.hid hE.s1
  have hf0 := Lib.hid hE.f0
  have hf1 := Lib.hid hE.f1
  have hV0 := Lib.hid hv0
  have hV1 := Lib.hid hv1
  have hsho := Lib.hid hE.sh
  have hJ1 := joinS_few hE.f1
  have hJ0 := joinS_few hE.f0
  have hM1 : Hid (Short 3000000 (upd e.own kIn (joinS e.ins))) := (hE.sh.mono (by decide)).upd (by omega)
  have hM2 : Hid (Short 3000000 (upd (upd e.own kIn (joinS e.ins)) kOut (joinS e.outs))) := hM1.out.upd (by omega)
  obtain ⟨ln, hrb⟩ := hRe.hr
  have c4 : w.cell? ⟨g.r, 4, none⟩ = some (.int .i64 (ln : Int)) := (cell_of_heap (j := 4) hrb).trans rfl
  have f4 : w.frozen? ⟨g.r, 4, none⟩ = false := frozen_of_heap hrb 4
  have c8 : w.cell? ⟨g.eb j, 8, none⟩ = some (.int .i64 (e.line : Int)) := (cell_of_heap (j := 8) hE.he).trans rfl
  have hrlt := lt_blk hrb
  have helt := lt_blk hE.he
  have hsz : (w.setCell ⟨g.r, 4, none⟩ (.int .i64 (e.line : Int))).heap.size = w.heap.size := by simp
  have hE1 : Hid (EW B0 w ((w.setCell ⟨g.r, 4, none⟩ (.int .i64 (e.line : Int))).alloc (.cells #[.slice none 0 0, .slice none 0 0, .slice none 0 0, .slice none 0 0, .string ⟨#[]⟩, .string ⟨#[]⟩] 47)) g st j e e.own g.n [] []) := by
    have hb : Below (w.setCell ⟨g.r, 4, none⟩ (.int .i64 (e.line : Int))).heap.size (w.setCell ⟨g.r, 4, none⟩ (.int .i64 (e.line : Int))) ((w.setCell ⟨g.r, 4, none⟩ (.int .i64 (e.line : Int))).alloc (.cells #[.slice none 0 0, .slice none 0 0, .slice none 0 0, .slice none 0 0, .string ⟨#[]⟩, .string ⟨#[]⟩] 47)) := (Below.refl _ _).alloc (Nat.le_refl _) _
    have hk : ∀ b, b < w.heap.size → b ≠ g.r → ((w.setCell ⟨g.r, 4, none⟩ (.int .i64 (e.line : Int))).alloc (.cells #[.slice none 0 0, .slice none 0 0, .slice none 0 0, .slice none 0 0, .string ⟨#[]⟩, .string ⟨#[]⟩] 47)).heap[b]? = w.heap[b]? := fun b hb1 hb2 => (hb.block b (by rw [hsz]; exact hb1)).trans (Below.heap_setCell _ _ _ b hb2)
    have hrr := hA.out.rest.rr
    refine ⟨((Below.refl _ _).setCell hg0 _).alloc (by rw [hsz]; exact hB0) _, by simp, fun b h1 h2 _ _ => hk b h1 h2, (hb.block _ (by rw [hsz]; exact hrlt)).trans (blk_put hrb 4 _ rfl), (hk _ helt hA.out.r_eb.symm).trans hE.he, ?_, ?_⟩
    · refine Chain.same (w := w) ⟨rfl, _, hE.hs, hE.hm, rfl, _, hRe.hf, hRe.mf, rfl⟩ fun x hx => ?_
      rcases List.mem_cons.1 hx with rfl | hx
      · exact ⟨hk _ (lt_blk hE.hs) (fun x => by have := hE.rs; rw [show g.sb j = g.r from x, hrr] at this; cases this), hk _ hE.hm.lt (fun x => by have := hE.rm; rw [show g.mb j = g.r from x, hrr] at this; cases this)⟩
      · rw [List.mem_singleton.1 hx]
        exact ⟨hk _ (lt_blk hRe.hf) (fun x => by have := hRe.rf; rw [show g.fb = g.r from x, hrr] at this; cases this), hk _ hRe.mf.lt (fun x => by have := hRe.rfm; rw [show g.fm = g.r from x, hrr] at this; cases this)⟩
    · have := heap_alloc_new (w.setCell ⟨g.r, 4, none⟩ (.int .i64 (e.line : Int))) (.cells #[.slice none 0 0, .slice none 0 0, .slice none 0 0, .slice none 0 0, .string ⟨#[]⟩, .string ⟨#[]⟩] 47)
      rw [hsz] at this; exact this
  clear hRe hE hee hr hv0 hv1 hv2 hv3 hrb hsz
  go_enter Tryz.func23, Tryz.ntmps23
  go_upto_region 2 with (fail)
  generalize ((w.setCell ⟨g.r, 4, none⟩ (.int .i64 (e.line : Int))).alloc (.cells #[.slice none 0 0, .slice none 0 0, .slice none 0 0, .slice none 0 0, .string ⟨#[]⟩, .string ⟨#[]⟩] 47)) = w1 at *
  clear c4 f4 c8
  go_wp2_with fail
  refine RegP.regionH (fun w' => w'.cell? ⟨g.eb j, 7, none⟩ = some (at0 (g.sb j)) ∧ w'.cell? ⟨g.eb j, 1, none⟩ = some (.slice A1 e.ins.length k1)) [(0, 0), (0, 1), (0, 2), (1, 3), (0, 4), (0, 5), (0, 6), (0, 7), (1, 8), (2, 9), (2, 10)] (by kernel_rfl) (by kernel_rfl) (by rfl) (by kernel_rfl) (by exact ⟨((hE1.out.more hB0 (Below.refl _ _).drew).cell 7).trans rfl, ((hE1.out.more hB0 (Below.refl _ _).drew).cell 1).trans (congrArg some hV1.out)⟩) ?_
  refine RegP.pure1 (by (simp only [gA,gB,gC]); rfl) (by exact fun _ _ _ h => h) (by rfl) (by intro w'; go_simp; try with_reducible rfl) ?_
  try simp only [Act.put, pA,pB,pC]
  refine RegP.pure1 (by (simp only [gA,gB,gC]); rfl) (by exact fun _ _ _ h => h) (by rfl) (by intro w'; go_simp; try with_reducible rfl) ?_
  try simp only [Act.put, pA,pB,pC]
  refine RegP.pure1 (by (simp only [gA,gB,gC]); rfl) (by exact fun _ _ _ h => h) (by rfl) (by intro w'; go_simp; try with_reducible rfl) ?_
  try simp only [Act.put, pA,pB,pC]
  refine RegP.held1 (by (simp only [gA,gB,gC]); rfl) (by exact fun _ _ _ h => h) (by rfl) (by intro w' hS_; (try dsimp only at hS_); go_split_ands; go_simp; try with_reducible rfl) ?_
  try simp only [Act.put, pA,pB,pC]
  refine RegP.pure1 (by (simp only [gA,gB,gC]); rfl) (by exact fun _ _ _ h => h) (by rfl) (by intro w'; go_simp; try with_reducible rfl) ?_
  try simp only [Act.put, pA,pB,pC]
  refine RegP.pure1 (by (simp only [gA,gB,gC]); rfl) (by exact fun _ _ _ h => h) (by rfl) (by intro w'; go_simp; try with_reducible rfl) ?_
  try simp only [Act.put, pA,pB,pC]
  refine RegP.pure1 (by (simp only [gA,gB,gC]); rfl) (by exact fun _ _ _ h => h) (by rfl) (by intro w'; go_simp; try with_reducible rfl) ?_
  try simp only [Act.put, pA,pB,pC]
  refine RegP.pure1 (by (simp only [gA,gB,gC]); rfl) (by exact fun _ _ _ h => h) (by rfl) (by intro w'; go_simp; try with_reducible rfl) ?_
  try simp only [Act.put, pA,pB,pC]
  refine RegP.held1 (by (simp only [gA,gB,gC]); rfl) (by exact fun _ _ _ h => h) (by rfl) (by intro w' hS_; (try dsimp only at hS_); go_split_ands; go_simp; try with_reducible rfl) ?_
  try simp only [Act.put, pA,pB,pC]
  refine RegP.ev1 (by (simp only [gA,gB,gC]); rfl) (fun K hK => ?_)
  have hC := hE1.out.rowC hA.out hs1.out hV1.out
  go_simp
  refine (join_C A1 k1 e.ins _ (Kd.C_below hC.2 (Below.refl _ _).drew) hC.1 hf1.out).mono ?_
  rintro e' w2 ⟨rfl, hb⟩
  have hE2 := Lib.hid (hE1.out.more hB0 (((Below.refl _ _).drew).trans hb))
  clear hC hb
  refine hK.out _ _ ?_ (fun hHeld => ?_)
  · (try dsimp only); exact ⟨(hE2.out.cell 7).trans rfl, (hE2.out.cell 1).trans (congrArg some hV1.out)⟩
  clear hK K
  try simp only [Act.put, pA,pB,pC]
  refine RegP.ev1 (by (simp only [gA,gB,gC]); rfl) (fun K hK => ?_)
  go_simp
  refine (Set_ok ⟨g.sb j, g.mb j, g.n, e.own⟩ [⟨g.fb, g.fm, g.n, st.file⟩] (at0 (g.sb j)) kIn (joinS e.ins) (by decide) (by decide) (by unfold maxLen; omega) (by show g.n < 1000000; omega) _ hE2.out.ch).mono ?_
  rintro e' w3 ⟨rfl, hst⟩
  have hE3 := Lib.hid (hE2.out.set hA.out hst)
  clear hst
  refine hK.out _ _ ?_ (fun hHeld => ?_)
  · (try dsimp only); exact ⟨(hE3.out.cell 7).trans rfl, (hE3.out.cell 1).trans (congrArg some hV1.out)⟩
  clear hK K
  try simp only [Act.put, pA,pB,pC]
  refine RegP.done1 ?_
  clear hHeld
  try dsimp only
  go_wp2_with fail
  refine RegP.regionH (fun w' => w'.cell? ⟨g.eb j, 7, none⟩ = some (at0 (g.sb j)) ∧ w'.cell? ⟨g.eb j, 0, none⟩ = some (.slice A0 e.outs.length k0)) [(0, 0), (0, 1), (0, 2), (1, 3), (0, 4), (0, 5), (0, 6), (0, 7), (1, 8), (2, 9), (2, 10)] (by kernel_rfl) (by kernel_rfl) (by rfl) (by kernel_rfl) (by exact ⟨((hE3.out.more hB0 (Below.refl _ _).drew).cell 7).trans rfl, ((hE3.out.more hB0 (Below.refl _ _).drew).cell 0).trans (congrArg some hV0.out)⟩) ?_
  refine RegP.pure1 (by (simp only [gA,gB,gC]); rfl) (by exact fun _ _ _ h => h) (by rfl) (by intro w'; go_simp; try with_reducible rfl) ?_
  try simp only [Act.put, pA,pB,pC]
  refine RegP.pure1 (by (simp only [gA,gB,gC]); rfl) (by exact fun _ _ _ h => h) (by rfl) (by intro w'; go_simp; try with_reducible rfl) ?_
  try simp only [Act.put, pA,pB,pC]
  refine RegP.pure1 (by (simp only [gA,gB,gC]); rfl) (by exact fun _ _ _ h => h) (by rfl) (by intro w'; go_simp; try with_reducible rfl) ?_
  try simp only [Act.put, pA,pB,pC]
  refine RegP.held1 (by (simp only [gA,gB,gC]); rfl) (by exact fun _ _ _ h => h) (by rfl) (by intro w' hS_; (try dsimp only at hS_); go_split_ands; go_simp; try with_reducible rfl) ?_
  try simp only [Act.put, pA,pB,pC]
  refine RegP.pure1 (by (simp only [gA,gB,gC]); rfl) (by exact fun _ _ _ h => h) (by rfl) (by intro w'; go_simp; try with_reducible rfl) ?_
  try simp only [Act.put, pA,pB,pC]
  refine RegP.pure1 (by (simp only [gA,gB,gC]); rfl) (by exact fun _ _ _ h => h) (by rfl) (by intro w'; go_simp; try with_reducible rfl) ?_
  try simp only [Act.put, pA,pB,pC]
  refine RegP.pure1 (by (simp only [gA,gB,gC]); rfl) (by exact fun _ _ _ h => h) (by rfl) (by intro w'; go_simp; try with_reducible rfl) ?_
  try simp only [Act.put, pA,pB,pC]
  refine RegP.pure1 (by (simp only [gA,gB,gC]); rfl) (by exact fun _ _ _ h => h) (by rfl) (by intro w'; go_simp; try with_reducible rfl) ?_
  try simp only [Act.put, pA,pB,pC]
  refine RegP.held1 (by (simp only [gA,gB,gC]); rfl) (by exact fun _ _ _ h => h) (by rfl) (by intro w' hS_; (try dsimp only at hS_); go_split_ands; go_simp; try with_reducible rfl) ?_
  try simp only [Act.put, pA,pB,pC]
  refine RegP.ev1 (by (simp only [gA,gB,gC]); rfl) (fun K hK => ?_)
  have hC := hE3.out.rowC hA.out hs0.out hV0.out
  go_simp
  refine (join_C A0 k0 e.outs _ (Kd.C_below hC.2 (Below.refl _ _).drew) hC.1 hf0.out).mono ?_
  rintro e' w4 ⟨rfl, hb⟩
  have hE4 := Lib.hid (hE3.out.more hB0 (((Below.refl _ _).drew).trans hb))
  clear hC hb
  refine hK.out _ _ ?_ (fun hHeld => ?_)
  · (try dsimp only); exact ⟨(hE4.out.cell 7).trans rfl, (hE4.out.cell 0).trans (congrArg some hV0.out)⟩
  clear hK K
  try simp only [Act.put, pA,pB,pC]
  refine RegP.ev1 (by (simp only [gA,gB,gC]); rfl) (fun K hK => ?_)
  go_simp
  refine (Set_ok ⟨g.sb j, g.mb j, (g.n + 1), (upd e.own kIn (joinS e.ins))⟩ [⟨g.fb, g.fm, g.n, st.file⟩] (at0 (g.sb j)) kOut (joinS e.outs) (by decide) (by decide) (by unfold maxLen; omega) (by show (g.n + 1) < 1000000; omega) _ hE4.out.ch).mono ?_
  rintro e' w5 ⟨rfl, hst⟩
  have hE5 := Lib.hid (hE4.out.set hA.out hst)
  clear hst
  refine hK.out _ _ ?_ (fun hHeld => ?_)
  · (try dsimp only); exact ⟨(hE5.out.cell 7).trans rfl, (hE5.out.cell 0).trans (congrArg some hV0.out)⟩
  clear hK K
  try simp only [Act.put, pA,pB,pC]
  refine RegP.done1 ?_
  clear hHeld
  try dsimp only
  go_wp2_with fail
  refine RegP.regionH (fun w' => w'.cell? ⟨g.eb j, 7, none⟩ = some (at0 (g.sb j)) ∧ w'.cell? ⟨g.eb j, 6, none⟩ = some (at0 (g.rb e.rule)) ∧ w'.cell? ⟨g.rb e.rule, 0, none⟩ = some (.map (some (g.tb e.rule))) ∧ (Instr.lookup 89 (.map (some (g.tb e.rule))) (.string ⟨#[99, 111, 109, 109, 97, 110, 100]⟩) false).run Tryz.prog w' = .ok (.string (B ((r.texts kCommand).getD []))) w') [(0, 0), (0, 1), (0, 2), (0, 3), (0, 4), (1, 5), (0, 6), (0, 7), (0, 8), (1, 9), (0, 10), (0, 11), (1, 12), (1, 13), (2, 14), (0, 15), (0, 16), (0, 17), (2, 18)] (by kernel_rfl) (by kernel_rfl) (by rfl) (by kernel_rfl) (by exact (hE5.out.more hB0 (Below.refl _ _).drew).s4 hA.out hEe.out hrH.out kCommand (by decide)) ?_
  refine RegP.pure1 (by (simp only [gA,gB,gC]); rfl) (by exact fun _ _ _ h => h) (by rfl) (by intro w'; go_simp; try with_reducible rfl) ?_
  try simp only [Act.put, pA,pB,pC]
  refine RegP.pure1 (by (simp only [gA,gB,gC]); rfl) (by exact fun _ _ _ h => h) (by rfl) (by intro w'; go_simp; try with_reducible rfl) ?_
  try simp only [Act.put, pA,pB,pC]
  refine RegP.pure1 (by (simp only [gA,gB,gC]); rfl) (by exact fun _ _ _ h => h) (by rfl) (by intro w'; go_simp; try with_reducible rfl) ?_
  try simp only [Act.put, pA,pB,pC]
  refine RegP.pure1 (by (simp only [gA,gB,gC]); rfl) (by exact fun _ _ _ h => h) (by rfl) (by intro w'; go_simp; try with_reducible rfl) ?_
  try simp only [Act.put, pA,pB,pC]
  refine RegP.pure1 (by (simp only [gA,gB,gC]); rfl) (by exact fun _ _ _ h => h) (by rfl) (by intro w'; go_simp; try with_reducible rfl) ?_
  try simp only [Act.put, pA,pB,pC]
  refine RegP.held1 (by (simp only [gA,gB,gC]); rfl) (by exact fun _ _ _ h => h) (by rfl) (by intro w' hS_; (try dsimp only at hS_); go_split_ands; go_simp; try with_reducible rfl) ?_
  try simp only [Act.put, pA,pB,pC]
  refine RegP.pure1 (by (simp only [gA,gB,gC]); rfl) (by exact fun _ _ _ h => h) (by rfl) (by intro w'; go_simp; try with_reducible rfl) ?_
  try simp only [Act.put, pA,pB,pC]
  refine RegP.pure1 (by (simp only [gA,gB,gC]); rfl) (by exact fun _ _ _ h => h) (by rfl) (by intro w'; go_simp; try with_reducible rfl) ?_
  try simp only [Act.put, pA,pB,pC]
  refine RegP.pure1 (by (simp only [gA,gB,gC]); rfl) (by exact fun _ _ _ h => h) (by rfl) (by intro w'; go_simp; try with_reducible rfl) ?_
  try simp only [Act.put, pA,pB,pC]
  refine RegP.held1 (by (simp only [gA,gB,gC]); rfl) (by exact fun _ _ _ h => h) (by rfl) (by intro w' hS_; (try dsimp only at hS_); go_split_ands; go_simp; try with_reducible rfl) ?_
  try simp only [Act.put, pA,pB,pC]
  refine RegP.pure1 (by (simp only [gA,gB,gC]); rfl) (by exact fun _ _ _ h => h) (by rfl) (by intro w'; go_simp; try with_reducible rfl) ?_
  try simp only [Act.put, pA,pB,pC]
  refine RegP.pure1 (by (simp only [gA,gB,gC]); rfl) (by exact fun _ _ _ h => h) (by rfl) (by intro w'; go_simp; try with_reducible rfl) ?_
  try simp only [Act.put, pA,pB,pC]
  refine RegP.held1 (by (simp only [gA,gB,gC]); rfl) (by exact fun _ _ _ h => h) (by rfl) (by intro w' hS_; (try dsimp only at hS_); go_split_ands; go_simp; try with_reducible rfl) ?_
  try simp only [Act.put, pA,pB,pC]
  refine RegP.held1 (by (simp only [gA,gB,gC]); rfl) (by exact fun _ _ _ h => h) (by rfl) (by intro w' hS_; (try dsimp only at hS_); go_split_ands; go_simp; try with_reducible rfl) ?_
  try simp only [Act.put, pA,pB,pC]
  refine RegP.ev1 (by (simp only [gA,gB,gC]); rfl) (fun K hK => ?_)
  rcases hp4 : expE e.line [(upd (upd e.own kIn (joinS e.ins)) kOut (joinS e.outs)), st.file] ((r.texts kCommand).getD []) with ⟨l1, e1⟩ | cm
  · have hR : Hid (endsE st.file st.rules e = .error (l1, e1)) := by show _ = _; rw [hPl.out]; simp only [hp4]
    go_simp
    have hP := (hE5.out.more hB0 (Below.refl _ _).drew).exp hA.out hM2.out ((r.texts kCommand).getD []) (show ((r.texts kCommand).getD []).length ≤ 1000000 from by cases hq : r.texts kCommand with | none => simp | some t => have := hrs _ _ hq; simp; omega)
    rw [hp4] at hP
    refine hP.mono ?_
    rintro e' w9 ⟨rfl, hb⟩
    exact ⟨rfl, Ends.bad hR.out (hE5.out.more hB0 (((Below.refl _ _).drew).trans hb)).below⟩
  go_simp
  have hP := (hE5.out.more hB0 (Below.refl _ _).drew).exp hA.out hM2.out ((r.texts kCommand).getD []) (show ((r.texts kCommand).getD []).length ≤ 1000000 from by cases hq : r.texts kCommand with | none => simp | some t => have := hrs _ _ hq; simp; omega)
  rw [hp4] at hP
  refine hP.mono ?_
  rintro e' w6 ⟨rfl, hb⟩
  have hE6 := Lib.hid (hE5.out.more hB0 (((Below.refl _ _).drew).trans hb))
  clear hP hb
  refine hK.out _ _ ?_ (fun hHeld => ?_)
  · (try dsimp only); exact hE6.out.s4 hA.out hEe.out hrH.out kCommand (by decide)
  clear hK K
  try simp only [Act.put, pA,pB,pC]
  refine RegP.pure1 (by (simp only [gA,gB,gC]); rfl) (by exact fun _ _ _ h => h) (by rfl) (by intro w'; go_simp; try with_reducible rfl) ?_
  try simp only [Act.put, pA,pB,pC]
  refine RegP.pure1 (by (simp only [gA,gB,gC]); rfl) (by exact fun _ _ _ h => h) (by rfl) (by intro w'; go_simp; try with_reducible rfl) ?_
  try simp only [Act.put, pA,pB,pC]
  refine RegP.pure1 (by (simp only [gA,gB,gC]); rfl) (by exact fun _ _ _ h => h) (by rfl) (by intro w'; go_simp; try with_reducible rfl) ?_
  try simp only [Act.put, pA,pB,pC]
  refine RegP.ev1 (by (simp only [gA,gB,gC]); rfl) (fun K hK => ?_)
  have cc := (hE6.out.cell 4).trans rfl
  have ff := hE6.out.free 4
  go_simp
  have hE7 : Hid (EW B0 w (w6.setCell ⟨g.eb j, 4, none⟩ (.string (B cm))) g st j e (upd (upd e.own kIn (joinS e.ins)) kOut (joinS e.outs)) (g.n + 1 + 1) cm []) := hE6.out.put hA.out 4 cm _ _ rfl
  clear cc ff
  generalize w6.setCell ⟨g.eb j, 4, none⟩ (.string (B cm)) = w7 at *
  refine hK.out _ _ ?_ (fun hHeld => ?_)
  · (try dsimp only); exact hE7.out.s4 hA.out hEe.out hrH.out kCommand (by decide)
  clear hK K
  try simp only [Act.put, pA,pB,pC]
  refine RegP.done1 ?_
  clear hHeld
  try dsimp only
  by_cases hc : cm = []
  · have hR : Hid (endsE st.file st.rules e = .error (e.line, 10)) := by show _ = _; rw [hPl.out]; simp only [hp4, if_pos hc]
    subst hc
    have cc : w7.cell? ⟨g.eb j, 4, none⟩ = some (.string (B [])) := (hE7.out.cell 4).trans rfl
    clear hp4
    go_wp2_with fail
    refine (need_no g.r e.line 10 _ hE7.out.rcell).mono ?_
    rintro e' w8 ⟨rfl, rfl⟩
    exact ⟨rfl, Ends.bad hR.out hE7.out.below⟩
  have cc : w7.cell? ⟨g.eb j, 4, none⟩ = some (.string (B cm)) := (hE7.out.cell 4).trans rfl
  have hcm : (cm == []) = false := beq_eq_false_iff_ne.2 hc
  have hcm2 : cm.isEmpty = false := by cases cm with | nil => exact absurd rfl hc | cons _ _ => rfl
  go_wp2_with fail
  refine (need_ok _ _ _).mono ?_
  rintro e' w8 ⟨rfl, rfl⟩
  clear cc
  go_wp2_with fail
  refine RegP.regionH (fun w' => w'.cell? ⟨g.eb j, 7, none⟩ = some (at0 (g.sb j)) ∧ w'.cell? ⟨g.eb j, 6, none⟩ = some (at0 (g.rb e.rule)) ∧ w'.cell? ⟨g.rb e.rule, 0, none⟩ = some (.map (some (g.tb e.rule))) ∧ (Instr.lookup 89 (.map (some (g.tb e.rule))) (.string ⟨#[100, 101, 112, 102, 105, 108, 101]⟩) false).run Tryz.prog w' = .ok (.string (B ((r.texts kDepfile).getD []))) w') [(0, 0), (0, 1), (0, 2), (0, 3), (0, 4), (1, 5), (0, 6), (0, 7), (0, 8), (1, 9), (0, 10), (0, 11), (1, 12), (1, 13), (2, 14), (0, 15), (0, 16), (0, 17), (2, 18)] (by kernel_rfl) (by kernel_rfl) (by rfl) (by kernel_rfl) (by exact (hE7.out.more hB0 (Below.refl _ _).drew).s4 hA.out hEe.out hrH.out kDepfile (by decide)) ?_
  refine RegP.pure1 (by (simp only [gA,gB,gC]); rfl) (by exact fun _ _ _ h => h) (by rfl) (by intro w'; go_simp; try with_reducible rfl) ?_
  try simp only [Act.put, pA,pB,pC]
  refine RegP.pure1 (by (simp only [gA,gB,gC]); rfl) (by exact fun _ _ _ h => h) (by rfl) (by intro w'; go_simp; try with_reducible rfl) ?_
  try simp only [Act.put, pA,pB,pC]
  refine RegP.pure1 (by (simp only [gA,gB,gC]); rfl) (by exact fun _ _ _ h => h) (by rfl) (by intro w'; go_simp; try with_reducible rfl) ?_
  try simp only [Act.put, pA,pB,pC]
  refine RegP.pure1 (by (simp only [gA,gB,gC]); rfl) (by exact fun _ _ _ h => h) (by rfl) (by intro w'; go_simp; try with_reducible rfl) ?_
  try simp only [Act.put, pA,pB,pC]
  refine RegP.pure1 (by (simp only [gA,gB,gC]); rfl) (by exact fun _ _ _ h => h) (by rfl) (by intro w'; go_simp; try with_reducible rfl) ?_
  try simp only [Act.put, pA,pB,pC]
  refine RegP.held1 (by (simp only [gA,gB,gC]); rfl) (by exact fun _ _ _ h => h) (by rfl) (by intro w' hS_; (try dsimp only at hS_); go_split_ands; go_simp; try with_reducible rfl) ?_
  try simp only [Act.put, pA,pB,pC]
  refine RegP.pure1 (by (simp only [gA,gB,gC]); rfl) (by exact fun _ _ _ h => h) (by rfl) (by intro w'; go_simp; try with_reducible rfl) ?_
  try simp only [Act.put, pA,pB,pC]
  refine RegP.pure1 (by (simp only [gA,gB,gC]); rfl) (by exact fun _ _ _ h => h) (by rfl) (by intro w'; go_simp; try with_reducible rfl) ?_
  try simp only [Act.put, pA,pB,pC]
  refine RegP.pure1 (by (simp only [gA,gB,gC]); rfl) (by exact fun _ _ _ h => h) (by rfl) (by intro w'; go_simp; try with_reducible rfl) ?_
  try simp only [Act.put, pA,pB,pC]
  refine RegP.held1 (by (simp only [gA,gB,gC]); rfl) (by exact fun _ _ _ h => h) (by rfl) (by intro w' hS_; (try dsimp only at hS_); go_split_ands; go_simp; try with_reducible rfl) ?_
  try simp only [Act.put, pA,pB,pC]
  refine RegP.pure1 (by (simp only [gA,gB,gC]); rfl) (by exact fun _ _ _ h => h) (by rfl) (by intro w'; go_simp; try with_reducible rfl) ?_
  try simp only [Act.put, pA,pB,pC]
  refine RegP.pure1 (by (simp only [gA,gB,gC]); rfl) (by exact fun _ _ _ h => h) (by rfl) (by intro w'; go_simp; try with_reducible rfl) ?_
  try simp only [Act.put, pA,pB,pC]
  refine RegP.held1 (by (simp only [gA,gB,gC]); rfl) (by exact fun _ _ _ h => h) (by rfl) (by intro w' hS_; (try dsimp only at hS_); go_split_ands; go_simp; try with_reducible rfl) ?_
  try simp only [Act.put, pA,pB,pC]
  refine RegP.held1 (by (simp only [gA,gB,gC]); rfl) (by exact fun _ _ _ h => h) (by rfl) (by intro w' hS_; (try dsimp only at hS_); go_split_ands; go_simp; try with_reducible rfl) ?_
  try simp only [Act.put, pA,pB,pC]
  refine RegP.ev1 (by (simp only [gA,gB,gC]); rfl) (fun K hK => ?_)
  rcases hp6 : expE e.line [(upd (upd e.own kIn (joinS e.ins)) kOut (joinS e.outs)), st.file] ((r.texts kDepfile).getD []) with ⟨l1, e1⟩ | dp
  · have hR : Hid (endsE st.file st.rules e = .error (l1, e1)) := by show _ = _; rw [hPl.out]; simp only [hp4, hp6, if_neg hc]
    go_simp
    have hP := (hE7.out.more hB0 (Below.refl _ _).drew).exp hA.out hM2.out ((r.texts kDepfile).getD []) (show ((r.texts kDepfile).getD []).length ≤ 1000000 from by cases hq : r.texts kDepfile with | none => simp | some t => have := hrs _ _ hq; simp; omega)
    rw [hp6] at hP
    refine hP.mono ?_
    rintro e' w9 ⟨rfl, hb⟩
    exact ⟨rfl, Ends.bad hR.out (hE7.out.more hB0 (((Below.refl _ _).drew).trans hb)).below⟩
  go_simp
  have hP := (hE7.out.more hB0 (Below.refl _ _).drew).exp hA.out hM2.out ((r.texts kDepfile).getD []) (show ((r.texts kDepfile).getD []).length ≤ 1000000 from by cases hq : r.texts kDepfile with | none => simp | some t => have := hrs _ _ hq; simp; omega)
  rw [hp6] at hP
  refine hP.mono ?_
  rintro e' wa ⟨rfl, hb⟩
  have hEa := Lib.hid (hE7.out.more hB0 (((Below.refl _ _).drew).trans hb))
  clear hP hb
  refine hK.out _ _ ?_ (fun hHeld => ?_)
  · (try dsimp only); exact hEa.out.s4 hA.out hEe.out hrH.out kDepfile (by decide)
  clear hK K
  try simp only [Act.put, pA,pB,pC]
  refine RegP.pure1 (by (simp only [gA,gB,gC]); rfl) (by exact fun _ _ _ h => h) (by rfl) (by intro w'; go_simp; try with_reducible rfl) ?_
  try simp only [Act.put, pA,pB,pC]
  refine RegP.pure1 (by (simp only [gA,gB,gC]); rfl) (by exact fun _ _ _ h => h) (by rfl) (by intro w'; go_simp; try with_reducible rfl) ?_
  try simp only [Act.put, pA,pB,pC]
  refine RegP.pure1 (by (simp only [gA,gB,gC]); rfl) (by exact fun _ _ _ h => h) (by rfl) (by intro w'; go_simp; try with_reducible rfl) ?_
  try simp only [Act.put, pA,pB,pC]
  refine RegP.ev1 (by (simp only [gA,gB,gC]); rfl) (fun K hK => ?_)
  have cc := (hEa.out.cell 5).trans rfl
  have ff := hEa.out.free 5
  go_simp
  have hEb : Hid (EW B0 w (wa.setCell ⟨g.eb j, 5, none⟩ (.string (B dp))) g st j e (upd (upd e.own kIn (joinS e.ins)) kOut (joinS e.outs)) (g.n + 1 + 1) cm dp) := hEa.out.put hA.out 5 dp _ _ rfl
  clear cc ff
  generalize wa.setCell ⟨g.eb j, 5, none⟩ (.string (B dp)) = wb at *
  refine hK.out _ _ ?_ (fun hHeld => ?_)
  · (try dsimp only); exact hEb.out.s4 hA.out hEe.out hrH.out kDepfile (by decide)
  clear hK K
  try simp only [Act.put, pA,pB,pC]
  refine RegP.done1 ?_
  clear hHeld
  try dsimp only
  by_cases hd : dp = []
  · have hR : Hid (endsE st.file st.rules e = .ok ⟨e.outs, e.ins, e.imp, e.ord, cm, []⟩) := by show _ = _; rw [hPl.out]; simp only [hp4, hp6, if_neg hc, if_pos hd]
    subst hd
    have q0 : wb.cell? ⟨g.eb j, 0, none⟩ = some (.slice A0 e.outs.length k0) := (hEb.out.cell 0).trans (congrArg some hV0.out)
    have p0 := (cell_of_heap (j := 0) hEb.out.res).trans rfl
    have f0 := frozen_of_heap hEb.out.res 0
    have q1 : wb.cell? ⟨g.eb j, 1, none⟩ = some (.slice A1 e.ins.length k1) := (hEb.out.cell 1).trans (congrArg some hV1.out)
    have p1 := (cell_of_heap (j := 1) hEb.out.res).trans rfl
    have f1 := frozen_of_heap hEb.out.res 1
    have q2 : wb.cell? ⟨g.eb j, 2, none⟩ = some (.slice A2 e.imp.length k2) := (hEb.out.cell 2).trans (congrArg some hV2.out)
    have p2 := (cell_of_heap (j := 2) hEb.out.res).trans rfl
    have f2 := frozen_of_heap hEb.out.res 2
    have q3 : wb.cell? ⟨g.eb j, 3, none⟩ = some (.slice A3 e.ord.length k3) := (hEb.out.cell 3).trans (congrArg some hV3.out)
    have p3 := (cell_of_heap (j := 3) hEb.out.res).trans rfl
    have f3 := frozen_of_heap hEb.out.res 3
    have q4 : wb.cell? ⟨g.eb j, 4, none⟩ = some (.string (B cm)) := (hEb.out.cell 4).trans rfl
    have p4 := (cell_of_heap (j := 4) hEb.out.res).trans rfl
    have f4 := frozen_of_heap hEb.out.res 4
    have q5 : wb.cell? ⟨g.eb j, 5, none⟩ = some (.string (B [])) := (hEb.out.cell 5).trans rfl
    have p5 := (cell_of_heap (j := 5) hEb.out.res).trans rfl
    have f5 := frozen_of_heap hEb.out.res 5
    have hrl := lt_blk hEb.out.res
    clear hp4 hp6
    go_wp2_with fail
    (try simp only [Exit.inBlock, Exit.then])
    first | refine bodyPost_end (results_cell_row rfl _ _ w.heap.size 47 #[.slice A0 e.outs.length k0, .slice A1 e.ins.length k1, .slice A2 e.imp.length k2, .slice A3 e.ord.length k3, .string (B cm), .string (B ([] : Txt))] (0, 0) _ rfl (blk_put (blk_put (blk_put (blk_put (blk_put (blk_put hEb.out.res 0 _ rfl) 1 _ rfl) 2 _ rfl) 3 _ rfl) 4 _ rfl) 5 _ rfl) Tryz.underlying47 rfl (by kernel_rfl)) rfl ?_ | refine bodyPost_ret (results_cell_row rfl _ _ w.heap.size 47 #[.slice A0 e.outs.length k0, .slice A1 e.ins.length k1, .slice A2 e.imp.length k2, .slice A3 e.ord.length k3, .string (B cm), .string (B ([] : Txt))] (0, 0) _ rfl (blk_put (blk_put (blk_put (blk_put (blk_put (blk_put hEb.out.res 0 _ rfl) 1 _ rfl) 2 _ rfl) 3 _ rfl) 4 _ rfl) 5 _ rfl) Tryz.underlying47 rfl (by kernel_rfl)) rfl ?_
    exact Ends.fin4 hR.out rfl rfl hV0.out hV1.out hV2.out hV3.out (hEb.out.fin2 hA.out (by simp) (fun b hb => by repeat rw [Below.heap_setCell _ _ _ b (show b ≠ w.heap.size by omega)])) ((((((hEb.out.below.setCell hB0 _).setCell hB0 _).setCell hB0 _).setCell hB0 _).setCell hB0 _).setCell hB0 _) (fun b h1 h2 h3 h4 => by (repeat rw [Below.heap_setCell _ _ _ b (show b ≠ w.heap.size by omega)]); exact hEb.out.same b h1 h2 h3 h4) ((List.getElem?_eq_getElem hj).trans (congrArg some hEe.out)) rfl rfl rfl rfl
  have cc : wb.cell? ⟨g.eb j, 5, none⟩ = some (.string (B dp)) := (hEb.out.cell 5).trans rfl
  have ff := hEb.out.free 5
  have hcd : (dp == []) = false := beq_eq_false_iff_ne.2 hd
  have hcd2 : dp.isEmpty = false := by cases dp with | nil => exact absurd rfl hd | cons _ _ => rfl
  go_wp2_with fail
  have hP := mclean_any g.r e.line dp wb hEb.out.rcell (lt_blk hEb.out.hr)
  rcases hx : cleanE e.line dp with ⟨l1, e1⟩ | cp
  · have hR : Hid (endsE st.file st.rules e = .error (l1, e1)) := by show _ = _; rw [hPl.out]; simp only [hp4, hp6, if_neg hc, if_neg hd, hx]
    rw [hx] at hP
    refine hP.mono ?_
    rintro e' w9 ⟨rfl, hb⟩
    exact ⟨rfl, Ends.bad hR.out (hEb.out.more hB0 hb).below⟩
  · have hR : Hid (endsE st.file st.rules e = .ok ⟨e.outs, e.ins, e.imp, e.ord, cm, cp⟩) := by show _ = _; rw [hPl.out]; simp only [hp4, hp6, if_neg hc, if_neg hd, hx]
    rw [hx] at hP
    refine hP.mono ?_
    rintro e' w9 ⟨rfl, hb⟩
    have hE9 := Lib.hid (hEb.out.more hB0 hb)
    have c5 : w9.cell? ⟨g.eb j, 5, none⟩ = some (.string (B dp)) := (hE9.out.cell 5).trans rfl
    have f5' := hE9.out.free 5
    clear cc ff hP hb
    go_upto_region 9 with (fail)
    have hEd : Hid (EW B0 w (w9.setCell ⟨g.eb j, 5, none⟩ (.string (B cp))) g st j e (upd (upd e.own kIn (joinS e.ins)) kOut (joinS e.outs)) (g.n + 1 + 1) cm cp) := hE9.out.put hA.out 5 cp _ _ rfl
    generalize w9.setCell ⟨g.eb j, 5, none⟩ (.string (B cp)) = wd at *
    clear c5 f5'
    have q0 : wd.cell? ⟨g.eb j, 0, none⟩ = some (.slice A0 e.outs.length k0) := (hEd.out.cell 0).trans (congrArg some hV0.out)
    have p0 := (cell_of_heap (j := 0) hEd.out.res).trans rfl
    have f0 := frozen_of_heap hEd.out.res 0
    have q1 : wd.cell? ⟨g.eb j, 1, none⟩ = some (.slice A1 e.ins.length k1) := (hEd.out.cell 1).trans (congrArg some hV1.out)
    have p1 := (cell_of_heap (j := 1) hEd.out.res).trans rfl
    have f1 := frozen_of_heap hEd.out.res 1
    have q2 : wd.cell? ⟨g.eb j, 2, none⟩ = some (.slice A2 e.imp.length k2) := (hEd.out.cell 2).trans (congrArg some hV2.out)
    have p2 := (cell_of_heap (j := 2) hEd.out.res).trans rfl
    have f2 := frozen_of_heap hEd.out.res 2
    have q3 : wd.cell? ⟨g.eb j, 3, none⟩ = some (.slice A3 e.ord.length k3) := (hEd.out.cell 3).trans (congrArg some hV3.out)
    have p3 := (cell_of_heap (j := 3) hEd.out.res).trans rfl
    have f3 := frozen_of_heap hEd.out.res 3
    have q4 : wd.cell? ⟨g.eb j, 4, none⟩ = some (.string (B cm)) := (hEd.out.cell 4).trans rfl
    have p4 := (cell_of_heap (j := 4) hEd.out.res).trans rfl
    have f4 := frozen_of_heap hEd.out.res 4
    have q5 : wd.cell? ⟨g.eb j, 5, none⟩ = some (.string (B cp)) := (hEd.out.cell 5).trans rfl
    have p5 := (cell_of_heap (j := 5) hEd.out.res).trans rfl
    have f5 := frozen_of_heap hEd.out.res 5
    have hrl := lt_blk hEd.out.res
    go_wp2_with fail
    (try simp only [Exit.inBlock, Exit.then])
    first | refine bodyPost_end (results_cell_row rfl _ _ w.heap.size 47 #[.slice A0 e.outs.length k0, .slice A1 e.ins.length k1, .slice A2 e.imp.length k2, .slice A3 e.ord.length k3, .string (B cm), .string (B cp)] (0, 0) _ rfl (blk_put (blk_put (blk_put (blk_put (blk_put (blk_put hEd.out.res 0 _ rfl) 1 _ rfl) 2 _ rfl) 3 _ rfl) 4 _ rfl) 5 _ rfl) Tryz.underlying47 rfl (by kernel_rfl)) rfl ?_ | refine bodyPost_ret (results_cell_row rfl _ _ w.heap.size 47 #[.slice A0 e.outs.length k0, .slice A1 e.ins.length k1, .slice A2 e.imp.length k2, .slice A3 e.ord.length k3, .string (B cm), .string (B cp)] (0, 0) _ rfl (blk_put (blk_put (blk_put (blk_put (blk_put (blk_put hEd.out.res 0 _ rfl) 1 _ rfl) 2 _ rfl) 3 _ rfl) 4 _ rfl) 5 _ rfl) Tryz.underlying47 rfl (by kernel_rfl)) rfl ?_
    exact Ends.fin4 hR.out rfl rfl hV0.out hV1.out hV2.out hV3.out (hEd.out.fin2 hA.out (by simp) (fun b hb => by repeat rw [Below.heap_setCell _ _ _ b (show b ≠ w.heap.size by omega)])) ((((((hEd.out.below.setCell hB0 _).setCell hB0 _).setCell hB0 _).setCell hB0 _).setCell hB0 _).setCell hB0 _) (fun b h1 h2 h3 h4 => by (repeat rw [Below.heap_setCell _ _ _ b (show b ≠ w.heap.size by omega)]); exact hEd.out.same b h1 h2 h3 h4) ((List.getElem?_eq_getElem hj).trans (congrArg some hEe.out)) rfl rfl rfl rfl
end Go.Proofs.YtbjekebkgidhaaaGreatDoor.Mf
end
section
set_option linter.unusedSimpArgs false
set_option linter.unusedVariables false
namespace Go.Proofs.YtbjekebkgidhaaaGreatDoor.Mf
open Go.RowKit Go.Lib Go.Shelf Go.Maps Go.Proofs.YtbjekebkgidhaaaGreatDoorW.PrintWords Go.Proofs.YtbjekebkgidhaaaGreatDoor.U Go.Proofs.YtbjekebkgidhaaaGreatDoor.Sc Go.Proofs.YtbjekebkgidhaaaGreatDoor.P Go.Proofs.YtbjekebkgidhaaaGreatDoor.MapV
theorem catch_idle (a b c : Value) (w : World) :
    CallsD Tryz.prog 19 #[a, b, c] .returning w fun e u' w' => e = .returned (.tuple #[]) ∧ u' = .returning ∧ w' = w := by
  refine callsD_of_wpS Tryz.func19 rfl fun c₀ cs hu => ?_
  apply wpS_seq
  apply wpS_region
  simp [wpOpsS, go_sem, recoverD, hu, Tryz.ntmps19, Exit.thenS]
  apply wpS_seq
  apply wpS_region
  simp [wpOpsS, go_sem, Exit.thenS]
  refine wpS_cond (t := false) (by simp [Act.eval, Array.replicate]) ?_
  simp only [Bool.false_eq_true, if_false]
  refine wpS_of_wp (wp_skip ?_)
  cases c₀
  simp_all [bodyPostS, results]
set_option maxRecDepth 100000 in
set_option maxHeartbeats 4000000 in
theorem catch_wrong (m n o : Nat) (l : Nat) (c : Int) (v0 v1 : Value) (x y : Int) (W : World) (hm : W.heap[m]? = some (.cells #[v0, v1] 32 (0, 0))) (hn : W.heap[n]? = some (.cells #[.int .i64 x] 3 (0, 0))) (ho : W.heap[o]? = some (.cells #[.int .i64 y] 27 (0, 0)))
    (h1 : m ≠ n) (h2 : m ≠ o) (h3 : n ≠ o) :
    CallsD Tryz.prog 19 #[.pointer (some ⟨m, 0, none⟩), .pointer (some ⟨n, 0, none⟩), .pointer (some ⟨o, 0, none⟩)] (.panicking [{ v := .iface 60 (.agg #[.int .i64 (l : Int), .int .i64 c]), recovered := false }]) W fun e u' w' => e = .returned (.tuple #[]) ∧ u' = .panicking [{ v := .iface 60 (.agg #[.int .i64 (l : Int), .int .i64 c]), recovered := true }] ∧
      w'.heap[m]? = some (.cells #[.slice none 0 0, .slice none 0 0] 32 (0, 0)) ∧ w'.heap[n]? = some (.cells #[.int .i64 (l : Int)] 3 (0, 0)) ∧ w'.heap[o]? = some (.cells #[.int .i64 c] 27 (0, 0)) ∧ (∀ B, B ≤ m → B ≤ n → B ≤ o → B ≤ W.heap.size → Below B W w') := by
  refine callsD_of_wpS Tryz.func19 rfl fun c₀ cs hu => ?_
  apply wpS_seq
  apply wpS_region
  simp [wpOpsS, go_sem, recoverD, hu, Tryz.ntmps19, Exit.thenS]
  apply wpS_seq
  apply wpS_region
  simp [wpOpsS, go_sem, Exit.thenS]
  refine wpS_cond (t := true) (by simp [Act.eval, Array.replicate]) ?_
  simp only [if_true]
  refine wpS_of_wp ?_
  have hta : ∀ w : World, (Instr.typeAssert (.iface 60 (.agg #[.int .i64 (l : Int), .int .i64 c])) 20 60 true).run Tryz.prog w = .ok (.tuple #[.agg #[.int .i64 (l : Int), .int .i64 c], .bool true]) w := fun w => by kernel_rfl
  have hB := Lib.hid (Below.refl W.heap.size W)
  have m0 := (cell_of_heap (j := 0) hm).trans rfl
  have m1 := (cell_of_heap (j := 1) hm).trans rfl
  have n0 := (cell_of_heap (j := 0) hn).trans rfl
  have o0 := (cell_of_heap (j := 0) ho).trans rfl
  have mf0 := frozen_of_heap hm 0
  have mf1 := frozen_of_heap hm 1
  have nf0 := frozen_of_heap hn 0
  have of0 := frozen_of_heap ho 0
  have hmH := Lib.hid hm
  have hnH := Lib.hid hn
  have hoH := Lib.hid ho
  have hml := lt_blk hm
  have hnl := lt_blk hn
  have hol := lt_blk ho
  clear hm hn ho
  simp only [Array.replicate_succ, Array.replicate_zero, List.push_toArray, List.append_toArray, List.nil_append, List.cons_append, List.setIfInBounds_toArray, List.set_cons_succ, List.set_cons_zero]
  go_wp2_with fail
  have hb0 : Below W.heap.size W (W.alloc (.cells #[.int .i64 (l : Int), .int .i64 c] 60)) := (Below.refl _ _).alloc (Nat.le_refl _) _
  have hm1 : Hid ((W.alloc (.cells #[.int .i64 (l : Int), .int .i64 c] 60)).heap[m]? = some (.cells #[v0, v1] 32 (0, 0))) := (hb0.block _ hml).trans hmH.out
  have hn1 : Hid ((W.alloc (.cells #[.int .i64 (l : Int), .int .i64 c] 60)).heap[n]? = some (.cells #[.int .i64 x] 3 (0, 0))) := (hb0.block _ hnl).trans hnH.out
  have ho1 : Hid ((W.alloc (.cells #[.int .i64 (l : Int), .int .i64 c] 60)).heap[o]? = some (.cells #[.int .i64 y] 27 (0, 0))) := (hb0.block _ hol).trans hoH.out
  have hx1 : Hid ((W.alloc (.cells #[.int .i64 (l : Int), .int .i64 c] 60)).heap[W.heap.size]? = some (.cells #[.int .i64 (l : Int), .int .i64 c] 60)) := heap_alloc_new _ _
  have hbH := Lib.hid hb0
  clear hb0 m0 m1 n0 o0 mf0 mf1 nf0 of0
  generalize W.alloc (.cells #[.int .i64 (l : Int), .int .i64 c] 60) = W1 at *
  have c0 := (cell_of_heap (j := 0) hx1.out).trans rfl
  have c1 := (cell_of_heap (j := 1) hx1.out).trans rfl
  have hmx : m ≠ W.heap.size := by omega
  have hnx : n ≠ W.heap.size := by omega
  have hox : o ≠ W.heap.size := by omega
  refine RegP.regionH (fun w' => w'.cell? ⟨W.heap.size, 0, none⟩ = some (.int .i64 (l : Int)) ∧ w'.cell? ⟨W.heap.size, 1, none⟩ = some (.int .i64 c)) [(0, 0), (0, 1), (1, 2), (0, 3), (1, 4), (2, 5), (2, 6), (2, 7)] (by kernel_rfl) (by kernel_rfl) (by rfl) (by kernel_rfl) (by exact ⟨c0, c1⟩) ?_
  refine RegP.pure1 (by (simp only [gA,gB,gC]); rfl) (by exact fun _ _ _ h => h) (by rfl) (by intro w'; go_simp; try with_reducible rfl) ?_
  try simp only [Act.put, pA,pB,pC]
  refine RegP.pure1 (by (simp only [gA,gB,gC]); rfl) (by exact fun _ _ _ h => h) (by rfl) (by intro w'; go_simp; try with_reducible rfl) ?_
  try simp only [Act.put, pA,pB,pC]
  refine RegP.held1 (by (simp only [gA,gB,gC]); rfl) (by exact fun _ _ _ h => h) (by rfl) (by intro w' hS_; (try dsimp only at hS_); go_split_ands; go_simp; try with_reducible rfl) ?_
  try simp only [Act.put, pA,pB,pC]
  refine RegP.pure1 (by (simp only [gA,gB,gC]); rfl) (by exact fun _ _ _ h => h) (by rfl) (by intro w'; go_simp; try with_reducible rfl) ?_
  try simp only [Act.put, pA,pB,pC]
  refine RegP.held1 (by (simp only [gA,gB,gC]); rfl) (by exact fun _ _ _ h => h) (by rfl) (by intro w' hS_; (try dsimp only at hS_); go_split_ands; go_simp; try with_reducible rfl) ?_
  try simp only [Act.put, pA,pB,pC]
  refine RegP.ev1 (by (simp only [gA,gB,gC]); rfl) (fun K hK => ?_)
  have m0 := (cell_of_heap (j := 0) hm1.out).trans rfl
  have m1 := (cell_of_heap (j := 1) hm1.out).trans rfl
  have mf0 := frozen_of_heap hm1.out 0
  have mf1 := frozen_of_heap hm1.out 1
  go_simp
  have hS2 : Hid (((W1.setCell ⟨m, 0, none⟩ (.slice none 0 0)).setCell ⟨m, 1, none⟩ (.slice none 0 0)).heap[m]? = some (.cells #[.slice none 0 0, .slice none 0 0] 32 (0, 0))) := blk_put (blk_put hm1.out 0 _ rfl) 1 _ rfl
  have kS : ∀ b, b ≠ m → ((W1.setCell ⟨m, 0, none⟩ (.slice none 0 0)).setCell ⟨m, 1, none⟩ (.slice none 0 0)).heap[b]? = W1.heap[b]? := fun b hb => by rw [Below.heap_setCell _ _ _ b hb, Below.heap_setCell _ _ _ b hb]
  have hn2 := Lib.hid ((kS n (Ne.symm h1)).trans hn1.out)
  have ho2 := Lib.hid ((kS o (Ne.symm h2)).trans ho1.out)
  have hx2 := Lib.hid ((kS _ (Ne.symm hmx)).trans hx1.out)
  have hB2 : Hid (∀ B, B ≤ m → B ≤ W.heap.size → Below B W ((W1.setCell ⟨m, 0, none⟩ (.slice none 0 0)).setCell ⟨m, 1, none⟩ (.slice none 0 0))) := fun B hBm hBW => ((hbH.out.mono hBW).setCell hBm _).setCell hBm _
  clear kS m0 m1 mf0 mf1
  generalize (W1.setCell ⟨m, 0, none⟩ (.slice none 0 0)).setCell ⟨m, 1, none⟩ (.slice none 0 0) = W2 at *
  have n0 : W2.cell? ⟨n, 0, none⟩ = some (.int .i64 x) := (cell_of_heap (j := 0) hn2.out).trans rfl
  have nf0 := frozen_of_heap hn2.out 0
  refine hK.out _ _ ?_ (fun hHeld => ?_)
  · (try dsimp only); exact ⟨(cell_of_heap (j := 0) hx2.out).trans rfl, (cell_of_heap (j := 1) hx2.out).trans rfl⟩
  clear hK K
  try simp only [Act.put, pA,pB,pC]
  refine RegP.ev1 (by (simp only [gA,gB,gC]); rfl) (fun K hK => ?_)
  go_simp
  have hm3 := Lib.hid ((Below.heap_setCell W2 ⟨n, 0, none⟩ (.int .i64 (l : Int)) m h1).trans hS2.out)
  have hn3 : Hid ((W2.setCell ⟨n, 0, none⟩ (.int .i64 (l : Int))).heap[n]? = some (.cells #[.int .i64 (l : Int)] 3 (0, 0))) := blk_put hn2.out 0 _ rfl
  have ho3 := Lib.hid ((Below.heap_setCell W2 ⟨n, 0, none⟩ (.int .i64 (l : Int)) o (Ne.symm h3)).trans ho2.out)
  have hx3 := Lib.hid ((Below.heap_setCell W2 ⟨n, 0, none⟩ (.int .i64 (l : Int)) _ (Ne.symm hnx)).trans hx2.out)
  clear n0 nf0
  generalize hW3 : W2.setCell ⟨n, 0, none⟩ (.int .i64 (l : Int)) = W3 at *
  have o0 : W3.cell? ⟨o, 0, none⟩ = some (.int .i64 y) := (cell_of_heap (j := 0) ho3.out).trans rfl
  have of0 := frozen_of_heap ho3.out 0
  have hB3 : Hid (∀ B, B ≤ m → B ≤ n → B ≤ W.heap.size → Below B W W3) := fun B a b d => by rw [← hW3]; exact (hB2.out B a d).setCell b _
  clear hW3
  refine hK.out _ _ ?_ (fun hHeld => ?_)
  · (try dsimp only); exact ⟨(cell_of_heap (j := 0) hx3.out).trans rfl, (cell_of_heap (j := 1) hx3.out).trans rfl⟩
  clear hK K
  try simp only [Act.put, pA,pB,pC]
  refine RegP.ev1 (by (simp only [gA,gB,gC]); rfl) (fun K hK => ?_)
  go_simp
  have hx4 := Lib.hid ((Below.heap_setCell W3 ⟨o, 0, none⟩ (.int .i64 c) _ (Ne.symm hox)).trans hx3.out)
  have hfin : Hid ((W3.setCell ⟨o, 0, none⟩ (.int .i64 c)).heap[m]? = some (.cells #[.slice none 0 0, .slice none 0 0] 32 (0, 0)) ∧ (W3.setCell ⟨o, 0, none⟩ (.int .i64 c)).heap[n]? = some (.cells #[.int .i64 (l : Int)] 3 (0, 0)) ∧ (W3.setCell ⟨o, 0, none⟩ (.int .i64 c)).heap[o]? = some (.cells #[.int .i64 c] 27 (0, 0)) ∧ (∀ B, B ≤ m → B ≤ n → B ≤ o → B ≤ W.heap.size → Below B W (W3.setCell ⟨o, 0, none⟩ (.int .i64 c)))) :=
    ⟨(Below.heap_setCell _ _ _ _ h2).trans hm3.out, (Below.heap_setCell _ _ _ _ h3).trans hn3.out, blk_put ho3.out 0 _ rfl, fun B a b d e => (hB3.out B a b e).setCell d _⟩
  refine hK.out _ _ ?_ (fun hHeld => ?_)
  · (try dsimp only); exact ⟨(cell_of_heap (j := 0) hx4.out).trans rfl, (cell_of_heap (j := 1) hx4.out).trans rfl⟩
  clear hK K
  try simp only [Act.put, pA,pB,pC]
  refine RegP.done1 ?_
  clear hHeld
  try dsimp only
  go_wp2_with fail
  exact ⟨rfl, _, rfl, _, results_none rfl _ _ _, rfl, rfl, hfin.out.1, hfin.out.2.1, hfin.out.2.2.1, fun B a b d e => (hfin.out.2.2.2 B a b d e).drew⟩
end Go.Proofs.YtbjekebkgidhaaaGreatDoor.Mf
end
section
set_option linter.unusedSimpArgs false
set_option linter.unusedVariables false
namespace Go.Proofs.YtbjekebkgidhaaaGreatDoor.Mf
open Go.RowKit Go.Lib Go.Shelf Go.Maps Go.Proofs.YtbjekebkgidhaaaGreatDoorW.PrintWords Go.Proofs.YtbjekebkgidhaaaGreatDoor.U Go.Proofs.YtbjekebkgidhaaaGreatDoor.Sc Go.Proofs.YtbjekebkgidhaaaGreatDoor.P Go.Proofs.YtbjekebkgidhaaaGreatDoor.MapV
open Go.Proofs.YtbjekebkgidhaaaGreatDoor.Ln hiding Txt
def sumL (ps : List Txt) : Nat := (ps.map List.length).sum
theorem sumL_cons (p : Txt) (ps : List Txt) : sumL (p :: ps) = p.length + sumL ps := by simp [sumL]
theorem spl_sum (c : UInt8) (l : Txt) : sumL (spl c l) ≤ l.length := by
  induction l with
  | nil => simp [spl, sumL]
  | cons b l ih =>
    unfold spl
    split
    · rw [sumL_cons]; simp; omega
    · have hne := spl_ne c l
      split
      · rename_i h; exact absurd h hne
      · rename_i p ps h
        rw [h, sumL_cons] at ih
        rw [sumL_cons]; simp; omega
theorem trimmedL_len (l : Txt) : (trimmedL l).length ≤ l.length := by
  have h1 := trimL_len 32 l
  have h2 := trimR_len 32 (trimL 32 l)
  unfold trimmedL
  split
  · rename_i h
    rw [List.length_append, List.length_singleton]
    have := h.1; omega
  · omega
def opLen : Option LineT → Nat
  | some o => o.text.length
  | none => 0
theorem opened_len (i : Nat) (s : Txt) (op : Option LineT) : (opened i s op).text.length ≤ opLen op + s.length := by
  cases op with
  | none => simp [opened, opLen]
  | some o =>
    have := trimL_len 32 s
    simp only [opened, opLen, List.length_append]; omega
theorem linesGo_len (total M : Nat) : ∀ (ps : List Txt) (i : Nat) (out : List LineT) (op : Option LineT) (R : List LineT), linesGo total ps i out op = .ok R → (∀ o ∈ out, o.text.length ≤ M) → opLen op + sumL ps ≤ M →
    (∀ o ∈ R, o.text.length ≤ M) ∧ R.length ≤ out.length + ps.length := by
  intro ps
  induction ps with
  | nil =>
    intro i out op R h ho _
    rw [linesGo] at h
    injection h with h
    subst h
    exact ⟨ho, by simp⟩
  | cons s ps ih =>
    intro i out op R h ho hs
    rw [sumL_cons] at hs
    have hop := opened_len i s op
    rw [linesGo] at h
    split at h
    · cases h
    split at h
    · have := ih _ _ _ _ h ho (by simp only [opLen]; omega)
      exact ⟨this.1, by simp only [List.length_cons]; omega⟩
    split at h
    · split at h
      · cases h
      · have := ih _ _ _ _ h ho (by simp only [opLen, List.length_dropLast]; omega)
        exact ⟨this.1, by simp only [List.length_cons]; omega⟩
    · have := ih _ _ _ _ h (fun o h => by
        rcases List.mem_append.1 h with h | h
        · exact ho o h
        · rw [List.mem_singleton.1 h]
          exact Nat.le_trans (trimmedL_len _) (by omega)) (by simp only [opLen]; omega)
      exact ⟨this.1, by have := this.2; simp only [List.length_append, List.length_cons, List.length_nil] at this ⊢; omega⟩
theorem linesL_len (t : Txt) : (∀ o ∈ (linesL t).1, o.text.length ≤ 16384) ∧ (linesL t).1.length ≤ 16385 := by
  unfold linesL
  split
  · simp
  · rename_i h
    rcases hR : linesGo (spl 10 t).length (spl 10 t) 0 [] none with e | R
    · simp [resL]
    · have h1 := spl_sum 10 t
      have h2 := spl_len 10 t
      have h3 := List.count_le_length (a := (10 : UInt8)) (l := t)
      have := linesGo_len _ 16384 _ _ _ _ _ hR (by simp) (by simp only [opLen]; omega)
      refine ⟨this.1, ?_⟩
      have := this.2
      simp only [resL, List.length_nil] at this ⊢; omega
theorem closeE_defs {st st' : St} (h : closeE st = .ok st') : st'.defs = st.defs := by
  unfold closeE at h
  split at h
  · split at h
    · split at h
      · cases h
      · injection h with h; rw [← h]
    · injection h with h; rw [← h]
  · injection h with h; rw [← h]
theorem takesE_defs {st st' : St} {l : LineT} (h : takesE st l = .ok st') : st'.defs.length ≤ st.defs.length + l.text.length := by
  unfold takesE at h
  split at h
  · suffices st'.defs = st.defs by rw [this]; omega
    unfold innerE at h
    repeat' split at h
    all_goals first | (cases h; done) | (injection h with h; rw [← h])
  · unfold leftE at h
    rcases hc : closeE st with e | st2
    · rw [hc] at h; cases h
    · rw [hc] at h
      have hd := closeE_defs hc
      rw [← hd]
      clear hc hd
      have hw := Lex.words_len l.text
      rcases hws : Lex.words l.text with _ | ⟨w, ws⟩
      · rw [hws] at h; cases h
      · rw [hws] at h hw
        simp only at h
        split at h
        · suffices st'.defs = st2.defs by rw [this]; omega
          unfold ruleE at h
          repeat' split at h
          all_goals first | (cases h; done) | (injection h with h; rw [← h])
        split at h
        · suffices st'.defs = st2.defs by rw [this]; omega
          unfold buildE at h
          dsimp only at h
          repeat' split at h
          all_goals (try dsimp only at h)
          all_goals repeat' split at h
          all_goals first | (cases h; done) | (injection h with h; rw [← h])
        split at h
        · unfold targetsE at h
          cases ws with
          | nil => cases h
          | cons x r =>
            simp only [List.tail_cons] at h
            split at h
            · cases h
            · rename_i d hp
              injection h with h
              have := pathsE_len _ _ _ _ _ hp
              rw [← h]
              simp only [List.length_append, List.length_cons, List.length_nil] at this hw ⊢
              omega
        · suffices st'.defs = st2.defs by rw [this]; omega
          unfold setLineE at h
          repeat' split at h
          all_goals first | (cases h; done) | (injection h with h; rw [← h])
end Go.Proofs.YtbjekebkgidhaaaGreatDoor.Mf
end
section
set_option linter.unusedSimpArgs false
set_option linter.unusedVariables false
namespace Go.Proofs.YtbjekebkgidhaaaGreatDoor.Ln
open Go.RowKit Go.Lib Go.Shelf Go.Proofs.YtbjekebkgidhaaaGreatDoorW.PrintWords Go.Proofs.YtbjekebkgidhaaaGreatDoor.U Go.Proofs.YtbjekebkgidhaaaGreatDoor.Idx
theorem infoLine : (Tryz.prog.info? 72).map (fun i => (i.zero, i.size, i.bytes)) = some (some (.agg #[.bool false, .string ⟨#[]⟩, .int .i64 0]), 3, 32) := by kernel_rfl
def lcells (o : LineT) : List Value := [.bool o.inner, .string (B o.text), .int .i64 (o.num : Int)]
theorem set_text {w : World} {b : Nat} {x y z u : Value} {t : TypeId} (h : w.heap[b]? = some (.cells #[x, y, z] t (0, 0))) : (w.setCell ⟨b, 1, none⟩ u).heap[b]? = some (.cells #[x, u, z] t (0, 0)) := by
  have hlt := (Array.getElem?_eq_some_iff.1 h).1
  have h' : w.heap[b] = .cells #[x, y, z] t (0, 0) := by simpa [Array.getElem?_eq_getElem hlt] using h
  show (w.heap.modify b _)[b]? = _
  rw [Array.getElem?_eq_getElem (by simpa using hlt), Array.getElem_modify_self, h']
  rfl
def IsOpen (w : World) (base : Nat) (op : Option LineT) (v out : Value) : Prop :=
  match op with
  | none => v = .pointer none
  | some o => ∃ b, base ≤ b ∧ v = .pointer (some ⟨b, 0, none⟩) ∧ w.heap[b]? = some (.cells (lcells o).toArray 72 (0, 0)) ∧ out.ownBlock ≠ some b
theorem spl_le (c : UInt8) (l : Txt) : ∀ p ∈ spl c l, p.length ≤ l.length := by
  induction l with
  | nil => intro p hp; simp [spl] at hp; subst hp; simp
  | cons b l ih =>
    rw [spl]
    by_cases hb : b = c
    · rw [if_pos hb]
      intro p hp
      rcases List.mem_cons.1 hp with rfl | hp
      · simp
      · have := ih p hp; simp; omega
    · rw [if_neg hb]
      cases h : spl c l with
      | nil => exact absurd h (spl_ne c l)
      | cons q qs =>
        rw [h] at ih
        intro p hp
        rcases List.mem_cons.1 hp with rfl | hp
        · have := ih q (by simp); simpa using this
        · have := ih p (by simp [hp]); simp; omega
set_option maxRecDepth 100000 in
set_option maxHeartbeats 4000000 in
theorem Lines_long (l : Txt) (h : 16384 < l.length) (w : World) :
    Calls Tryz.prog 18 #[.string (B l)] w fun e w' => e = .returned (.tuple #[.slice none 0 0, .int .i64 0, .int .i64 3]) ∧ w = w' := by
  have s1 : (B l).size = l.length := size_B l
  have d1 : decide ((16384 : Int) < (l.length : Int)) = true := by rw [decide_eq_true_iff]; omega
  go_enter Tryz.func18, Tryz.ntmps18
  go_wp2_with fail
  go_step3
  go_wp2_with fail
  rw [Exit.noGoto_ret]
  exact bodyPost_ret (v := .tuple #[.slice none 0 0, .int .i64 0, .int .i64 3]) (by simp [results, Tryz.results18, go_sem]) rfl ⟨rfl, rfl⟩
set_option maxRecDepth 100000 in
set_option maxHeartbeats 4000000 in
theorem Lines_any (l : Txt) (h : l.length ≤ 16384) (w : World) (hm : ∃ m, w.cell? ⟨1, 0, none⟩ = some (.int .i64 m)) :
    Calls Tryz.prog 18 #[.string (B l)] w fun e w' => ∃ v, e = .returned (.tuple #[v, .int .i64 ((linesL l).2.1 : Int), .int .i64 (linesL l).2.2]) ∧ Below w.heap.size w w' ∧
      w'.ownsRow (w.heap.size + 1) 72 3 v (linesL l).1.length ((linesL l).1.flatMap lcells) := by
  have s1 : (B l).size = l.length := size_B l
  have d1 : decide ((16384 : Int) < (l.length : Int)) = false := by rw [decide_eq_false_iff_not]; omega
  obtain ⟨R, hR⟩ : ∃ R, linesGo (spl 10 l).length (spl 10 l) 0 [] none = R := ⟨_, rfl⟩
  have hRes : linesL l = resL R := by
    rw [linesL, if_neg (by omega), hR]
  have hle := spl_le 10 l
  have hSp := Lib.hid (Split_any 10 l (by omega) w hm)
  have hRR := Lib.hid hR
  have hRS := Lib.hid hRes
  have hne := spl_ne 10 l
  have hcnt : (spl 10 l).length ≤ l.length + 1 := by rw [spl_len]; have := List.count_le_length (a := (10 : UInt8)) (l := l); omega
  clear hR hRes
  generalize spl 10 l = ps at *
  obtain ⟨N, hN⟩ : ∃ N, ps.length = N := ⟨_, rfl⟩
  rw [hN] at hSp hcnt
  go_enter Tryz.func18, Tryz.ntmps18
  go_wp2_with fail
  go_step3
  go_wp2_with fail
  refine hSp.out.mono ?_
  rintro e w1 ⟨rfl, hw1⟩
  have hB1 : Hid (Below w.heap.size w w1) := by rw [← hw1]; exact (Below.refl _ w).alloc (Nat.le_refl _) _
  have hP1 : Hid (w1.heap[w.heap.size]? = some (.cells ((ps.map B).map Value.string).toArray 9 (0, 0))) := by rw [← hw1]; exact heap_alloc_new _ _
  have hS1 : Hid (w1.heap.size = w.heap.size + 1) := by show _ = _; rw [← hw1]; simp
  clear hw1 hSp
  go_wp2_with fail
  go_step3
  go_wp2_with fail
  go_loopg [7, 8, 18] N (fun gk s7 s8 s18 wr => ∃ (i : Nat) (out : List LineT) (op : Option LineT) (v7 v8 : Value), s18 = .int .i64 (i : Int) ∧ s7 = v7 ∧ s8 = v8 ∧ i + gk = N ∧ Hid (linesGo N (ps.drop i) i out op = R) ∧
    Hid (wr.ownsRow (w.heap.size + 1) 72 3 v7 out.length (out.flatMap lcells)) ∧ Hid (IsOpen wr (w.heap.size + 1) op v8 v7) ∧ Hid (Below w.heap.size w wr) ∧
    Hid (wr.heap[w.heap.size]? = some (.cells ((ps.map B).map Value.string).toArray 9 (0, 0))) ∧ out.length ≤ i ∧ Hid (∀ o, op = some o → o.text.length ≤ 16384 * i))
  case atStart => exact ⟨0, [], none, _, _, rfl, rfl, rfl, Nat.zero_add _, by show _ = _; rw [← hRR.out, hN]; rfl, own_nil _ _ _ _, rfl, hB1.out, hP1.out, Nat.le_refl _, fun o h => by cases h⟩
  case round =>
    obtain ⟨i, out, op, v7, v8, rfl, h7, h8, hik, hG, hOw, hOp, hBw, hPs, hoi, hTx⟩ := hrel
    subst h7
    cases gk with
    | zero =>
      obtain rfl : i = N := by omega
      have hfin : Hid (R = .ok out) := by
        show _ = _
        rw [← hG.out, ← hN, List.drop_length]; rfl
      have hlt : decide ((i : Int) < (i : Int)) = false := by simp
      go_wp2_with fail
      rw [Exit.noGoto_ret]
      refine bodyPost_ret (v := .tuple #[_, .int .i64 0, .int .i64 0]) (by simp [results, Tryz.results18, go_sem] <;> rfl) rfl ?_
      rw [hRS.out, hfin.out]
      exact ⟨_, rfl, hBw.out, hOw.out⟩
    | succ gk =>
      have hiN : i < ps.length := by omega
      obtain ⟨s, hs⟩ : ∃ s, ps[i] = s := ⟨_, rfl⟩
      have hdr : ps.drop i = s :: ps.drop (i + 1) := by rw [List.drop_eq_getElem_cons hiN, hs]
      have hsl : s.length ≤ 16384 := by rw [← hs]; exact Nat.le_trans (hle _ (List.getElem_mem hiN)) h
      have hcell : wr.cell? ⟨w.heap.size, i, none⟩ = some (.string (B s)) := by
        rw [cell_of_heap hPs.out]
        simp [hiN, hs]
      have hlt : decide ((i : Int) < (N : Int)) = true := by rw [decide_eq_true_iff]; omega
      have hG2 : Hid (linesGo N (s :: ps.drop (i + 1)) i out op = R) := by rw [← hdr]; exact hG.out
      have hBad := Lib.hid (bad_any s)
      have ss : (B s).size = s.length := size_B s
      clear hG
      cases hok : okL s with
      | false =>
        have hfin : Hid (R = .error (i + 1)) := by
          show _ = _
          rw [← hG2.out, linesGo, if_pos hok]
        rw [hok] at hBad
        go_wp2_with fail
        refine (hBad.out _).mono ?_
        rintro e w2 ⟨rfl, hb2⟩
        have hB2 := Lib.hid (hBw.out.next hb2)
        clear hb2
        go_wp2_with fail
        rw [Exit.noGoto_ret]
        refine bodyPost_ret (v := .tuple #[.slice none 0 0, .int .i64 ((i + 1 : Nat) : Int), .int .i64 10]) (by simp [results, Tryz.results18, go_sem]) rfl ?_
        rw [hRS.out, hfin.out]
        exact ⟨_, rfl, hB2.out, own_nil _ _ _ _⟩
      | true =>
        rw [hok] at hBad
        have hEm := Lib.hid (empty_any s)
        have hUn := Lib.hid (unpaired_any s (by omega))
        cases op with
        | none =>
          obtain rfl : v8 = .pointer none := hOp.out
          subst h8
          cases hem : emptyL s with
          | true =>
            rw [hem] at hEm
            have hG3 : Hid (linesGo N (ps.drop (i + 1)) (i + 1) out none = R) := by
              show _ = _
              rw [← hG2.out, linesGo, if_neg (by simp [hok]), if_pos ⟨rfl, hem⟩]
            go_wp2_with fail
            refine (hBad.out _).mono ?_
            rintro e w2 ⟨rfl, hb2⟩
            have hB2 := Lib.hid (hBw.out.next hb2)
            have hg2 : wr.grownBy w2 none := ⟨hb2.os, hb2.tape, hb2.output, hb2.size, fun k hk _ => hb2.block k hk⟩
            have hO2 := Lib.hid (hOw.out.kept hg2 (Classical.em _))
            have hP2 := Lib.hid ((hb2.block _ (Array.getElem?_eq_some_iff.1 hPs.out).1).trans hPs.out)
            clear hb2 hg2
            go_wp2_with fail
            refine (hEm.out _).mono ?_
            rintro e w3 ⟨rfl, rfl⟩
            go_wp2_with fail
            go_roundg gk
            case measure => omega
            case rel => exact ⟨i + 1, out, none, _, _, rfl, rfl, rfl, by omega, hG3, hO2, rfl, hB2, hP2, by omega, fun o h => by cases h⟩
          | false =>
            rw [hem] at hEm
            obtain ⟨c, r, hcr⟩ : ∃ c r, s = c :: r := by
              cases s with
              | nil => exact absurd hem (by decide)
              | cons c r => exact ⟨c, r, rfl⟩
            subst hcr
            have h0 : ∀ h : 0 < (B (c :: r)).size, (((B (c :: r))[0]'h).toNat : Int) = (c.toNat : Int) := fun h => rfl
            have hsB : (B (c :: r)).size = r.length + 1 := by rw [size_B]; rfl
            have hcl := c.toNat_lt
            go_wp2_with fail
            refine (hBad.out _).mono ?_
            rintro e w2 ⟨rfl, hb2⟩
            have hB2 := Lib.hid (hBw.out.next hb2)
            have hg2 : wr.grownBy w2 none := ⟨hb2.os, hb2.tape, hb2.output, hb2.size, fun k hk _ => hb2.block k hk⟩
            have hO2 := Lib.hid (hOw.out.kept hg2 (Classical.em _))
            have hP2 := Lib.hid ((hb2.block _ (Array.getElem?_eq_some_iff.1 hPs.out).1).trans hPs.out)
            clear hb2 hg2
            go_wp2_with fail
            refine (hEm.out _).mono ?_
            rintro e w3 ⟨rfl, rfl⟩
            go_wp2_with fail
            have hTr := Lib.hid (trimmed_any (c :: r) (by omega))
            have hnew : (w2.alloc (.cells #[.bool ((c.toNat : Int) == 32), .string (B (c :: r)), .int .i64 ((i : Int) + 1)] 72)).heap[w2.heap.size]? = some (.cells #[.bool ((c.toNat : Int) == 32), .string (B (c :: r)), .int .i64 ((i : Int) + 1)] 72 (0, 0)) := heap_alloc_new _ _
            have c1 := cell_of_heap hnew 1
            have f1 := frozen_of_heap hnew 1
            have hO3 := Lib.hid (hO2.out.alloc (.cells #[.bool ((c.toNat : Int) == 32), .string (B (c :: r)), .int .i64 ((i : Int) + 1)] 72))
            cases hod : oddL (c :: r) with
            | true =>
              rw [hod] at hUn
              refine (hUn.out _).mono ?_
              rintro e w3 ⟨rfl, rfl⟩
              have hw0 : ((i : Int) + 1 == (N : Int)) = decide (i + 1 = N) := by rw [Bool.eq_iff_iff, beq_iff_eq, decide_eq_true_iff]; omega
              by_cases hlast : i + 1 = N
              · have hd : ((i : Int) + 1 == (N : Int)) = true := by rw [hw0, decide_eq_true hlast]
                have hfin : Hid (R = .error (i + 1)) := by
                  show _ = _
                  rw [← hG2.out, linesGo, if_neg (by simp [hok]), if_neg (by simp [hem]), if_pos hod, if_pos hlast]
                go_wp2_with fail
                rw [Exit.noGoto_ret]
                refine bodyPost_ret (v := .tuple #[.slice none 0 0, .int .i64 ((i + 1 : Nat) : Int), .int .i64 10]) (by simp [results, Tryz.results18, go_sem]) rfl ?_
                rw [hRS.out, hfin.out]
                exact ⟨_, rfl, hB2.out.alloc hB2.out.size _, own_nil _ _ _ _⟩
              · have hd : ((i : Int) + 1 == (N : Int)) = false := by rw [hw0, decide_eq_false hlast]
                go_wp2_with fail
                go_region
                go_wp2_with fail
                have hEx : (B (c :: r)).extract 0 r.length = B ((c :: r).dropLast) := by
                  rw [extract_B, List.drop_zero, List.dropLast_eq_take]; rfl
                have hin : ((c.toNat : Int) == 32) = ((c :: r).head? == some 32) := by
                  rw [Bool.eq_iff_iff, beq_iff_eq, beq_iff_eq, List.head?_cons, Option.some.injEq]
                  exact toNat_eq c 32 (by decide)
                have hG3 : Hid (linesGo N (ps.drop (i + 1)) (i + 1) out (some ⟨(c.toNat : Int) == 32, (c :: r).dropLast, i + 1⟩) = R) := by
                  show _ = _
                  rw [← hG2.out, linesGo, if_neg (by simp [hok]), if_neg (by simp [hem]), if_pos hod, if_neg hlast, hin]
                  rfl
                have hsz2 := hB2.out.size
                have hhs2 := (Array.getElem?_eq_some_iff.1 hP2.out).1
                go_roundg gk
                case measure => omega
                case rel =>
                  refine ⟨i + 1, out, some ⟨(c.toNat : Int) == 32, (c :: r).dropLast, i + 1⟩, _, _, rfl, rfl, rfl, by omega, hG3, (hO2.out.alloc _).drew, ?_, (hB2.out.alloc hB2.out.size _).drew, ?_, by omega, ?_⟩
                  · refine ⟨w2.heap.size, by omega, rfl, (heap_alloc_new w2 _).trans (by rw [hEx]; rfl), fun e => by have := (hO2.out.lt _ e).2; simp at this⟩
                  · exact (Below.heap_alloc _ _ _ (Array.getElem?_eq_some_iff.1 hP2.out).1).trans hP2.out
                  · intro o ho
                    obtain rfl := Option.some.inj ho
                    show ((c :: r).dropLast).length ≤ 16384 * (i + 1)
                    rw [List.length_dropLast]; simp at hsl ⊢; omega
            | false =>
              rw [hod] at hUn
              refine (hUn.out _).mono ?_
              rintro e w3 ⟨rfl, rfl⟩
              go_wp2_with fail
              refine (hTr.out _).mono ?_
              rintro e w3 ⟨rfl, rfl⟩
              obtain ⟨i0, hi, hz0, hz1, hz2⟩ := info_parts infoLine
              go_wp2_with (at_builtin; refine wpList_append_own _ rfl _ _ 56 rfl (w.heap.size + 1) 72 i0 _ 3 32 Tryz.underlying56 hi hz0 hz1 hz2 rfl (by decide) _ _ _ rfl ((hO2.out.alloc _).alloc _) ⟨w2.heap.size + 1, 0, none⟩ 1 1 [.bool ((c.toNat : Int) == 32), .string (B (trimmedL (c :: r))), .int .i64 ((i : Int) + 1)] rfl rfl ?ap1 ?ap2 ?ap3 ?ap4 ?ap5 ?_)
              case ap1 =>
                intro j u hj
                have hn2 := heap_alloc_new (w2.alloc (.cells #[.bool ((c.toNat : Int) == 32), .string (B (trimmedL (c :: r))), .int .i64 ((i : Int) + 1)] 72)) (.cells #[.bool ((c.toNat : Int) == 32), .string (B (trimmedL (c :: r))), .int .i64 ((i : Int) + 1)] 72)
                have hsz3 : (w2.alloc (.cells #[.bool ((c.toNat : Int) == 32), .string (B (trimmedL (c :: r))), .int .i64 ((i : Int) + 1)] 72)).heap.size = w2.heap.size + 1 := by simp
                rw [hsz3] at hn2
                have g0 := cell_of_heap hn2 0
                have g1 := cell_of_heap hn2 1
                have g2 := cell_of_heap hn2 2
                rcases j with _ | _ | _ | j <;> simp at hj <;> subst hj
                · simp [Addr.add]
                · simp [Addr.add]
                · simp [Addr.add]
              case ap2 => simp [Value.oneCell']
              case ap3 => unfold maxLen; omega
              case ap4 => omega
              case ap5 => have := hB2.out.size; simp; omega
              intro v' w4 hown' hg _
              have hsz2 := hB2.out.size
              have hhs := (Array.getElem?_eq_some_iff.1 hP2.out).1
              have hB4 : Hid (Below w.heap.size w w4) := ((hB2.out.alloc hB2.out.size _).alloc (by simp; omega) _).grown hg (by simp; omega) (fun k hk => by have := (hO2.out.lt k hk).1; omega)
              have hP4 : Hid (w4.heap[w.heap.size]? = some (.cells ((ps.map B).map Value.string).toArray 9 (0, 0))) := by
                show _ = _
                rw [hg.block w.heap.size (by simp; omega) (fun e => by have := (hO2.out.lt _ e.symm).1; omega)]
                rw [Below.heap_alloc _ _ _ (by simp; omega), Below.heap_alloc _ _ _ hhs]
                exact hP2.out
              have hG3 : Hid (linesGo N (ps.drop (i + 1)) (i + 1) (out ++ [⟨(c.toNat : Int) == 32, trimmedL (c :: r), i + 1⟩]) none = R) := by
                have hin : ((c.toNat : Int) == 32) = ((c :: r).head? == some 32) := by
                  rw [Bool.eq_iff_iff, beq_iff_eq, beq_iff_eq, List.head?_cons, Option.some.injEq]
                  exact toNat_eq c 32 (by decide)
                show _ = _
                rw [← hG2.out, linesGo, if_neg (by simp [hok]), if_neg (by simp [hem]), if_neg (by simp [hod]), hin]
                rfl
              have hO4 : Hid (w4.ownsRow (w.heap.size + 1) 72 3 v' (out ++ [(⟨(c.toNat : Int) == 32, trimmedL (c :: r), i + 1⟩ : LineT)]).length ((out ++ [(⟨(c.toNat : Int) == 32, trimmedL (c :: r), i + 1⟩ : LineT)]).flatMap lcells)) := by
                show World.ownsRow _ _ _ _ _ _ _
                simpa [lcells] using hown'
              clear hown' hg
              go_wp2_with fail
              go_roundg gk
              case measure => omega
              case rel => exact ⟨i + 1, _, none, _, _, rfl, rfl, rfl, by omega, hG3, hO4, rfl, hB4, hP4, by simp; omega, fun o h => by cases h⟩
        | some o =>
          obtain ⟨b, hb, hv8, hcb, hob⟩ := hOp.out
          subst hv8
          subst h8
          have htx := hTx.out o rfl
          have hTL := Lib.hid (TrimLeft_any 32 (by decide) s)
          have hbl : b < wr.heap.size := (Array.getElem?_eq_some_iff.1 hcb).1
          go_wp2_with fail
          refine (hBad.out _).mono ?_
          rintro e w2 ⟨rfl, hb2⟩
          have hB2 := Lib.hid (hBw.out.next hb2)
          have hg2 : wr.grownBy w2 none := ⟨hb2.os, hb2.tape, hb2.output, hb2.size, fun k hk _ => hb2.block k hk⟩
          have hO2 := Lib.hid (hOw.out.kept hg2 (Classical.em _))
          have hP2 := Lib.hid ((hb2.block _ (Array.getElem?_eq_some_iff.1 hPs.out).1).trans hPs.out)
          have hc2 := Lib.hid ((hb2.block _ hbl).trans hcb)
          have c1 : w2.cell? ⟨b, 1, none⟩ = some (.string (B o.text)) := by rw [cell_of_heap hc2.out]; rfl
          have f1 : w2.frozen? ⟨b, 1, none⟩ = false := frozen_of_heap hc2.out 1
          have so : (B o.text).size = o.text.length := size_B _
          have sl : (B (trimL 32 s)).size = (trimL 32 s).length := size_B _
          have ht3 := trimL_len 32 s
          have hil : i ≤ 16385 := by omega
          clear hb2 hg2
          go_wp2_with fail
          go_region_with (go_at_call 36; refine (hTL.out _).mono ?_; rintro e w3 ⟨rfl, rfl⟩)
          all_goals go_wp2_with fail
          all_goals
            obtain ⟨w3, hw3⟩ : ∃ w3, (w2.setCell ⟨b, 1, none⟩ (.string (B (o.text ++ trimL 32 s)))).drew = w3 := ⟨_, rfl⟩
            have hc3 : Hid (w3.heap[b]? = some (.cells #[.bool o.inner, .string (B (o.text ++ trimL 32 s)), .int .i64 (o.num : Int)] 72 (0, 0))) := by rw [← hw3]; exact set_text hc2.out
            have hB3 : Hid (Below w.heap.size w w3) := by rw [← hw3]; exact (hB2.out.setCell (p := ⟨b, 1, none⟩) (by show w.heap.size ≤ b; omega) _).drew
            have hO3 : Hid (w3.ownsRow (w.heap.size + 1) 72 3 u7 out.length (out.flatMap lcells)) := by rw [← hw3]; exact (ownsRow_setCell_other hO2.out (a := ⟨b, 1, none⟩) hob _).drew
            have hP3 : Hid (w3.heap[w.heap.size]? = some (.cells ((ps.map B).map Value.string).toArray 9 (0, 0))) := by
              rw [← hw3]; exact (Below.heap_setCell _ ⟨b, 1, none⟩ _ _ (by show w.heap.size ≠ b; omega)).trans hP2.out
            rw [B_append, hw3]
            have hlen : (o.text ++ trimL 32 s).length ≤ 16384 * (i + 1) := by rw [List.length_append]; omega
            clear hc2 hB2 hO2 hP2 c1 f1 hw3
            obtain ⟨t, ht⟩ : ∃ t, o.text ++ trimL 32 s = t := ⟨_, rfl⟩
            have hopd : opened i s (some o) = ⟨o.inner, t, o.num⟩ := by rw [opened, ht]
            rw [ht] at hlen hc3
            rw [ht]
            have hsz3 := hB3.out.size
            have st : (B t).size = t.length := size_B t
            have c0 : w3.cell? ⟨b, 0, none⟩ = some (.bool o.inner) := by rw [cell_of_heap hc3.out]; rfl
            have c1 : w3.cell? ⟨b, 1, none⟩ = some (.string (B t)) := by rw [cell_of_heap hc3.out]; rfl
            have c2 : w3.cell? ⟨b, 2, none⟩ = some (.int .i64 (o.num : Int)) := by rw [cell_of_heap hc3.out]; rfl
            have f1 : w3.frozen? ⟨b, 1, none⟩ = false := frozen_of_heap hc3.out 1
            cases hod : oddL s with
            | true =>
              rw [hod] at hUn
              refine (hUn.out _).mono ?_
              rintro e w4 ⟨rfl, rfl⟩
              have hw0 : ((i : Int) + 1 == (N : Int)) = decide (i + 1 = N) := by rw [Bool.eq_iff_iff, beq_iff_eq, decide_eq_true_iff]; omega
              by_cases hlast : i + 1 = N
              · have hd : ((i : Int) + 1 == (N : Int)) = true := by rw [hw0, decide_eq_true hlast]
                have hfin : Hid (R = .error (i + 1)) := by
                  show _ = _
                  rw [← hG2.out, linesGo, if_neg (by simp [hok]), if_neg (by simp), if_pos hod, if_pos hlast]
                go_wp2_with fail
                rw [Exit.noGoto_ret]
                refine bodyPost_ret (v := .tuple #[.slice none 0 0, .int .i64 ((i + 1 : Nat) : Int), .int .i64 10]) (by simp [results, Tryz.results18, go_sem]) rfl ?_
                rw [hRS.out, hfin.out]
                exact ⟨_, rfl, hB3.out, own_nil _ _ _ _⟩
              · have hd : ((i : Int) + 1 == (N : Int)) = false := by rw [hw0, decide_eq_false hlast]
                have hne : t ≠ [] := by have h := opened_ne i s (some o) hod; rw [hopd] at h; exact h
                obtain ⟨m, hm'⟩ : ∃ m, t.length = m + 1 := ⟨t.length - 1, by have := List.length_pos_iff.2 hne; omega⟩
                rw [hm'] at st
                go_wp2_with fail
                go_region
                go_wp2_with fail
                have hEx : (B t).extract 0 m = B t.dropLast := by
                  rw [extract_B, List.drop_zero, List.dropLast_eq_take, hm']; rfl
                have hG3 : Hid (linesGo N (ps.drop (i + 1)) (i + 1) out (some ⟨o.inner, t.dropLast, o.num⟩) = R) := by
                  show _ = _
                  rw [← hG2.out, linesGo, if_neg (by simp [hok]), if_neg (by simp), if_pos hod, if_neg hlast, hopd]
                go_roundg gk
                case measure => omega
                case rel =>
                  refine ⟨i + 1, out, some ⟨o.inner, t.dropLast, o.num⟩, _, _, rfl, rfl, rfl, by omega, hG3, (ownsRow_setCell_other hO3.out (a := ⟨b, 1, none⟩) hob _).drew, ?_, (hB3.out.setCell (p := ⟨b, 1, none⟩) (by show w.heap.size ≤ b; omega) _).drew, ?_, by omega, ?_⟩
                  · refine ⟨b, hb, rfl, (set_text hc3.out).trans (by rw [hEx]; rfl), hob⟩
                  · exact (Below.heap_setCell _ ⟨b, 1, none⟩ _ _ (by show w.heap.size ≠ b; omega)).trans hP3.out
                  · intro o' ho'
                    obtain rfl := Option.some.inj ho'
                    show (t.dropLast).length ≤ 16384 * (i + 1)
                    rw [List.length_dropLast]; omega
            | false =>
              rw [hod] at hUn
              have hTr := Lib.hid (trimmed_any t (by omega))
              refine (hUn.out _).mono ?_
              rintro e w4 ⟨rfl, rfl⟩
              go_wp2_with fail
              refine (hTr.out _).mono ?_
              rintro e w4 ⟨rfl, rfl⟩
              obtain ⟨i0, hi, hz0, hz1, hz2⟩ := info_parts infoLine
              have hb4 := set_text (u := .string (B (trimmedL t))) hc3.out
              have hO4 := ownsRow_setCell_other hO3.out (a := ⟨b, 1, none⟩) hob (.string (B (trimmedL t)))
              have hB4 := hB3.out.setCell (p := ⟨b, 1, none⟩) (by show w.heap.size ≤ b; omega) (.string (B (trimmedL t)))
              have hP4 := (Below.heap_setCell w3 ⟨b, 1, none⟩ (.string (B (trimmedL t))) w.heap.size (by show w.heap.size ≠ b; omega)).trans hP3.out
              have hhs := (Array.getElem?_eq_some_iff.1 hP4).1
              have hz : (w3.setCell ⟨b, 1, none⟩ (.string (B (trimmedL t)))).heap.size = w3.heap.size := by simp
              have hbs : w.heap.size + 1 ≤ w3.heap.size := by rw [hz] at hhs; omega
              have hn2 := heap_alloc_new (w3.setCell ⟨b, 1, none⟩ (.string (B (trimmedL t)))) (.cells #[.bool o.inner, .string (B (trimmedL t)), .int .i64 (o.num : Int)] 72)
              rw [hz] at hn2
              have hO5 := Lib.hid (hO4.alloc (.cells #[.bool o.inner, .string (B (trimmedL t)), .int .i64 (o.num : Int)] 72))
              have hB5 := Lib.hid (hB4.alloc (Nat.le_trans (Nat.le_succ _) (by rw [hz]; exact hbs)) (.cells #[.bool o.inner, .string (B (trimmedL t)), .int .i64 (o.num : Int)] 72))
              have hP5 := Lib.hid ((Below.heap_alloc _ (.cells #[.bool o.inner, .string (B (trimmedL t)), .int .i64 (o.num : Int)] 72) _ hhs).trans hP4)
              have hG3 : Hid (linesGo N (ps.drop (i + 1)) (i + 1) (out ++ [⟨o.inner, trimmedL t, o.num⟩]) none = R) := by
                show _ = _
                rw [← hG2.out, linesGo, if_neg (by simp [hok]), if_neg (by simp), if_neg (by simp [hod]), hopd]
              have hn3 := Lib.hid hn2
              have hb5 := Lib.hid hb4
              clear hO4 hB4 hP4 hhs hn2 hb4
              go_wp2_with (at_builtin; refine wpList_append_own _ rfl _ _ 56 rfl (w.heap.size + 1) 72 i0 _ 3 32 Tryz.underlying56 hi hz0 hz1 hz2 rfl (by decide) _ _ _ rfl hO5.out _ 1 1 [.bool o.inner, .string (B (trimmedL t)), .int .i64 (o.num : Int)] rfl rfl ?ap1 ?ap2 ?ap3 ?ap4 ?ap5 ?_)
              case ap1 =>
                intro j u hj
                have g0 := cell_of_heap hn3.out 0
                have g1 := cell_of_heap hn3.out 1
                have g2 := cell_of_heap hn3.out 2
                rcases j with _ | _ | _ | j <;> simp at hj <;> subst hj
                · simpa [Addr.add] using g0
                · simpa [Addr.add] using g1
                · simpa [Addr.add] using g2
              case ap2 => simp [Value.oneCell']
              case ap3 => unfold maxLen; omega
              case ap4 => omega
              case ap5 => simp; omega
              intro v' w4 hown' hg _
              have hB6 : Hid (Below w.heap.size w w4) := hB5.out.grown hg (by simp; omega) (fun k hk => by have := (hO5.out.lt k hk).1; omega)
              have hP6 : Hid (w4.heap[w.heap.size]? = some (.cells ((ps.map B).map Value.string).toArray 9 (0, 0))) :=
                (hg.block w.heap.size (by simp; omega) (fun e => by have := (hO5.out.lt _ e.symm).1; omega)).trans hP5.out
              have hO6 : Hid (w4.ownsRow (w.heap.size + 1) 72 3 v' (out ++ [(⟨o.inner, trimmedL t, o.num⟩ : LineT)]).length ((out ++ [(⟨o.inner, trimmedL t, o.num⟩ : LineT)]).flatMap lcells)) := by
                show World.ownsRow _ _ _ _ _ _ _
                simpa [lcells] using hown'
              clear hown' hg
              go_wp2_with fail
              go_roundg gk
              case measure => omega
              case rel => exact ⟨i + 1, _, none, _, _, rfl, rfl, rfl, by omega, hG3, hO6, rfl, hB6, hP6, by simp; omega, fun o h => by cases h⟩
end Go.Proofs.YtbjekebkgidhaaaGreatDoor.Ln
end
section
set_option linter.unusedVariables false
namespace Go.Proofs.YtbjekebkgidhaaaGreatDoor.P
open Go.RowKit Go.Lib Go.Proofs.YtbjekebkgidhaaaGreatDoorW.PrintWords Go.Proofs.YtbjekebkgidhaaaGreatDoorW.PrintLast Go.Proofs.YtbjekebkgidhaaaGreatDoorW.PrintMore Go.Proofs.YtbjekebkgidhaaaGreatDoor.U
def lineS (o : Ln.LineT) : S72 := ⟨o.inner, B o.text, (o.num : Int)⟩
def lex_Lines.f (a0 : ByteArray) : Option (List S72 × Int × Int) := some ((Ln.linesL a0.data.toList).1.map lineS, ((Ln.linesL a0.data.toList).2.1 : Int), (Ln.linesL a0.data.toList).2.2)
theorem lines_R {w : World} {base : Nat} {v : Value} {l : List Ln.LineT} (h : w.ownsRow base 72 3 v l.length (l.flatMap Ln.lcells)) : Kd.R k72 72 w base (fun _ => True) v (l.map lineS) := by
  refine ⟨fun _ _ => trivial, l.flatMap Ln.lcells, ?_, ?_⟩
  · rw [List.length_map]; exact h
  · clear h
    refine ⟨?_, ?_⟩
    · show _ = _ * 3
      induction l with
      | nil => rfl
      | cons o l ih => simp [Ln.lcells] at ih ⊢; omega
    · intro j p hj
      show Kd.M k72 w base _ p (((l.flatMap Ln.lcells).drop (j * 3)).take 3)
      have : ((l.flatMap Ln.lcells).drop (j * 3)).take 3 = [.bool p.f0, .string p.f1, .int .i64 p.f2] := by
        induction l generalizing j with
        | nil => simp at hj
        | cons o l ih =>
          cases j with
          | zero => simp at hj; subst hj; simp [Ln.lcells, lineS]
          | succ j =>
            have h3 : (j + 1) * 3 = 3 + j * 3 := by omega
            rw [List.flatMap_cons, h3, ← List.drop_drop]
            exact ih j (by simpa using hj)
      rw [this]
      exact k72_mkM _ _ _ _
theorem lex_Lines.calls (a0 : ByteArray) (t0 : List S72) (t1 t2 : Int) (w : World) (hm : MaxCell w) (h : lex_Lines.f a0 = some (t0, t1, t2)) :
    Calls Tryz.prog 18 #[.string a0] w fun e w' => ∃ v0_ : Value, e = .returned (.tuple #[v0_, .int .i64 t1, .int .i64 t2]) ∧ Kd.R k72 72 w' w.heap.size (fun _ => True) v0_ t0 ∧ Below w.heap.size w w' := by
  obtain ⟨l, rfl⟩ := B_surj a0
  have h' := Option.some.inj h
  have e1 : (Ln.linesL l).1.map lineS = t0 := congrArg (·.1) h'
  have e2 : ((Ln.linesL l).2.1 : Int) = t1 := congrArg (·.2.1) h'
  have e3 : (Ln.linesL l).2.2 = t2 := congrArg (·.2.2) h'
  subst e1 e2 e3
  by_cases hl : l.length ≤ 16384
  · refine (Ln.Lines_any l hl w hm).mono ?_
    rintro e w' ⟨v, rfl, hb, ho⟩
    exact ⟨v, rfl, Kd.R_lower (lines_R ho) (Nat.le_succ _), hb⟩
  · have e0 : Ln.linesL l = ([], 0, 3) := by rw [Ln.linesL, if_pos (by omega)]
    refine (Ln.Lines_long l (by omega) w).mono ?_
    rintro e w' ⟨rfl, rfl⟩
    rw [e0]
    exact ⟨_, rfl, Kd.R_nil _ _ _ _ _, Below.refl _ _⟩
end Go.Proofs.YtbjekebkgidhaaaGreatDoor.P
end
section
set_option linter.unusedSimpArgs false
set_option linter.unusedVariables false
namespace Go.Proofs.YtbjekebkgidhaaaGreatDoor.Mf
open Go.RowKit Go.Lib Go.Shelf Go.Maps Go.Proofs.YtbjekebkgidhaaaGreatDoorW.PrintWords Go.Proofs.YtbjekebkgidhaaaGreatDoor.U Go.Proofs.YtbjekebkgidhaaaGreatDoor.Sc Go.Proofs.YtbjekebkgidhaaaGreatDoor.P Go.Proofs.YtbjekebkgidhaaaGreatDoor.MapV
theorem rows3 {w : World} {b : Nat} {A : Option Addr} {c : Nat} {ls : List Ln.LineT} (h : w.ownsRow b 72 3 (.slice A ls.length c) ls.length (ls.flatMap Ln.lcells)) (i : Nat) (hi : i < ls.length) :
    ∃ q, A = some ⟨q, 0, none⟩ ∧ w.cell? ⟨q, i * 3, none⟩ = some (.bool ls[i].inner) ∧ w.cell? ⟨q, i * 3 + 1, none⟩ = some (.string (B ls[i].text)) ∧ w.cell? ⟨q, i * 3 + 2, none⟩ = some (.int .i64 (ls[i].num : Int)) := by
  rcases h.2 with ⟨_, e2⟩ | ⟨q, cap, cur, e, _, hh, _, _, _, ht⟩
  · omega
  injection e with e _ _
  refine ⟨q, e, ?_⟩
  have hget : ∀ (l : List Ln.LineT) (i : Nat) (hi : i < l.length) (k : Nat), k < 3 → (l.flatMap Ln.lcells)[i * 3 + k]? = (Ln.lcells l[i])[k]? := by
    intro l
    induction l with
    | nil => intro i hi; exact absurd hi (by simp)
    | cons x l ih =>
      intro i hi k hk
      rw [List.flatMap_cons]
      cases i with
      | zero =>
        rw [List.getElem?_append_left (by simp [Ln.lcells]; omega)]
        simp
      | succ i =>
        rw [List.getElem?_append_right (by simp [Ln.lcells]; omega)]
        have := ih i (by simpa using hi) k hk
        rw [show (i + 1) * 3 + k - (Ln.lcells x).length = i * 3 + k by simp [Ln.lcells]; omega, this]
        rfl
  have hc : ∀ k, k < 3 → w.cell? ⟨q, i * 3 + k, none⟩ = (Ln.lcells ls[i])[k]? := by
    intro k hk
    rw [cell_of_heap hh, ← hget ls i hi k hk, ← ht, List.getElem?_take_of_lt (by omega)]
    simp
  exact ⟨(hc 0 (by omega)).trans rfl, (hc 1 (by omega)).trans rfl, (hc 2 (by omega)).trans rfl⟩
def noPanic (Q : Exit → Act → World → Prop) : Exit → Act → World → Prop
  | .panic _, _, _ => False
  | e, a, w => Q e a w
theorem quiet {P : Program} {c : Code} {Q : Exit → Act → World → Prop} {a : Act} {w : World} (h : c.wp P (noPanic Q) a w) : c.wp P Q a w :=
  wp_mono h (by
    intro e a w h
    cases e with
    | panic ch => exact h.elim
    | normal => exact h
    | exit _ => exact h
    | goto _ => exact h
    | ret => exact h
    | outgrown => exact h)
def mem0 (n : Nat) : Mem where
  role b := if b = n + 1 + 1 + 1 then .reader else if b = n then .fmap else if b = n + 1 + 1 then .rmap else .still
  r := n + 1 + 1 + 1
  fb := n + 1
  fm := n
  rm := n + 1 + 1
  rb _ := 0
  tb _ := 0
  eb _ := 0
  sb _ := 0
  mb _ := 0
  e0 _ := undef
  e1 _ := undef
  e2 _ := undef
  e3 _ := undef
  ve := .slice none 0 0
  vd := .slice none 0 0
  line := 0
  vi := .nilFunc
  vo := .pointer none
  n := 0
theorem Inv.init (w : World) : Inv w.heap.size ((((w.alloc (.map #[] 0)).alloc (.cells #[.pointer none, .map (some w.heap.size)] 91)).alloc (.map #[] 0)).alloc (.cells #[at0 (w.heap.size + 1), .map (some (w.heap.size + 1 + 1)), .slice none 0 0, .slice none 0 0, .int .i64 ((0 : Nat) : Int), .nilFunc, .pointer none] 70))
    (mem0 w.heap.size) St.init := by
  have hm : ∀ b o, (b = w.heap.size ∧ o = Obj.map #[] 0) ∨ (b = w.heap.size + 1 ∧ o = .cells #[.pointer none, .map (some w.heap.size)] 91 (0, 0)) ∨ (b = w.heap.size + 1 + 1 ∧ o = .map #[] 0) ∨ (b = w.heap.size + 1 + 1 + 1 ∧ o = .cells #[at0 (w.heap.size + 1), .map (some (w.heap.size + 1 + 1)), .slice none 0 0, .slice none 0 0, .int .i64 ((0 : Nat) : Int), .nilFunc, .pointer none] 70 (0, 0)) →
      ((((w.alloc (.map #[] 0)).alloc (.cells #[.pointer none, .map (some w.heap.size)] 91)).alloc (.map #[] 0)).alloc (.cells #[at0 (w.heap.size + 1), .map (some (w.heap.size + 1 + 1)), .slice none 0 0, .slice none 0 0, .int .i64 ((0 : Nat) : Int), .nilFunc, .pointer none] 70)).heap[b]? = some o := by
    intro b o h
    rcases h with ⟨rfl, rfl⟩ | ⟨rfl, rfl⟩ | ⟨rfl, rfl⟩ | ⟨rfl, rfl⟩
    · refine (heapAt_lt ?_).trans ((heapAt_lt ?_).trans ((heapAt_lt ?_).trans (heapAt_eq rfl)))
      all_goals simp only [World.size_alloc]
      all_goals omega
    · refine (heapAt_lt ?_).trans ((heapAt_lt ?_).trans (heapAt_eq ?_))
      all_goals simp only [World.size_alloc]
      all_goals omega
    · refine (heapAt_lt ?_).trans (heapAt_eq ?_)
      all_goals simp only [World.size_alloc]
      all_goals omega
    · refine heapAt_eq ?_
      simp only [World.size_alloc]
  have r1 : (mem0 w.heap.size).role (w.heap.size + 1 + 1 + 1) = .reader := if_pos rfl
  have r2 : (mem0 w.heap.size).role w.heap.size = .fmap := by
    show (if _ then _ else if _ then _ else _) = _
    rw [if_neg (by omega), if_pos rfl]
  have r3 : (mem0 w.heap.size).role (w.heap.size + 1 + 1) = .rmap := by
    show (if _ then _ else if _ then _ else if _ then _ else _) = _
    rw [if_neg (by omega), if_neg (by omega), if_pos rfl]
  have r4 : (mem0 w.heap.size).role (w.heap.size + 1) = .still := by
    show (if _ then _ else if _ then _ else if _ then _ else _) = _
    rw [if_neg (by omega), if_neg (by omega), if_neg (by omega)]
  refine ⟨by simp; omega, ?_, r1, hm _ _ (.inr (.inr (.inr ⟨rfl, rfl⟩))), r4, hm _ _ (.inr (.inl ⟨rfl, rfl⟩)), r2, OwnsM.made_at (hm _ _ (.inl ⟨rfl, rfl⟩)), Short.none0 _, r3, ?_, ?_, ?_, by show 0 ≤ 200; omega, World.ownsRow_nil _ _ _ _, ?_, World.ownsRow_nil _ _ _ _, ?_, by show 0 ≤ _; omega, .inl ⟨rfl, rfl, rfl⟩⟩
  · intro b hb
    have : (if b = w.heap.size + 1 + 1 + 1 then Role.reader else if b = w.heap.size then .fmap else if b = w.heap.size + 1 + 1 then .rmap else .still) ≠ Role.still := hb
    by_cases h1 : b = w.heap.size + 1 + 1 + 1
    · omega
    by_cases h2 : b = w.heap.size
    · omega
    by_cases h3 : b = w.heap.size + 1 + 1
    · omega
    rw [if_neg h1, if_neg h2, if_neg h3] at this
    exact absurd rfl this
  · have h1 : OwnsV ((((w.alloc (.map #[] 0)).alloc (.cells #[.pointer none, .map (some w.heap.size)] 91)).alloc (.map #[] 0))) (w.heap.size + 1 + 1) 0 noneV := by
      have := OwnsV.made ((w.alloc (.map #[] 0)).alloc (.cells #[.pointer none, .map (some w.heap.size)] 91))
      simpa using this
    exact h1.same (heapAt_lt (by simp))
  · intro i hi; exact absurd hi (by show ¬ i < 0; omega)
  · intro j hj; exact absurd hj (by show ¬ j < 0; omega)
  · intro b hb; cases hb
  · intro b hb; cases hb
end Go.Proofs.YtbjekebkgidhaaaGreatDoor.Mf
end
section
set_option linter.unusedSimpArgs false
set_option linter.unusedVariables false
namespace Go.Proofs.YtbjekebkgidhaaaGreatDoor.Mf
open Go.RowKit Go.Lib Go.Shelf Go.Maps Go.Proofs.YtbjekebkgidhaaaGreatDoorW.PrintWords Go.Proofs.YtbjekebkgidhaaaGreatDoor.U Go.Proofs.YtbjekebkgidhaaaGreatDoor.Sc Go.Proofs.YtbjekebkgidhaaaGreatDoor.P Go.Proofs.YtbjekebkgidhaaaGreatDoor.MapV
def Plain : Obj → Prop
  | .cells _ t _ => t ≠ 32 ∧ t ≠ 47 ∧ t ≠ 3 ∧ t ≠ 27
  | _ => True
def Stay (w w' : World) : Prop := w.heap.size ≤ w'.heap.size ∧ ∀ (b : Nat) (o : Obj), w.heap[b]? = some o → Plain o → w'.heap[b]? = some o
section
variable {w w' : World} {B0 : Nat} {g : Mem} {st : St} {i : Nat}
theorem Stay.below (h : Below w.heap.size w w') : Stay w w' := ⟨h.size, fun b o hb _ => (h.block b (lt_blk hb)).trans hb⟩
theorem Stay.trans {w2 : World} (h : Stay w w') (k : Stay w' w2) : Stay w w2 := ⟨Nat.le_trans h.1 k.1, fun b o hb ho => k.2 b o (h.2 b o hb ho) ho⟩
theorem Stay.setCell {b : Nat} {cs : Array Value} {t : TypeId} {fr : Nat × Nat} (hb : w.heap[b]? = some (.cells cs t fr)) (hp : ¬ Plain (.cells cs t fr)) (k : Nat) (u : Value) : Stay w (w.setCell ⟨b, k, none⟩ u) := by
  refine ⟨by simp, fun b' o hb' ho => ?_⟩
  refine (Below.heap_setCell _ _ _ b' (fun e => ?_)).trans hb'
  rw [show b' = b from e, hb] at hb'
  injection hb' with hb'
  rw [← hb'] at ho
  exact hp ho
theorem Stay.mapM {b n : Nat} {m : MapL} (h : OwnsM w b n m) (k : Stay w w') : OwnsM w' b n m := by
  obtain ⟨D, ⟨es, clock, h1, h2⟩, r⟩ := h
  exact ⟨D, ⟨es, clock, k.2 b _ h1 trivial, h2⟩, r⟩
theorem Stay.row {t : TypeId} {n : Nat} {v : Value} {xs : List Value} {b : Nat} (h : w.ownsRow b t 1 v n xs) (k : Stay w w') (ht : t ≠ 32 ∧ t ≠ 47 ∧ t ≠ 3 ∧ t ≠ 27) : w'.ownsRow b t 1 v n xs := by
  refine own_move h fun q hq => ?_
  obtain ⟨cs, hcs⟩ := own_typed h q hq
  rw [hcs]; exact k.2 q _ hcs ht
theorem Stay.sl {v : Value} {l : List Txt} (h : SlA B0 w g v l) (k : Stay w w') : SlA B0 w' g v l := ⟨Stay.row h.own k (by decide), h.rl⟩
theorem Rest.stay (h : Rest B0 w g st i) (k : Stay w w') : Rest B0 w' g st i := by
  obtain ⟨ln, hr⟩ := h.hr
  refine ⟨Nat.le_trans h.base k.1, h.new, h.rr, ⟨ln, k.2 _ _ hr (by simp [Plain])⟩, h.rf, k.2 _ _ h.hf (by simp [Plain]), h.rfm, Stay.mapM h.mf k, h.sf, ?_, ?_, ?_, h.ne, Stay.row h.oe k (by decide), h.roe, Stay.row h.od k (by decide), h.rod⟩
  · intro q hq
    have a := h.rules q hq
    exact ⟨a.rr, a.rt, k.2 _ _ a.hb (by simp [Plain]), Stay.mapM a.ht k, a.nm, a.sh⟩
  · intro j hj hij
    have a := h.edges j hj hij
    exact ⟨a.re, a.rs, a.rm, k.2 _ _ a.he (by simp [Plain]), k.2 _ _ a.hs (by simp [Plain]), Stay.mapM a.hm k, a.lt, Stay.sl a.s0 k, Stay.sl a.s1 k, Stay.sl a.s2 k, Stay.sl a.s3 k, a.sh, a.f0, a.f1⟩
  · intro j hj
    obtain ⟨a, b, c, d⟩ := h.rows j hj
    exact ⟨Stay.sl a k, Stay.sl b k, Stay.sl c k, Stay.sl d k⟩
end
end Go.Proofs.YtbjekebkgidhaaaGreatDoor.Mf
end
section
set_option linter.unusedSimpArgs false
set_option linter.unusedVariables false
namespace Go.Proofs.YtbjekebkgidhaaaGreatDoor.Mf
open Go.RowKit Go.Lib Go.Shelf Go.Maps Go.Proofs.YtbjekebkgidhaaaGreatDoorW.PrintWords Go.Proofs.YtbjekebkgidhaaaGreatDoor.U Go.Proofs.YtbjekebkgidhaaaGreatDoor.Sc Go.Proofs.YtbjekebkgidhaaaGreatDoor.P Go.Proofs.YtbjekebkgidhaaaGreatDoor.MapV
theorem lines_both (text : Txt) (w : World) (hm : MaxCell w) : Calls Tryz.prog 18 #[.string (B text)] w fun e w' => ∃ v, e = .returned (.tuple #[v, .int .i64 ((Ln.linesL text).2.1 : Int), .int .i64 (Ln.linesL text).2.2]) ∧ Below w.heap.size w w' ∧
    w'.ownsRow w.heap.size 72 3 v (Ln.linesL text).1.length ((Ln.linesL text).1.flatMap Ln.lcells) := by
  by_cases hl : text.length ≤ 16384
  · refine (Ln.Lines_any text hl w hm).mono ?_
    rintro e w' ⟨v, rfl, hb, ho⟩
    exact ⟨v, rfl, hb, own_lower ho (Nat.le_succ _)⟩
  · have e0 : Ln.linesL text = ([], 0, 3) := by rw [Ln.linesL, if_pos (by omega)]
    refine (Ln.Lines_long text (by omega) w).mono ?_
    rintro e w' ⟨rfl, rfl⟩
    rw [e0]
    exact ⟨_, rfl, Below.refl _ _, World.ownsRow_nil _ _ _ _⟩
def ecells (f0 f1 f2 f3 : Nat → Value) : Nat → List EdgeO → List Value
  | _, [] => []
  | k, o :: r => [f0 k, f1 k, f2 k, f3 k, .string (B o.command), .string (B o.depfile)] ++ ecells f0 f1 f2 f3 (k + 1) r
theorem ecells_append (f0 f1 f2 f3 : Nat → Value) : ∀ (l : List EdgeO) (k : Nat) (o : EdgeO), ecells f0 f1 f2 f3 k (l ++ [o]) = ecells f0 f1 f2 f3 k l ++ [f0 (k + l.length), f1 (k + l.length), f2 (k + l.length), f3 (k + l.length), .string (B o.command), .string (B o.depfile)]
  | [], k, o => by simp [ecells]
  | x :: l, k, o => by
    simp only [List.cons_append, ecells, ecells_append f0 f1 f2 f3 l (k + 1) o, List.length_cons, List.append_assoc]
    rw [show k + 1 + l.length = k + (l.length + 1) by omega]
def EdgesAt (w : World) (b : Nat) (v : Value) (l : List EdgeO) : Prop :=
  ∃ f0 f1 f2 f3 : Nat → Value, w.ownsRow b 47 6 v l.length (ecells f0 f1 f2 f3 0 l) ∧ ∀ (j : Nat) (h : j < l.length),
    w.ownsRow b 9 1 (f0 j) l[j].outs.length (strs l[j].outs) ∧ w.ownsRow b 9 1 (f1 j) l[j].ins.length (strs l[j].ins) ∧ w.ownsRow b 9 1 (f2 j) l[j].imp.length (strs l[j].imp) ∧ w.ownsRow b 9 1 (f3 j) l[j].ord.length (strs l[j].ord)
def Parsed (w : World) (r : List EdgeO × List Txt × Nat × Int) (e : Ending) (w' : World) : Prop :=
  ∃ v0 v1, e = .returned (.tuple #[.agg #[v0, v1], .int .i64 (r.2.2.1 : Int), .int .i64 r.2.2.2]) ∧ EdgesAt w' w.heap.size v0 r.1 ∧ w'.ownsRow w.heap.size 9 1 v1 r.2.1.length (strs r.2.1) ∧ Below w.heap.size w w'
theorem EdgesAt.nil (w : World) (b : Nat) : EdgesAt w b (.slice none 0 0) [] := ⟨fun _ => undef, fun _ => undef, fun _ => undef, fun _ => undef, World.ownsRow_nil _ _ _ _, fun j h => absurd h (by simp)⟩
set_option maxRecDepth 100000 in
theorem parse_results (tmps : Array Value) (n : Nat) (h2 : tmps[2]?.getD undef = .pointer (some ⟨n, 0, none⟩)) (h3 : tmps[3]?.getD undef = .pointer (some ⟨n + 1, 0, none⟩)) (h4 : tmps[4]?.getD undef = .pointer (some ⟨n + 1 + 1, 0, none⟩)) (W : World) (v0 v1 : Value) (l c : Int)
    (hm : W.heap[n]? = some (.cells #[v0, v1] 32 (0, 0))) (hn : W.heap[n + 1]? = some (.cells #[.int .i64 l] 3 (0, 0))) (ho : W.heap[n + 1 + 1]? = some (.cells #[.int .i64 c] 27 (0, 0))) :
    (results Tryz.f9 tmps).run Tryz.prog W = .ok (.tuple #[.agg #[v0, v1], .int .i64 l, .int .i64 c]) W := by
  have m0 : W.cell? ⟨n, 0, none⟩ = some v0 := (cell_of_heap (j := 0) hm).trans rfl
  have m1 : W.cell? ⟨n, 1, none⟩ = some v1 := (cell_of_heap (j := 1) hm).trans rfl
  have c1 := cell_of_one hn
  have c2 := cell_of_one ho
  simp [results, Tryz.f9, go_sem, h2, h3, h4, m0, m1, c1, c2]
structure Frm (n : Nat) (tmps : Array Value) : Prop where
  h2 : tmps[2]?.getD undef = .pointer (some ⟨n, 0, none⟩)
  h3 : tmps[3]?.getD undef = .pointer (some ⟨n + 1, 0, none⟩)
  h4 : tmps[4]?.getD undef = .pointer (some ⟨n + 1 + 1, 0, none⟩)
abbrev dfr (n : Nat) : Deferred := { target := .fn (.func 19) #[.pointer (some ⟨n, 0, none⟩), .pointer (some ⟨n + 1, 0, none⟩), .pointer (some ⟨n + 1 + 1, 0, none⟩)], args := #[] }
theorem leave_bad {w W : World} {tmps : Array Value} (hf : Frm w.heap.size tmps) {r : List EdgeO × List Txt × Nat × Int} {l : Nat} {c : Int} (hr : r = ([], [], l, c)) {v0 v1 : Value} {x y : Int} (hm : W.heap[w.heap.size]? = some (.cells #[v0, v1] 32 (0, 0))) (hn : W.heap[w.heap.size + 1]? = some (.cells #[.int .i64 x] 3 (0, 0))) (ho : W.heap[w.heap.size + 1 + 1]? = some (.cells #[.int .i64 y] 27 (0, 0)))
    (hb : Below w.heap.size w W) : Leaves Tryz.prog Tryz.f9 tmps (Parsed w r) [dfr w.heap.size] (.panicking [{ v := .iface 60 (.agg #[.int .i64 (l : Int), .int .i64 c]), recovered := false }]) W := by
  subst hr
  refine leaves_cons (f := 19) (args := #[.pointer (some ⟨w.heap.size, 0, none⟩), .pointer (some ⟨w.heap.size + 1, 0, none⟩), .pointer (some ⟨w.heap.size + 1 + 1, 0, none⟩)]) (by simp) (by simp [go_sem]) ?_
  refine (catch_wrong _ _ _ l c _ _ _ _ W hm hn ho (by omega) (by omega) (by omega)).mono ?_
  rintro e u' w' ⟨rfl, rfl, h1, h2, h3, h4⟩
  exact ⟨_, parse_results tmps w.heap.size hf.h2 hf.h3 hf.h4 w' _ _ _ _ h1 h2 h3, _, _, rfl, EdgesAt.nil _ _, World.ownsRow_nil _ _ _ _, hb.trans (h4 _ (Nat.le_refl _) (by omega) (by omega) hb.size)⟩
theorem leave_good {w W : World} {tmps : Array Value} (hf : Frm w.heap.size tmps) {r : List EdgeO × List Txt × Nat × Int} {v0 v1 : Value} (hm : W.heap[w.heap.size]? = some (.cells #[v0, v1] 32 (0, 0))) (hn : W.heap[w.heap.size + 1]? = some (.cells #[.int .i64 (r.2.2.1 : Int)] 3 (0, 0))) (ho : W.heap[w.heap.size + 1 + 1]? = some (.cells #[.int .i64 r.2.2.2] 27 (0, 0)))
    (he : EdgesAt W w.heap.size v0 r.1) (hd : W.ownsRow w.heap.size 9 1 v1 r.2.1.length (strs r.2.1)) (hb : Below w.heap.size w W) : Leaves Tryz.prog Tryz.f9 tmps (Parsed w r) [dfr w.heap.size] .returning W := by
  refine leaves_cons (f := 19) (args := #[.pointer (some ⟨w.heap.size, 0, none⟩), .pointer (some ⟨w.heap.size + 1, 0, none⟩), .pointer (some ⟨w.heap.size + 1 + 1, 0, none⟩)]) (by simp) (by simp [go_sem]) ?_
  refine (catch_idle _ _ _ W).mono ?_
  rintro e u' w' ⟨rfl, rfl, rfl⟩
  exact ⟨_, parse_results tmps w.heap.size hf.h2 hf.h3 hf.h4 _ _ _ _ _ hm hn ho, _, _, rfl, he, hd, hb⟩
theorem leave_none {w W : World} {tmps : Array Value} (hf : Frm w.heap.size tmps) {r : List EdgeO × List Txt × Nat × Int} {l : Nat} {c : Int} (hr : r = ([], [], l, c)) (hm : W.heap[w.heap.size]? = some (.cells #[.slice none 0 0, .slice none 0 0] 32 (0, 0))) (hn : W.heap[w.heap.size + 1]? = some (.cells #[.int .i64 (l : Int)] 3 (0, 0))) (ho : W.heap[w.heap.size + 1 + 1]? = some (.cells #[.int .i64 c] 27 (0, 0)))
    (hb : Below w.heap.size w W) : Leaves Tryz.prog Tryz.f9 tmps (Parsed w r) [] .returning W := by
  subst hr
  exact ⟨_, parse_results tmps w.heap.size hf.h2 hf.h3 hf.h4 _ _ _ _ _ hm hn ho, _, _, rfl, EdgesAt.nil _ _, World.ownsRow_nil _ _ _ _, hb⟩
def PostP (n : Nat) (R : Ending → World → Prop) (Q : Exit → Act → World → Prop) : Exit → Act → World → Prop
  | .panic ch, a, w => Frm n a.tmps ∧ a.defers = [dfr n] ∧ ∀ tmps, Frm n tmps → Leaves Tryz.prog Tryz.f9 tmps R [dfr n] (.panicking ch) w
  | e, a, w => Q e a w
theorem loud {n : Nat} {R : Ending → World → Prop} {c : Code} {Q : Exit → Act → World → Prop} {a : Act} {w : World} (hQ : ∀ ch a w, Leaves Tryz.prog Tryz.f9 a.tmps R a.defers (.panicking ch) w → Q (.panic ch) a w)
    (h : c.wp Tryz.prog (PostP n R Q) a w) : c.wp Tryz.prog Q a w :=
  wp_mono h (by
    intro e a w h
    cases e with
    | panic ch => exact hQ ch a w (by rw [h.2.1]; exact h.2.2 _ h.1)
    | normal => exact h
    | exit _ => exact h
    | goto _ => exact h
    | ret => exact h
    | outgrown => exact h)
theorem postP_put {n : Nat} {R : Ending → World → Prop} {Q : Exit → Act → World → Prop} {d : Tmp} {v : Value} (h2 : d ≠ 2) (h3 : d ≠ 3) (h4 : d ≠ 4) : ∀ c (a : Act) w, PostP n R Q (.panic c) (a.put (some d) v) w → PostP n R Q (.panic c) a w := by
  intro c a w h
  have hk : ∀ k, d ≠ k → (a.put (some d) v).tmps[k]? = a.tmps[k]? := fun k hk => Array.getElem?_setIfInBounds_ne hk
  refine ⟨⟨?_, ?_, ?_⟩, h.2.1, h.2.2⟩
  · have := h.1.h2; rw [hk 2 h2] at this; exact this
  · have := h.1.h3; rw [hk 3 h3] at this; exact this
  · have := h.1.h4; rw [hk 4 h4] at this; exact this
theorem infoEdgeV : (Tryz.prog.info? 47).map (fun i => (i.zero, i.size, i.bytes)) = some (some (.agg #[.slice none 0 0, .slice none 0 0, .slice none 0 0, .slice none 0 0, .string ⟨#[]⟩, .string ⟨#[]⟩]), 6, 128) := by kernel_rfl
theorem own_one {w : World} {b e size n : Nat} {v : Value} {xs : List Value} (h : w.ownsRow b e size v n xs) : v.oneCell' = true := by
  rcases h.2 with ⟨e, _⟩ | ⟨b, cap, cur, e, _⟩ <;> rw [e] <;> rfl
theorem edges_keep {B0 : Nat} {w w' : World} {g : Mem} {st : St} {j n : Nat} {v : Value} {xs : List Value} (h : w.ownsRow B0 47 6 v n xs) (hR : Rest B0 w g st j) (hj : j < st.edges.length)
    (hk : ∀ b, b < w.drew.heap.size → b ≠ g.r → b ≠ g.eb j → b ≠ g.mb j → w'.heap[b]? = w.drew.heap[b]?) : w'.ownsRow B0 47 6 v n xs := by
  refine own_move h fun b hb => ?_
  obtain ⟨cs, hcs⟩ := own_typed h b hb
  obtain ⟨ln, hr⟩ := hR.hr
  have hE := hR.edges j hj (Nat.le_refl _)
  obtain ⟨D, ⟨es, clock, h1, _⟩, _⟩ := hE.hm
  exact hk b (lt_blk hcs) (ne_of_cells hcs hr (by decide)) (ne_of_cells hcs hE.he (by decide)) (ne_of_map hcs h1)
theorem stay_grown {B0 n : Nat} {w w' : World} {v : Value} {xs : List Value} (h : w.ownsRow B0 47 6 v n xs) (hg : w.grownBy w' v.ownBlock) : Stay w w' := by
  refine ⟨hg.size, fun b o hb ho => (hg.block b (lt_blk hb) (fun e => ?_)).trans hb⟩
  obtain ⟨cs, hcs⟩ := own_typed h b e.symm
  rw [hcs] at hb
  injection hb with hb
  rw [← hb] at ho
  simp [Plain] at ho
theorem eq_snoc {edges : List EdgeS} {acc : List EdgeO} {j : Nat} {eo : EdgeO} (hal : acc.length = j) (hj : j < edges.length) (h : ∀ (q : Nat) (h : q < acc.length), ∃ e, edges[q]? = some e ∧ acc[q].outs = e.outs ∧ acc[q].ins = e.ins ∧ acc[q].imp = e.imp ∧ acc[q].ord = e.ord)
    (h1 : eo.outs = (edges[j]?.map (·.outs)).getD []) (h2 : eo.ins = (edges[j]?.map (·.ins)).getD []) (h3 : eo.imp = (edges[j]?.map (·.imp)).getD []) (h4 : eo.ord = (edges[j]?.map (·.ord)).getD []) :
    ∀ (q : Nat) (h : q < (acc ++ [eo]).length), ∃ e, edges[q]? = some e ∧ (acc ++ [eo])[q].outs = e.outs ∧ (acc ++ [eo])[q].ins = e.ins ∧ (acc ++ [eo])[q].imp = e.imp ∧ (acc ++ [eo])[q].ord = e.ord := by
  intro q hq
  have hl : (acc ++ [eo]).length = acc.length + 1 := by simp
  rcases Nat.lt_or_ge q acc.length with hlt | hge
  · rw [List.getElem_append_left hlt]; exact h q hlt
  · obtain rfl : q = j := by omega
    have e := List.getElem?_eq_getElem hj
    rw [e] at h1 h2 h3 h4
    have e2 : (acc ++ [eo])[q] = eo := by rw [List.getElem_append_right (by omega)]; simp
    rw [e2]
    exact ⟨_, e, h1, h2, h3, h4⟩
set_option maxRecDepth 100000 in
set_option maxHeartbeats 8000000 in
theorem parse_any (text : Txt) (w : World) (hm : MaxCell w) : Calls Tryz.prog 9 #[.string (B text)] w (Parsed w (parseL text)) := by
  have hmf : ∀ (fn : Fn) (first cap : Array Value) (w : World), (Instr.makeFunc fn first cap).run Tryz.prog w = .ok (.func fn first cap) w := fun _ _ _ _ => rfl
  have hmm := @run_makeMap Tryz.prog
  have hMH := Lib.hid hm
  clear hm
  go_enter_defers Tryz.func9, Tryz.ntmps9
  go_wp2_with fail
  have hb1 : Below w.heap.size w (((w.alloc (.cells #[.slice none 0 0, .slice none 0 0] 32)).alloc (.cells #[.int .i64 0] 3)).alloc (.cells #[.int .i64 0] 27)) := by (repeat (first | exact Below.refl _ _ | refine Below.drew ?_ | refine Below.setCell ?_ (by simp <;> omega) _ | refine Below.alloc ?_ (by simp <;> omega) _))
  have hz1 : (((w.alloc (.cells #[.slice none 0 0, .slice none 0 0] 32)).alloc (.cells #[.int .i64 0] 3)).alloc (.cells #[.int .i64 0] 27)).heap.size = w.heap.size + 1 + 1 + 1 := by simp
  have bm : (((w.alloc (.cells #[.slice none 0 0, .slice none 0 0] 32)).alloc (.cells #[.int .i64 0] 3)).alloc (.cells #[.int .i64 0] 27)).heap[w.heap.size]? = some (.cells #[.slice none 0 0, .slice none 0 0] 32 (0, 0)) := by
    refine (heapAt_lt ?_).trans ((heapAt_lt ?_).trans (heapAt_eq rfl))
    all_goals simp only [World.size_alloc]
    all_goals omega
  have bn : (((w.alloc (.cells #[.slice none 0 0, .slice none 0 0] 32)).alloc (.cells #[.int .i64 0] 3)).alloc (.cells #[.int .i64 0] 27)).heap[w.heap.size + 1]? = some (.cells #[.int .i64 0] 3 (0, 0)) := by
    refine (heapAt_lt ?_).trans (heapAt_eq ?_)
    all_goals simp only [World.size_alloc]
    all_goals omega
  have bo : (((w.alloc (.cells #[.slice none 0 0, .slice none 0 0] 32)).alloc (.cells #[.int .i64 0] 3)).alloc (.cells #[.int .i64 0] 27)).heap[w.heap.size + 1 + 1]? = some (.cells #[.int .i64 0] 27 (0, 0)) := by
    refine heapAt_eq ?_
    simp only [World.size_alloc]
  refine (lines_both text _ (hMH.out.below hb1)).mono ?_
  rintro e w2 ⟨v, rfl, hb, ho⟩
  have hB2 := Lib.hid (hb1.trans (hb.mono hb1.size))
  have hz2 : w.heap.size + 1 + 1 + 1 ≤ w2.heap.size := by rw [← hz1]; exact hb.size
  have hm2 := Lib.hid ((hb.block _ (lt_blk bm)).trans bm)
  have hn2 := Lib.hid ((hb.block _ (lt_blk bn)).trans bn)
  have ho2 := Lib.hid ((hb.block _ (lt_blk bo)).trans bo)
  obtain ⟨A, c, rfl⟩ : ∃ A c, v = .slice A (Ln.linesL text).1.length c := by
    rcases ho.2 with ⟨e, e2⟩ | ⟨b, cap, _, e, _⟩
    · exact ⟨none, 0, by rw [e, e2]⟩
    · exact ⟨_, _, e⟩
  have hO : Hid (w2.ownsRow (w.heap.size + 1 + 1 + 1) 72 3 (.slice A (Ln.linesL text).1.length c) (Ln.linesL text).1.length ((Ln.linesL text).1.flatMap Ln.lcells)) := by rw [← hz1]; exact ho
  have hPL : Hid (parseL text = if (Ln.linesL text).2.2 = 0 then (match parseE (Ln.linesL text).1 with
      | .error e => ([], [], e.1, e.2)
      | .ok r => (r.1, r.2, 0, 0)) else ([], [], (Ln.linesL text).2.1, (Ln.linesL text).2.2)) := rfl
  have hLen := Lib.hid (linesL_len text)
  have oc : w2.cell? ⟨w.heap.size + 1 + 1, 0, none⟩ = some (.int .i64 0) := (cell_of_heap (j := 0) ho2.out).trans rfl
  have of_ := frozen_of_heap ho2.out 0
  clear hb1 hz1 bm bn bo hb ho
  obtain ⟨⟨ls, ln, er⟩, hL⟩ : ∃ x, Ln.linesL text = x := ⟨_, rfl⟩
  rw [hL] at hO hPL hLen ⊢
  dsimp only at hO hPL hLen ⊢
  clear hL
  have w3d : ∃ w3, w2.setCell ⟨w.heap.size + 1 + 1, 0, none⟩ (.int .i64 er) = w3 := ⟨_, rfl⟩
  obtain ⟨w3, hw3'⟩ := w3d
  have hw3 := Lib.hid hw3'
  clear hw3'
  go_upto_region 2 with (fail)
  rw [hw3.out]
  have hm3 : Hid (w3.heap[w.heap.size]? = some (.cells #[.slice none 0 0, .slice none 0 0] 32 (0, 0))) := by rw [← hw3.out]; exact (Below.heap_setCell _ _ _ _ (by show _ ≠ w.heap.size + 1 + 1; omega)).trans hm2.out
  have hn3 : Hid (w3.heap[w.heap.size + 1]? = some (.cells #[.int .i64 0] 3 (0, 0))) := by rw [← hw3.out]; exact (Below.heap_setCell _ _ _ _ (by show _ ≠ w.heap.size + 1 + 1; omega)).trans hn2.out
  have ho3 : Hid (w3.heap[w.heap.size + 1 + 1]? = some (.cells #[.int .i64 er] 27 (0, 0))) := by rw [← hw3.out]; exact blk_put ho2.out 0 _ rfl
  have hB3 : Hid (Below w.heap.size w w3) := by rw [← hw3.out]; exact hB2.out.setCell (by show _ ≤ w.heap.size + 1 + 1; omega) _
  have hO3 : Hid (w3.ownsRow (w.heap.size + 1 + 1 + 1) 72 3 (.slice A ls.length c) ls.length (ls.flatMap Ln.lcells)) := by
    rw [← hw3.out]
    exact own_move hO.out fun b hb => Below.heap_setCell _ _ _ b (fun e => by have := own_base hO.out b hb; have : b = w.heap.size + 1 + 1 := e; omega)
  have hz3 : w.heap.size + 1 + 1 + 1 ≤ w3.heap.size := by rw [← hw3.out]; simpa using hz2
  by_cases her : er = 0
  · subst her
    have hP := Lib.hid (hPL.out.trans (if_pos rfl))
    have oc3 : w3.cell? ⟨w.heap.size + 1 + 1, 0, none⟩ = some (.int .i64 0) := (cell_of_heap (j := 0) ho3.out).trans rfl
    clear hPL oc of_
    go_wp2_with fail
    clear hw3 hm2 hn2 ho2 hB2 hO hz2
    refine (New_any none w3).mono ?_
    rintro e w4 ⟨rfl, rfl⟩
    go_wp2_with fail
    have hI4 : Hid (Inv w3.heap.size ((((w3.alloc (.map #[] 0)).alloc (.cells #[.pointer none, .map (some w3.heap.size)] 91)).alloc (.map #[] 0)).alloc (.cells #[at0 (w3.heap.size + 1), .map (some (w3.heap.size + 1 + 1)), .slice none 0 0, .slice none 0 0, .int .i64 ((0 : Nat) : Int), .nilFunc, .pointer none] 70)) (mem0 w3.heap.size) St.init) := Inv.init w3
    have hB4 : Below w3.heap.size w3 ((((w3.alloc (.map #[] 0)).alloc (.cells #[.pointer none, .map (some w3.heap.size)] 91)).alloc (.map #[] 0)).alloc (.cells #[at0 (w3.heap.size + 1), .map (some (w3.heap.size + 1 + 1)), .slice none 0 0, .slice none 0 0, .int .i64 ((0 : Nat) : Int), .nilFunc, .pointer none] 70)) := by (repeat (first | exact Below.refl _ _ | refine Below.drew ?_ | refine Below.setCell ?_ (by simp <;> omega) _ | refine Below.alloc ?_ (by simp <;> omega) _))
    obtain ⟨w4, hw4⟩ : ∃ w4, ((((w3.alloc (.map #[] 0)).alloc (.cells #[.pointer none, .map (some w3.heap.size)] 91)).alloc (.map #[] 0)).alloc (.cells #[at0 (w3.heap.size + 1), .map (some (w3.heap.size + 1 + 1)), .slice none 0 0, .slice none 0 0, .int .i64 ((0 : Nat) : Int), .nilFunc, .pointer none] 70)) = w4 := ⟨_, rfl⟩
    rw [hw4] at hI4 hB4
    change Code.wp _ _ _ _ ((((w3.alloc (.map #[] 0)).alloc (.cells #[.pointer none, .map (some w3.heap.size)] 91)).alloc (.map #[] 0)).alloc (.cells #[at0 (w3.heap.size + 1), .map (some (w3.heap.size + 1 + 1)), .slice none 0 0, .slice none 0 0, .int .i64 ((0 : Nat) : Int), .nilFunc, .pointer none] 70))
    rw [hw4]
    clear hw4
    have hm4 := Lib.hid ((hB4.block _ (lt_blk hm3.out)).trans hm3.out)
    have hn4 := Lib.hid ((hB4.block _ (lt_blk hn3.out)).trans hn3.out)
    have ho4 := Lib.hid ((hB4.block _ (lt_blk ho3.out)).trans ho3.out)
    have hBw4 := Lib.hid (hB3.out.trans (hB4.mono hB3.out.size))
    have hO4 := Lib.hid (own_move hO3.out fun b hb => hB4.block b (own_lt hO3.out b hb))
    have hRow := Lib.hid (rows3 hO4.out)
    obtain ⟨R, hR⟩ : ∃ R, linesE St.init ls = R := ⟨_, rfl⟩
    have hRH := Lib.hid hR
    have hE0 : Hid (linesE St.init (ls.drop 0) = R) := by rw [List.drop_zero]; exact hR
    obtain ⟨n, hN⟩ : ∃ n, ls.length = n := ⟨_, rfl⟩
    have hNH := Lib.hid hN
    have hB5 := Lib.hid hB4
    rw [hN]
    clear hN hR oc3 hB4
    go_loopg [30] n (fun gk s30 wr => ∃ (i : Nat) (st : St) (g : Mem), s30 = .int .i64 (i : Int) ∧ i + gk = n ∧ g.r = w3.heap.size + 1 + 1 + 1 ∧ g.n ≤ i ∧ st.defs.length ≤ 16384 * i ∧ Hid (Inv w3.heap.size wr g st) ∧ Hid (Below w3.heap.size w4 wr) ∧ Hid (linesE st (ls.drop i) = R))
    case atStart => exact ⟨0, St.init, mem0 w3.heap.size, rfl, Nat.zero_add _, rfl, Nat.le_refl _, Nat.zero_le _, hI4, Below.refl _ _, hE0⟩
    case round =>
      obtain ⟨i, st, g, rfl, hik, hgr, hgn, hdl, hI, hB, hE⟩ := hrel
      cases gk with
      | zero =>
        obtain rfl : i = n := by omega
        have hlt : decide ((i : Int) < (i : Int)) = false := by simp
        have hRst : Hid (R = .ok st) := by
          show R = _
          have := hE.out
          rw [List.drop_of_length_le (by rw [hNH.out]; omega)] at this
          exact this.symm
        clear hE
        go_wp2_with fail
        have hT := close_far w3.heap.size g st wr hI.out
        rw [hgr] at hT
        rcases hc : closeE st with ⟨l1, c1⟩ | st2
        · rw [hc] at hT
          have hPR : parseL text = ([], [], l1, c1) := by
            rw [hP.out, parseE, hRH.out, hRst.out]; simp only [hc]
          refine hT.mono ?_
          rintro e w5 ⟨rfl, hb⟩
          have hb5 := hB.out.trans hb
          exact leave_bad ⟨rfl, rfl, rfl⟩ hPR ((hb5.block _ (by omega)).trans hm4.out) ((hb5.block _ (by omega)).trans hn4.out) ((hb5.block _ (by omega)).trans ho4.out) (hBw4.out.trans (hb5.mono (by omega)))
        · rw [hc] at hT
          refine hT.mono ?_
          rintro e w5 ⟨rfl, ⟨g2, q1, q2, q3, q4, q5⟩, hb, hk, hs5⟩
          have hI5 := Lib.hid q1
          have hb5 := Lib.hid (hB.out.trans hb)
          have hr2 : g2.r = w3.heap.size + 1 + 1 + 1 := q2.trans hgr
          have hPS : Hid (parseL text = match endsAll st2.file st2.rules st2.edges [] with
              | .error e => ([], [], e.1, e.2)
              | .ok es => (es, st2.defs, 0, 0)) := by
            show _ = _
            rw [hP.out, parseE, hRH.out, hRst.out]
            simp only [hc]
            rcases endsAll st2.file st2.rules st2.edges [] with ⟨l1, c1⟩ | es <;> rfl
          obtain ⟨Ae, ce, hve⟩ := own_row hI5.out.oe
          have cE : w5.cell? ⟨w3.heap.size + 1 + 1 + 1, 2, none⟩ = some (.slice Ae st2.edges.length ce) := by rw [← hr2]; exact (hI5.out.cell 2).trans (congrArg some hve)
          have hgn2 : g2.n ≤ i := by omega
          clear q1 q2 q3 hb hk hs5 hT hI hB hc hRst
          obtain ⟨ne, hNE⟩ : ∃ ne, st2.edges.length = ne := ⟨_, rfl⟩
          have hNEH := Lib.hid hNE
          have hne : ne ≤ 200 := hNE ▸ hI5.out.ne
          obtain ⟨RE, hRE⟩ : ∃ RE, endsAll st2.file st2.rules st2.edges [] = RE := ⟨_, rfl⟩
          have hREH := Lib.hid hRE
          have hRE0 : Hid (endsAll st2.file st2.rules (st2.edges.drop 0) [] = RE) := by rw [List.drop_zero]; exact hRE
          have hRest := Lib.hid hI5.out.rest
          have hVE := Lib.hid hve
          have hm5 := Lib.hid ((hb5.out.block _ (by omega)).trans hm4.out)
          have hn5 := Lib.hid ((hb5.out.block _ (by omega)).trans hn4.out)
          have ho5 := Lib.hid ((hb5.out.block _ (by omega)).trans ho4.out)
          have hBw5 := Lib.hid (hBw4.out.trans (hb5.out.mono (by omega)))
          clear hRE hve
          rw [hNE] at cE
          clear hNE
          go_wp2_with fail
          clear cE
          go_loopg [45] ne (fun gk s45 wr => ∃ (j : Nat) (acc : List EdgeO) (vE : Value), s45 = .int .i64 (j : Int) ∧ j + gk = ne ∧ Hid (acc.length = j) ∧ Hid (Rest w3.heap.size wr g2 st2 j) ∧ Hid (Below w.heap.size w wr) ∧ Hid (wr.heap[w.heap.size]? = some (.cells #[vE, .slice none 0 0] 32 (0, 0))) ∧ Hid (wr.heap[w.heap.size + 1]? = some (.cells #[.int .i64 0] 3 (0, 0))) ∧ Hid (wr.heap[w.heap.size + 1 + 1]? = some (.cells #[.int .i64 0] 27 (0, 0))) ∧
            Hid (wr.ownsRow w3.heap.size 47 6 vE acc.length (ecells g2.e0 g2.e1 g2.e2 g2.e3 0 acc)) ∧ Hid (endsAll st2.file st2.rules (st2.edges.drop j) acc = RE) ∧ Hid (∀ (q : Nat) (h : q < acc.length), ∃ e, st2.edges[q]? = some e ∧ acc[q].outs = e.outs ∧ acc[q].ins = e.ins ∧ acc[q].imp = e.imp ∧ acc[q].ord = e.ord))
          case atStart => exact ⟨0, [], .slice none 0 0, rfl, Nat.zero_add _, rfl, hRest, hBw5, hm5, hn5, ho5, World.ownsRow_nil _ _ _ _, hRE0, fun q h => absurd h (by simp)⟩
          case round =>
            obtain ⟨j, acc, vE, rfl, hjk, hal, hRs, hBj, hmj, hnj, hoj, hrow, hEA, hEq⟩ := hrel
            cases gk with
            | zero =>
              obtain rfl : j = ne := by omega
              have hlt : decide ((j : Int) < (j : Int)) = false := by simp
              have hRE1 : Hid (RE = .ok acc) := by
                show RE = _
                have := hEA.out
                rw [List.drop_of_length_le (by rw [hNEH.out]; omega)] at this
                exact this.symm
              have hPZ : Hid (parseL text = (acc, st2.defs, 0, 0)) := by show _ = _; rw [hPS.out, hREH.out, hRE1.out]
              obtain ⟨ln2, hrr⟩ := hRs.out.hr
              obtain ⟨Ad, cd, hvd⟩ := own_row hRs.out.od
              obtain ⟨Av, cv, rfl⟩ : ∃ A c, vE = .slice A acc.length c := by
                rcases hrow.out.2 with ⟨e, e2⟩ | ⟨b, cap, _, e, _⟩
                · exact ⟨none, 0, by rw [e, e2]⟩
                · exact ⟨_, _, e⟩
              have c3 : wr.cell? ⟨w3.heap.size + 1 + 1 + 1, 3, none⟩ = some (.slice Ad st2.defs.length cd) := by rw [← hr2, ← hvd]; exact (cell_of_heap (j := 3) hrr).trans rfl
              have m0 := (cell_of_heap (j := 0) hmj.out).trans rfl
              have m1 := (cell_of_heap (j := 1) hmj.out).trans rfl
              have n0 := (cell_of_heap (j := 0) hnj.out).trans rfl
              have o0 := (cell_of_heap (j := 0) hoj.out).trans rfl
              have mf0 := frozen_of_heap hmj.out 0
              have mf1 := frozen_of_heap hmj.out 1
              have nf0 := frozen_of_heap hnj.out 0
              have of0 := frozen_of_heap hoj.out 0
              have hVD := Lib.hid hvd
              clear hvd hrr hEA hRE0
              go_wp2_with fail
              rw [hPZ.out]
              have y1 := blk_put hmj.out 1 (.slice Ad st2.defs.length cd) rfl
              have y2 := blk_put y1 0 (.slice Av acc.length cv) rfl
              have y3 := blk_put y2 1 (.slice Ad st2.defs.length cd) rfl
              have t1 := Stay.setCell hmj.out (by simp [Plain]) 1 (.slice Ad st2.defs.length cd)
              have t2 := t1.trans (Stay.setCell y1 (by simp [Plain]) 0 (.slice Av acc.length cv))
              have t3 := t2.trans (Stay.setCell y2 (by simp [Plain]) 1 (.slice Ad st2.defs.length cd))
              have kk : ∀ b, b ≠ w.heap.size → (((wr.setCell ⟨w.heap.size, 1, none⟩ (.slice Ad st2.defs.length cd)).setCell ⟨w.heap.size, 0, none⟩ (.slice Av acc.length cv)).setCell ⟨w.heap.size, 1, none⟩ (.slice Ad st2.defs.length cd)).heap[b]? = wr.heap[b]? := fun b hb => by rw [Below.heap_setCell _ _ _ b hb, Below.heap_setCell _ _ _ b hb, Below.heap_setCell _ _ _ b hb]
              have zn := (kk (w.heap.size + 1) (by omega)).trans hnj.out
              have zo := (kk (w.heap.size + 1 + 1) (by omega)).trans hoj.out
              have bw : Below w.heap.size w (((wr.setCell ⟨w.heap.size, 1, none⟩ (.slice Ad st2.defs.length cd)).setCell ⟨w.heap.size, 0, none⟩ (.slice Av acc.length cv)).setCell ⟨w.heap.size, 1, none⟩ (.slice Ad st2.defs.length cd)) := ((hBj.out.setCell (Nat.le_refl _) _).setCell (Nat.le_refl _) _).setCell (Nat.le_refl _) _
              clear m0 m1 n0 o0 mf0 mf1 nf0 of0 c3 y1 y2 t1 t2
              generalize ((wr.setCell ⟨w.heap.size, 1, none⟩ (.slice Ad st2.defs.length cd)).setCell ⟨w.heap.size, 0, none⟩ (.slice Av acc.length cv)).setCell ⟨w.heap.size, 1, none⟩ (.slice Ad st2.defs.length cd) = X3 at *
              have zn4 := blk_put zn 0 (.int .i64 0) rfl
              have t4 := t3.trans (Stay.setCell zn (by simp [Plain]) 0 (.int .i64 0))
              have ym4 := (Below.heap_setCell X3 ⟨w.heap.size + 1, 0, none⟩ (.int .i64 0) w.heap.size (by show _ ≠ w.heap.size + 1; omega)).trans y3
              have zo4 := (Below.heap_setCell X3 ⟨w.heap.size + 1, 0, none⟩ (.int .i64 0) (w.heap.size + 1 + 1) (by show _ ≠ w.heap.size + 1; omega)).trans zo
              have kk4 : ∀ b, w.heap.size + 1 + 1 < b → ((X3.setCell ⟨w.heap.size + 1, 0, none⟩ (.int .i64 0)).setCell ⟨w.heap.size + 1 + 1, 0, none⟩ (.int .i64 0)).heap[b]? = wr.heap[b]? := fun b hb => by
                rw [Below.heap_setCell _ _ _ b (show b ≠ w.heap.size + 1 + 1 by omega), Below.heap_setCell _ _ _ b (show b ≠ w.heap.size + 1 by omega)]
                exact kk b (by omega)
              have t5 := t4.trans (Stay.setCell zo4 (by simp [Plain]) 0 (.int .i64 0))
              refine leave_good (v0 := (.slice Av acc.length cv)) (v1 := (.slice Ad st2.defs.length cd)) ⟨rfl, rfl, rfl⟩ ((Below.heap_setCell _ _ _ _ (by show _ ≠ w.heap.size + 1 + 1; omega)).trans ym4) ((Below.heap_setCell _ _ _ _ (by show _ ≠ w.heap.size + 1 + 1; omega)).trans zn4) (blk_put zo4 0 _ rfl) ?_ ?_ ((bw.setCell (by show _ ≤ w.heap.size + 1; omega) _).setCell (by show _ ≤ w.heap.size + 1 + 1; omega) _)
              · refine ⟨g2.e0, g2.e1, g2.e2, g2.e3, own_lower (own_move hrow.out fun b hb => kk4 b (by have := own_base hrow.out b hb; omega)) (by omega), fun q hq => ?_⟩
                obtain ⟨e, h1, h2, h3, h4, h5⟩ := hEq.out q hq
                obtain ⟨hql, h6⟩ := List.getElem?_eq_some_iff.1 h1
                obtain ⟨a, b, c, d⟩ := hRs.out.rows q hql
                rw [h6] at a b c d
                dsimp only
                rw [h2, h3, h4, h5]
                exact ⟨own_lower (Stay.sl a t5).own (by omega), own_lower (Stay.sl b t5).own (by omega), own_lower (Stay.sl c t5).own (by omega), own_lower (Stay.sl d t5).own (by omega)⟩
              · have := Stay.row hRs.out.od t5 (by decide)
                rw [hVD.out] at this
                exact own_lower this (by omega)
            | succ gk =>
              have hjl : j < st2.edges.length := by rw [hNEH.out]; omega
              have hlt : decide ((j : Int) < (ne : Int)) = true := by rw [decide_eq_true_iff]; omega
              have i1 : (0 : Int) ≤ (j : Int) := by omega
              have i2 : (j : Int) < (ne : Int) := by omega
              obtain ⟨q, hA, eq1⟩ : ∃ q, Ae = some ⟨q, 0, none⟩ ∧ wr.cell? ⟨q, j, none⟩ = some (at0 (g2.eb j)) := by
                rcases hRs.out.oe.2 with ⟨_, e2⟩ | ⟨q, cap, cur, e, _, hh, _, _, _, ht⟩
                · omega
                rw [hVE.out] at e
                injection e with e _ _
                refine ⟨q, e, ?_⟩
                rw [cell_of_heap hh]
                have h1 : cur.toList[j]? = ((List.range st2.edges.length).map fun j => at0 (g2.eb j))[j]? := by
                  rw [← ht, List.getElem?_take_of_lt (by omega)]
                simpa [hjl] using h1
              subst hA
              go_wp2_with fail
              refine loud (n := w.heap.size) (fun _ _ _ h => h) ?_
              refine RegP.region (fun w' => w'.cell? ⟨w.heap.size, 0, none⟩ = some vE) 6 [(0, 0), (1, 1), (0, 2), (0, 3), (2, 4), (2, 5), (3, 6), (0, 7), (3, 8)] (by kernel_rfl) (by kernel_rfl) (by rfl) (by kernel_rfl) (by exact (cell_of_heap (j := 0) hmj.out).trans rfl) ?_
              refine RegP.pure1 (by (simp only [gA,gB,gC]); rfl) (postP_put (d := 49) (by decide) (by decide) (by decide)) (by rfl) (by intro w'; go_simp; try with_reducible rfl) ?_
              try simp only [Act.put, pA,pB,pC]
              refine RegP.held1 (by (simp only [gA,gB,gC]); rfl) (postP_put (d := 50) (by decide) (by decide) (by decide)) (by rfl) (by intro w' hS_; (try dsimp only at hS_); go_split_ands; go_simp; try with_reducible rfl) ?_
              try simp only [Act.put, pA,pB,pC]
              refine RegP.pure1 (by (simp only [gA,gB,gC]); rfl) (postP_put (d := 51) (by decide) (by decide) (by decide)) (by rfl) (by intro w'; go_simp; try with_reducible rfl) ?_
              try simp only [Act.put, pA,pB,pC]
              refine RegP.pure1 (by (simp only [gA,gB,gC]); rfl) (postP_put (d := 52) (by decide) (by decide) (by decide)) (by rfl) (by intro w'; go_simp; try with_reducible rfl) ?_
              try simp only [Act.put, pA,pB,pC]
              refine RegP.ev1 (by (simp only [gA,gB,gC]); rfl) (fun K hK => ?_)
              have hil := hLen.out.2
              have hnl := hNH.out
              have hT := ends_any w3.heap.size g2 st2 j wr.drew (hRs.out.stay (Stay.below (Below.refl _ _).drew)) hjl (by omega)
              rw [hr2] at hT
              rcases hen : endsE st2.file st2.rules st2.edges[j] with ⟨l1, c1⟩ | eo
              · rw [hen] at hT
                have hPR : parseL text = ([], [], l1, c1) := by
                  rw [hPS.out, hREH.out, ← hEA.out, List.drop_eq_getElem_cons hjl]; simp only [endsAll, hen]
                go_simp
                refine hT.mono ?_
                rintro e w7 ⟨rfl, hb⟩
                have hb7 : Below w3.heap.size wr w7 := ((Below.refl _ _).drew).trans hb
                refine ⟨⟨rfl, rfl, rfl⟩, rfl, fun tmps hf => ?_⟩
                exact leave_bad (l := l1) (c := c1) hf rfl ((hb7.block _ (by omega)).trans hmj.out) ((hb7.block _ (by omega)).trans hnj.out) ((hb7.block _ (by omega)).trans hoj.out) (hBj.out.trans (hb7.mono (by omega)))
              rw [hen] at hT
              go_simp
              refine hT.mono ?_
              rintro e w7 ⟨rfl, hR7, hb, hk7, hx1, hx2, hx3, hx4⟩
              have hb7 := Lib.hid (((Below.refl w3.heap.size wr).drew).trans hb)
              have hm7 := Lib.hid ((hb7.out.block _ (by omega)).trans hmj.out)
              have hR7H := Lib.hid hR7
              have hrow7 := Lib.hid (edges_keep hrow.out hRs.out hjl hk7)
              have hEqH := Lib.hid (eq_snoc hal.out hjl hEq.out hx1 hx2 hx3 hx4)
              have hEA7 : Hid (endsAll st2.file st2.rules (st2.edges.drop (j + 1)) (acc ++ [eo]) = RE) := by
                show _ = RE
                rw [← hEA.out, List.drop_eq_getElem_cons hjl]; simp only [endsAll, hen]
              clear hR7 hb hk7 hx1 hx2 hx3 hx4 hT hen
              refine hK.out _ _ ?_ (fun hHeld => ?_)
              · (try dsimp only); exact (cell_of_heap (j := 0) hm7.out).trans rfl
              clear hK K
              try simp only [Act.put, pA,pB,pC]
              refine RegP.ev1 (by (simp only [gA,gB,gC]); rfl) (fun K hK => ?_)
              go_simp
              have hm8 := Lib.hid ((heapAt_lt (o := .cells #[g2.e0 j, g2.e1 j, g2.e2 j, g2.e3 j, .string (B eo.command), .string (B eo.depfile)] 47) (lt_blk hm7.out)).trans hm7.out)
              refine hK.out _ _ ?_ (fun hHeld => ?_)
              · (try dsimp only); exact (cell_of_heap (j := 0) hm8.out).trans rfl
              clear hK K
              try simp only [Act.put, pA,pB,pC]
              refine RegP.last1 (by (simp only [gA,gB,gC]); rfl) (fun K hK => ?_)
              refine step_append_cells (w0 := wr) (W := w7) w3.heap.size rfl _ _ 30 47 (.agg #[.slice none 0 0, .slice none 0 0, .slice none 0 0, .slice none 0 0, .string ⟨#[]⟩, .string ⟨#[]⟩]) 6 128 rfl Tryz.underlying30 infoEdgeV rfl (by decide) (by decide) vE acc.length _ [g2.e0 j, g2.e1 j, g2.e2 j, g2.e3 j, .string (B eo.command), .string (B eo.depfile)] rfl rfl rfl ?_ hrow7.out hb7.out hR7H.out.base (by rw [hal.out]; omega) ?_
              · obtain ⟨a, b, c, d⟩ := hRs.out.rows j hjl
                intro u hu
                simp only [List.mem_cons, List.not_mem_nil, or_false] at hu
                rcases hu with rfl | rfl | rfl | rfl | rfl | rfl
                · exact own_one a.own
                · exact own_one b.own
                · exact own_one c.own
                · exact own_one d.own
                · rfl
                · rfl
              intro v9 w9 ho hb hg ha
              obtain ⟨A9, cc9, rfl⟩ : ∃ A c, v9 = .slice A (acc.length + 1) c := by
                rcases ho.2 with ⟨e, e2⟩ | ⟨b, cap, _, e, _⟩
                · exact ⟨none, 0, by rw [e, e2]⟩
                · exact ⟨_, _, e⟩
              have hS9 : Stay w7 w9 := stay_grown hrow7.out hg
              have hR9 := Lib.hid (hR7H.out.stay hS9)
              have hB9 := Lib.hid (hBj.out.trans (hb.mono (by omega)))
              have hm9 := Lib.hid ((hb.block _ (by omega)).trans hmj.out)
              have hn9 := Lib.hid ((hb.block _ (by omega)).trans hnj.out)
              have ho9 := Lib.hid ((hb.block _ (by omega)).trans hoj.out)
              have hrow9 := Lib.hid ho
              have c9 : w9.cell? ⟨w.heap.size, 0, none⟩ = some vE := (cell_of_heap (j := 0) hm9.out).trans rfl
              have f9 := frozen_of_heap hm9.out 0
              clear ho hb hg ha hS9
              refine hK.out _ _ ?_
              clear hK K
              try simp only [Act.put, pA,pB,pC]
              refine RegP.pure1 (by (simp only [gA,gB,gC]); rfl) (postP_put (d := 56) (by decide) (by decide) (by decide)) (by rfl) (by intro w'; go_simp; try with_reducible rfl) ?_
              try simp only [Act.put, pA,pB,pC]
              refine RegP.last1 (by (simp only [gA,gB,gC]); rfl) (fun K hK => ?_)
              go_simp
              have hS10 := Stay.setCell hm9.out (by simp [Plain]) 0 (Value.slice A9 (acc.length + 1) cc9)
              have hR10 := Lib.hid (hR9.out.stay hS10)
              have hB10 : Hid (Below w.heap.size w (w9.setCell ⟨w.heap.size, 0, none⟩ (Value.slice A9 (acc.length + 1) cc9))) := hB9.out.setCell (Nat.le_refl _) (Value.slice A9 (acc.length + 1) cc9)
              have hm10 : Hid ((w9.setCell ⟨w.heap.size, 0, none⟩ (Value.slice A9 (acc.length + 1) cc9)).heap[w.heap.size]? = some (.cells #[(Value.slice A9 (acc.length + 1) cc9), .slice none 0 0] 32 (0, 0))) := blk_put hm9.out 0 _ rfl
              have hn10 := Lib.hid ((Below.heap_setCell w9 ⟨w.heap.size, 0, none⟩ (Value.slice A9 (acc.length + 1) cc9) (w.heap.size + 1) (by show _ ≠ w.heap.size; omega)).trans hn9.out)
              have ho10 := Lib.hid ((Below.heap_setCell w9 ⟨w.heap.size, 0, none⟩ (Value.slice A9 (acc.length + 1) cc9) (w.heap.size + 1 + 1) (by show _ ≠ w.heap.size; omega)).trans ho9.out)
              have hrow10 : Hid ((w9.setCell ⟨w.heap.size, 0, none⟩ (Value.slice A9 (acc.length + 1) cc9)).ownsRow w3.heap.size 47 6 (Value.slice A9 (acc.length + 1) cc9) (acc ++ [eo]).length (ecells g2.e0 g2.e1 g2.e2 g2.e3 0 (acc ++ [eo]))) := by
                show World.ownsRow _ _ _ _ _ _ _
                rw [ecells_append, Nat.zero_add, hal.out, List.length_append, List.length_singleton]
                rw [← hal.out]
                rw [hal.out]
                have := own_move hrow9.out fun b hb => Below.heap_setCell w9 ⟨w.heap.size, 0, none⟩ (Value.slice A9 (acc.length + 1) cc9) b (fun e => by have := own_base hrow9.out b hb; have : b = w.heap.size := e; omega)
                rw [hal.out] at this
                exact this
              clear c9 f9 hS10
              generalize w9.setCell ⟨w.heap.size, 0, none⟩ (Value.slice A9 (acc.length + 1) cc9) = w10 at *
              refine hK.out _ _ ?_
              clear hK K
              try simp only [Act.put, pA,pB,pC]
              refine RegP.done1 ?_
              try dsimp only
              try dsimp only [PostP]
              go_wp2_with fail
              go_roundg gk
              case measure => omega
              case rel => exact ⟨j + 1, acc ++ [eo], _, by go_num, by omega, Lib.hid (by rw [List.length_append, List.length_singleton, hal.out]), hR10, hB10, hm10, hn10, ho10, hrow10, hEA7, hEqH⟩
      | succ gk =>
        have hin : i < ls.length := by rw [hNH.out]; omega
        have hlt : decide ((i : Int) < (n : Int)) = true := by rw [decide_eq_true_iff]; omega
        have i1 : (0 : Int) ≤ (i : Int) := by omega
        have i2 : (i : Int) < (n : Int) := by omega
        have hOr := own_move hO4.out fun b hb => hB.out.block b (own_lt hO3.out b hb)
        obtain ⟨ad, hA, e0, e1, e2⟩ := rows3 hOr i hin
        subst hA
        have hxt := hLen.out.1 ls[i] (List.getElem_mem hin)
        have hil : ls.length ≤ 16385 := hLen.out.2
        have hNl := hNH.out
        have hR1 : Hid (R = match takesE st ls[i] with | .error e => .error e | .ok st => linesE st (ls.drop (i + 1))) := by
          show R = _
          rw [← hE.out, List.drop_eq_getElem_cons hin]; rfl
        clear hOr hE
        generalize ls[i] = x at *
        have hadl : ad < wr.heap.size := World.block_lt_of_cell? wr _ e0
        go_wp2_with fail
        have hBx : Below wr.heap.size wr (wr.alloc (.cells #[.bool x.inner, .string (B x.text), .int .i64 (x.num : Int)] 72)) := (Below.refl _ _).alloc (Nat.le_refl _) _
        have hIx := Lib.hid (hI.out.below hBx)
        have hBz := Lib.hid (hB.out.trans (hBx.mono hI.out.base))
        clear hBx
        have hT := takes_any w3.heap.size g st x _ hIx.out hxt (by omega) (by omega)
        rw [hgr] at hT
        rcases htk : takesE st x with ⟨l1, c1⟩ | st2
        · rw [htk] at hT
          have hPR : parseL text = ([], [], l1, c1) := by
            rw [hP.out, parseE, hRH.out, hR1.out, htk]
          refine hT.mono ?_
          rintro e w5 ⟨rfl, hb⟩
          have hb5 := hBz.out.trans hb
          exact leave_bad ⟨rfl, rfl, rfl⟩ hPR ((hb5.block _ (by omega)).trans hm4.out) ((hb5.block _ (by omega)).trans hn4.out) ((hb5.block _ (by omega)).trans ho4.out) (hBw4.out.trans (hb5.mono (by omega)))
        · rw [htk] at hT
          have hdf := takesE_defs htk
          have hE2 : Hid (linesE st2 (ls.drop (i + 1)) = R) := by show _ = R; rw [hR1.out, htk]
          refine hT.mono ?_
          rintro e w5 ⟨rfl, ⟨g5, q1, q2, q3⟩, hb⟩
          have hI5 := Lib.hid q1
          have hb5 := Lib.hid (hBz.out.trans hb)
          clear q1 hb hT hR1 htk
          go_wp2_with fail
          go_roundg gk
          case measure => omega
          case rel => exact ⟨i + 1, st2, g5, by go_num, by omega, q2.trans hgr, by omega, by omega, hI5, hb5, hE2⟩
  · have hP := Lib.hid (hPL.out.trans (if_neg her))
    have her1 : (er == 0) = false := beq_eq_false_iff_ne.2 her
    have oc3 : w3.cell? ⟨w.heap.size + 1 + 1, 0, none⟩ = some (.int .i64 er) := (cell_of_heap (j := 0) ho3.out).trans rfl
    clear hPL oc of_
    go_wp2_with fail
    clear hw3 hm2 hn2 ho2 hB2 hO hz2
    have oc : w3.cell? ⟨w.heap.size + 1 + 1, 0, none⟩ = some (.int .i64 er) := (cell_of_heap (j := 0) ho3.out).trans rfl
    refine quiet ?_
    refine RegP.regionH (fun w' => w'.cell? ⟨w.heap.size + 1 + 1, 0, none⟩ = some (.int .i64 er)) [(0, 0), (0, 1), (1, 2), (2, 3), (2, 4), (2, 5)] (by kernel_rfl) (by kernel_rfl) (by rfl) (by kernel_rfl) (by exact oc) ?_
    refine RegP.pure1 (by (simp only [gA,gB,gC]); rfl) (by exact fun _ _ _ h => h) (by rfl) (by intro w'; go_simp; try with_reducible rfl) ?_
    try simp only [Act.put, pA,pB,pC]
    refine RegP.pure1 (by (simp only [gA,gB,gC]); rfl) (by exact fun _ _ _ h => h) (by rfl) (by intro w'; go_simp; try with_reducible rfl) ?_
    try simp only [Act.put, pA,pB,pC]
    refine RegP.held1 (by (simp only [gA,gB,gC]); rfl) (by exact fun _ _ _ h => h) (by rfl) (by intro w' hS_; (try dsimp only at hS_); go_split_ands; go_simp; try with_reducible rfl) ?_
    try simp only [Act.put, pA,pB,pC]
    refine RegP.ev1 (by (simp only [gA,gB,gC]); rfl) (fun K hK => ?_)
    have m0 := (cell_of_heap (j := 0) hm3.out).trans rfl
    have m1 := (cell_of_heap (j := 1) hm3.out).trans rfl
    have mf0 := frozen_of_heap hm3.out 0
    have mf1 := frozen_of_heap hm3.out 1
    go_simp
    have kS : ∀ b, b ≠ w.heap.size → ((w3.setCell ⟨w.heap.size, 0, none⟩ (.slice none 0 0)).setCell ⟨w.heap.size, 1, none⟩ (.slice none 0 0)).heap[b]? = w3.heap[b]? := fun b hb => by rw [Below.heap_setCell _ _ _ b hb, Below.heap_setCell _ _ _ b hb]
    have hm4 : Hid (((w3.setCell ⟨w.heap.size, 0, none⟩ (.slice none 0 0)).setCell ⟨w.heap.size, 1, none⟩ (.slice none 0 0)).heap[w.heap.size]? = some (.cells #[.slice none 0 0, .slice none 0 0] 32 (0, 0))) := blk_put (blk_put hm3.out 0 _ rfl) 1 _ rfl
    have hn4 := Lib.hid ((kS (w.heap.size + 1) (by omega)).trans hn3.out)
    have ho4 := Lib.hid ((kS (w.heap.size + 1 + 1) (by omega)).trans ho3.out)
    have hB4 : Hid (Below w.heap.size w ((w3.setCell ⟨w.heap.size, 0, none⟩ (.slice none 0 0)).setCell ⟨w.heap.size, 1, none⟩ (.slice none 0 0))) := (hB3.out.setCell (Nat.le_refl _) _).setCell (Nat.le_refl _) _
    clear kS m0 m1 mf0 mf1
    generalize (w3.setCell ⟨w.heap.size, 0, none⟩ (.slice none 0 0)).setCell ⟨w.heap.size, 1, none⟩ (.slice none 0 0) = w4 at *
    have n0 : w4.cell? ⟨w.heap.size + 1, 0, none⟩ = some (.int .i64 0) := (cell_of_heap (j := 0) hn4.out).trans rfl
    have nf0 := frozen_of_heap hn4.out 0
    refine hK.out _ _ ?_ (fun hHeld => ?_)
    · (try dsimp only); exact (cell_of_heap (j := 0) ho4.out).trans rfl
    clear hK K
    try simp only [Act.put, pA,pB,pC]
    refine RegP.ev1 (by (simp only [gA,gB,gC]); rfl) (fun K hK => ?_)
    go_simp
    have hm5 := Lib.hid ((Below.heap_setCell w4 ⟨w.heap.size + 1, 0, none⟩ (.int .i64 (ln : Int)) (w.heap.size) (by show _ ≠ w.heap.size + 1; omega)).trans hm4.out)
    have hn5 : Hid ((w4.setCell ⟨w.heap.size + 1, 0, none⟩ (.int .i64 (ln : Int))).heap[w.heap.size + 1]? = some (.cells #[.int .i64 (ln : Int)] 3 (0, 0))) := blk_put hn4.out 0 _ rfl
    have ho5 := Lib.hid ((Below.heap_setCell w4 ⟨w.heap.size + 1, 0, none⟩ (.int .i64 (ln : Int)) (w.heap.size + 1 + 1) (by show _ ≠ w.heap.size + 1; omega)).trans ho4.out)
    have hB5 : Hid (Below w.heap.size w (w4.setCell ⟨w.heap.size + 1, 0, none⟩ (.int .i64 (ln : Int)))) := hB4.out.setCell (by show _ ≤ w.heap.size + 1; omega) _
    clear n0 nf0
    generalize w4.setCell ⟨w.heap.size + 1, 0, none⟩ (.int .i64 (ln : Int)) = w5 at *
    have o0 : w5.cell? ⟨w.heap.size + 1 + 1, 0, none⟩ = some (.int .i64 er) := (cell_of_heap (j := 0) ho5.out).trans rfl
    have of0 := frozen_of_heap ho5.out 0
    refine hK.out _ _ ?_ (fun hHeld => ?_)
    · (try dsimp only); exact (cell_of_heap (j := 0) ho5.out).trans rfl
    clear hK K
    try simp only [Act.put, pA,pB,pC]
    refine RegP.ev1 (by (simp only [gA,gB,gC]); rfl) (fun K hK => ?_)
    go_simp
    have hm6 := Lib.hid ((Below.heap_setCell w5 ⟨w.heap.size + 1 + 1, 0, none⟩ (.int .i64 er) (w.heap.size) (by show _ ≠ w.heap.size + 1 + 1; omega)).trans hm5.out)
    have hn6 := Lib.hid ((Below.heap_setCell w5 ⟨w.heap.size + 1 + 1, 0, none⟩ (.int .i64 er) (w.heap.size + 1) (by show _ ≠ w.heap.size + 1 + 1; omega)).trans hn5.out)
    have ho6 : Hid ((w5.setCell ⟨w.heap.size + 1 + 1, 0, none⟩ (.int .i64 er)).heap[w.heap.size + 1 + 1]? = some (.cells #[.int .i64 er] 27 (0, 0))) := blk_put ho5.out 0 _ rfl
    have hB6 : Hid (Below w.heap.size w (w5.setCell ⟨w.heap.size + 1 + 1, 0, none⟩ (.int .i64 er))) := hB5.out.setCell (by show _ ≤ w.heap.size + 1 + 1; omega) _
    refine hK.out _ _ ?_ (fun hHeld => ?_)
    · (try dsimp only); exact (cell_of_heap (j := 0) ho6.out).trans rfl
    clear hK K
    try simp only [Act.put, pA,pB,pC]
    refine RegP.done1 ?_
    clear hHeld
    try dsimp only
    try dsimp only [noPanic]
    go_wp2_with fail
    exact leave_none ⟨rfl, rfl, rfl⟩ hP.out hm6.out hn6.out ho6.out hB6.out.drew
end Go.Proofs.YtbjekebkgidhaaaGreatDoor.Mf
end
section
set_option linter.unusedSimpArgs false
set_option linter.unusedVariables false
namespace Go.Proofs.YtbjekebkgidhaaaGreatDoor.Mf
open Go.RowKit Go.Lib Go.Shelf Go.Maps Go.Proofs.YtbjekebkgidhaaaGreatDoorW.PrintWords Go.Proofs.YtbjekebkgidhaaaGreatDoor.U Go.Proofs.YtbjekebkgidhaaaGreatDoor.Sc Go.Proofs.YtbjekebkgidhaaaGreatDoor.P Go.Proofs.YtbjekebkgidhaaaGreatDoor.MapV
abbrev SE := S47
abbrev KE := k47
abbrev SR := S42
abbrev KR := k42
def cvE (x : SE) : SR := ⟨x.f0, x.f1, x.f2, x.f3, x.f4, x.f5⟩
theorem infoEdgeR : (Tryz.prog.info? 42).map (fun i => (i.zero, i.size, i.bytes)) = some (some (.agg #[.slice none 0 0, .slice none 0 0, .slice none 0 0, .slice none 0 0, .string ⟨#[]⟩, .string ⟨#[]⟩]), 6, 128) := by kernel_rfl
def ToldI (es : List SE) (w0 : World) (i : Nat) (v : Value) (w : World) : Prop := ∃ inner, w.ownsRow w0.heap.size 42 6 v i inner ∧ Reps (KR.K w0) 6 ((es.take i).map cvE) inner
theorem told_keep {wr w9 : World} {X : Obj} {base n k : Nat} {v : Value} {xs : List Value} {ca : Array Value} {t : TypeId} (hown : wr.ownsRow base 42 6 v n xs) (hg : (wr.alloc X).grownBy w9 v.ownBlock) (hk : wr.heap[k]? = some (.cells ca t (0, 0))) (ht : t ≠ 42) : w9.heap[k]? = some (.cells ca t (0, 0)) := by
  have hlt := lt_blk hk
  refine (hg.block k (by rw [World.size_alloc]; omega) (fun e => ?_)).trans ((heapAt_lt hlt).trans hk)
  obtain ⟨cs, hcs⟩ := own_typed hown k e.symm
  rw [hk] at hcs
  injection hcs with hcs
  injection hcs with _ h2 _
  exact ht h2
theorem below_cell {w w' : World} {a : Addr} {v : Value} (hB : Below w.heap.size w w') (h : w.cell? a = some v) : w'.cell? a = some v :=
  (World.cell?_of_block (hB.block _ (World.block_lt_of_cell? w _ h))).trans h
set_option maxRecDepth 100000 in
set_option maxHeartbeats 8000000 in
theorem told_C (es : List SE) (ds : List ByteArray) (A0 A1 : Option Addr) (c0 c1 : Nat) (w : World) (h0 : es.length ≤ c0) (g0 : Kd.C KE w A0 es.length es) (hn : es.length ≤ 1000000) :
    Calls Tryz.prog 11 #[.agg #[.slice A0 es.length c0, .slice A1 ds.length c1]] w fun e w' => ∃ B0 d0, e = .returned (.agg #[.slice B0 (es.map cvE).length d0, .slice A1 ds.length c1]) ∧ (es.map cvE).length ≤ d0 ∧ Kd.C KR w' B0 (es.map cvE).length (es.map cvE) ∧ Below w.heap.size w w' := by
  have hu25 := Tryz.underlying32
  have hu37 := Tryz.underlying25
  have hu31 := Tryz.underlying47
  have hu67 := Tryz.underlying42
  have hG := Lib.hid g0
  clear g0
  go_enter Tryz.func11, Tryz.ntmps11
  go_wp2_with fail
  go_loopg [4] es.length (fun gk s4 wr => ∃ (i : Nat) (A : Option Addr) (c : Nat), s4 = .int .i64 (i : Int) ∧ i + gk = es.length ∧ Hid (Below w.heap.size w wr) ∧ Hid (wr.heap[w.heap.size]? = some (.cells #[.slice A0 es.length c0, .slice A1 ds.length c1] 32 (0, 0))) ∧ Hid (wr.heap[w.heap.size + 1]? = some (.cells #[.slice none 0 0, .slice none 0 0] 25 (0, 0))) ∧ Hid (wr.heap[w.heap.size + 1 + 1]? = some (.cells #[.slice A i c, .slice A1 ds.length c1] 25 (0, 0))) ∧ Hid (ToldI es w i (.slice A i c) wr))
  case atStart =>
    refine ⟨0, none, 0, rfl, Nat.zero_add _, Lib.hid (by (repeat (first | exact Below.refl _ _ | refine Below.drew ?_ | refine Below.setCell ?_ (by simp <;> omega) _ | refine Below.alloc ?_ (by simp <;> omega) _))), Lib.hid ?_, Lib.hid ?_, Lib.hid ?_, Lib.hid ⟨[], World.ownsRow_nil _ _ _ _, Reps.none _ _⟩⟩
    · refine (heapAt_lt ?_).trans ((heapAt_lt ?_).trans (heapAt_eq rfl))
      all_goals simp only [World.size_alloc]
      all_goals omega
    · refine (heapAt_lt ?_).trans (heapAt_eq ?_)
      all_goals simp only [World.size_alloc]
      all_goals omega
    · refine heapAt_eq ?_
      simp only [World.size_alloc]
  case round =>
    obtain ⟨i, A, c, rfl, hik, hB, hm, hr, ho, hT⟩ := hrel
    have m0 := (cell_of_heap (j := 0) hm.out).trans rfl
    have m1 := (cell_of_heap (j := 1) hm.out).trans rfl
    have r0 := (cell_of_heap (j := 0) hr.out).trans rfl
    have r1 := (cell_of_heap (j := 1) hr.out).trans rfl
    have o0 := (cell_of_heap (j := 0) ho.out).trans rfl
    have o1 := (cell_of_heap (j := 1) ho.out).trans rfl
    have rf0 := frozen_of_heap hr.out 0
    have rf1 := frozen_of_heap hr.out 1
    have z0 := lt_blk hm.out
    have z1 := lt_blk hr.out
    have z2 := lt_blk ho.out
    cases gk with
    | zero =>
      obtain rfl : i = es.length := by omega
      have hlt : decide ((es.length : Int) < (es.length : Int)) = false := by simp
      obtain ⟨inner, hown, hreps⟩ := hT.out
      rw [List.take_length] at hreps
      have hO' := Lib.hid hown
      have hR' := Lib.hid hreps
      clear hown hreps
      go_wp2_with fail
      refine bodyPost_ret (results_cell_row rfl _ _ (w.heap.size + 1) 25 #[.slice A es.length c, .slice A1 ds.length c1] (0, 0) _ rfl (blk_put (blk_put hr.out 0 _ rfl) 1 _ rfl) Tryz.underlying25 rfl (by kernel_rfl)) rfl ?_
      have hBf : Below w.heap.size w ((wr.setCell ⟨w.heap.size + 1, 0, none⟩ (.slice A es.length c)).setCell ⟨w.heap.size + 1, 1, none⟩ (.slice A1 ds.length c1)) := (hB.out.setCell (by show _ ≤ w.heap.size + 1; omega) _).setCell (by show _ ≤ w.heap.size + 1; omega) _
      have hof : ((wr.setCell ⟨w.heap.size + 1, 0, none⟩ (.slice A es.length c)).setCell ⟨w.heap.size + 1, 1, none⟩ (.slice A1 ds.length c1)).ownsRow w.heap.size 42 6 (.slice A es.length c) es.length inner := by
        refine own_move hO'.out fun k hk => ?_
        have hne : k ≠ w.heap.size + 1 := by
          rintro rfl
          obtain ⟨cs, hcs⟩ := own_typed hO'.out _ hk
          rw [hr.out] at hcs
          injection hcs with hcs
          injection hcs with _ h2 _
          exact absurd h2 (by decide)
        rw [Below.heap_setCell _ _ _ k hne, Below.heap_setCell _ _ _ k hne]
      generalize (wr.setCell ⟨w.heap.size + 1, 0, none⟩ (.slice A es.length c)).setCell ⟨w.heap.size + 1, 1, none⟩ (.slice A1 ds.length c1) = wf at *
      obtain ⟨A', c', he, hrd⟩ := own_reads_row hof (hR'.out.imp_ (fun p cs h => KR.K_below hBf h)) (by rw [List.length_map])
      injection he with q1 _ q3
      subst q1 q3
      refine ⟨A, c, by rw [List.length_map], by rw [List.length_map]; exact own_le hof, ?_, hBf⟩
      rw [List.length_map]; exact hrd
    | succ gk =>
      have hi : i < es.length := by omega
      have hlt : decide ((i : Int) < (es.length : Int)) = true := by rw [decide_eq_true_iff]; omega
      have i1 : (0 : Int) ≤ (i : Int) := by omega
      obtain ⟨ad, a0, d0, a1, d1, a2, d2, a3, d3, rfl, k0, k1, k2, k3, k4, k5, l0, g0, l1, g1, l2, g2, l3, g3⟩ := at_T47 hG.out (i : Int) i1 (by omega)
      replace k0 := below_cell hB.out k0
      replace k1 := below_cell hB.out k1
      replace k2 := below_cell hB.out k2
      replace k3 := below_cell hB.out k3
      replace k4 := below_cell hB.out k4
      replace k5 := below_cell hB.out k5
      rw [Int.toNat_natCast] at k0 k1 k2 k3 k4 k5
      have hx0 : rd_T47 es (i : Int) = es[i] := by
        show es.getD (i : Int).toNat _ = _
        rw [Int.toNat_natCast, List.getD_eq_getElem?_getD, List.getElem?_eq_getElem hi]; rfl
      rw [hx0] at k0 k1 k2 k3 k4 k5 l0 g0 l1 g1 l2 g2 l3 g3
      have hG2 := Lib.hid (And.intro g0 (And.intro g1 (And.intro g2 g3)))
      have hL2 := Lib.hid (And.intro l0 (And.intro l1 (And.intro l2 l3)))
      have htk : Hid (es.take (i + 1) = es.take i ++ [es[i]]) := List.take_succ_eq_append_getElem hi
      clear g0 g1 g2 g3 l0 l1 l2 l3 hx0
      generalize es[i] = x at *
      have of0 := frozen_of_heap ho.out 0
      obtain ⟨inner, hown, hreps⟩ := hT.out
      obtain ⟨Xo, hXo⟩ : ∃ o : Obj, o = .cells #[.slice a0 x.f0.length d0, .slice a1 x.f1.length d1, .slice a2 x.f2.length d2, .slice a3 x.f3.length d3, .string x.f4, .string x.f5] 47 := ⟨_, rfl⟩
      have hown2 : (wr.alloc Xo).ownsRow w.heap.size 42 6 (.slice A i c) i inner := own_move hown fun k hk => heapAt_lt (own_lt hown k hk)
      have hB2 : Below w.heap.size w (wr.alloc Xo) := hB.out.alloc hB.out.size _
      subst hXo
      have hBz : w.heap.size ≤ (wr.alloc (.cells #[.slice a0 x.f0.length d0, .slice a1 x.f1.length d1, .slice a2 x.f2.length d2, .slice a3 x.f3.length d3, .string x.f4, .string x.f5] 47)).heap.size := hB2.size
      have hB2' := Lib.hid hB2
      have hown2' := Lib.hid hown2
      have hR := Lib.hid hreps
      have hown' := Lib.hid hown
      clear hB2 hown2 hreps hown hT
      go_wp2_with (at_builtin; go_must (refine print_append_cells (w0 := w) (W := wr.alloc (.cells #[.slice a0 x.f0.length d0, .slice a1 x.f1.length d1, .slice a2 x.f2.length d2, .slice a3 x.f3.length d3, .string x.f4, .string x.f5] 47)) w.heap.size rfl _ _ 22 42 (.agg #[.slice none 0 0, .slice none 0 0, .slice none 0 0, .slice none 0 0, .string ⟨#[]⟩, .string ⟨#[]⟩]) 6 128 rfl Tryz.underlying22 infoEdgeR rfl (by decide) (by decide) (.slice A i c) i _ [.slice a0 x.f0.length d0, .slice a1 x.f1.length d1, .slice a2 x.f2.length d2, .slice a3 x.f3.length d3, .string x.f4, .string x.f5] rfl (by rw [World.size_alloc]; rfl) rfl (by intro u hu; simp only [List.mem_cons, List.not_mem_nil, or_false] at hu; rcases hu with rfl | rfl | rfl | rfl | rfl | rfl <;> rfl) hown2'.out hB2'.out hBz (by omega) ?_))
      intro v9 w9 ho9 hb9 hg9 _
      obtain ⟨A9, c9, rfl⟩ : ∃ A c, v9 = .slice A (i + 1) c := by
        rcases ho9.2 with ⟨e, e2⟩ | ⟨b, cap, _, e, _⟩
        · exact ⟨none, 0, by rw [e, e2]⟩
        · exact ⟨_, _, e⟩
      have hm9 := Lib.hid (told_keep hown'.out hg9 hm.out (by decide))
      have hr9 := Lib.hid (told_keep hown'.out hg9 hr.out (by decide))
      have ho9' := Lib.hid (told_keep hown'.out hg9 ho.out (by decide))
      have hT9 : Hid (ToldI es w (i + 1) (.slice A9 (i + 1) c9) w9) := by
        refine ⟨_, ho9, ?_⟩
        rw [htk.out, List.map_append]
        exact hR.out.snoc (k42_mk w (cvE x) hL2.out.1 hG2.out.1 hL2.out.2.1 hG2.out.2.1 hL2.out.2.2.1 hG2.out.2.2.1 hL2.out.2.2.2 hG2.out.2.2.2) rfl
      have hB9 := Lib.hid hb9
      have o0' := (cell_of_heap (j := 0) ho9'.out).trans rfl
      have of0' := frozen_of_heap ho9'.out 0
      clear ho9 hb9 hg9 k0 k1 k2 k3 k4 k5 m0 m1 r0 r1 o0 o1 rf0 rf1 of0
      go_wp2_with fail
      have hne : ∀ k, k ≠ w.heap.size + 1 + 1 → (w9.setCell ⟨w.heap.size + 1 + 1, 0, none⟩ (.slice A9 (i + 1) c9)).heap[k]? = w9.heap[k]? := fun k hk => Below.heap_setCell _ _ _ k hk
      go_roundg gk
      case measure => omega
      case rel =>
        refine ⟨i + 1, A9, c9, by go_num, by omega, Lib.hid (hB9.out.setCell (by show _ ≤ w.heap.size + 1 + 1; omega) _), Lib.hid ((hne _ (by omega)).trans hm9.out), Lib.hid ((hne _ (by omega)).trans hr9.out), Lib.hid (blk_put ho9'.out 0 _ rfl), Lib.hid ?_⟩
        obtain ⟨inn, h1, h2⟩ := hT9.out
        refine ⟨inn, own_move h1 fun k hk => hne k ?_, h2⟩
        rintro rfl
        obtain ⟨cs, hcs⟩ := own_typed h1 _ hk
        rw [ho9'.out] at hcs
        injection hcs with hcs
        injection hcs with _ h2 _
        exact absurd h2 (by decide)
end Go.Proofs.YtbjekebkgidhaaaGreatDoor.Mf
end
section
set_option linter.unusedSimpArgs false
set_option linter.unusedVariables false
namespace Go.Proofs.YtbjekebkgidhaaaGreatDoor.Mf
open Go.RowKit Go.Lib Go.Shelf Go.Maps Go.Proofs.YtbjekebkgidhaaaGreatDoorW.PrintWords Go.Proofs.YtbjekebkgidhaaaGreatDoor.U Go.Proofs.YtbjekebkgidhaaaGreatDoor.Sc Go.Proofs.YtbjekebkgidhaaaGreatDoor.P Go.Proofs.YtbjekebkgidhaaaGreatDoor.MapV
def toS (x : EdgeO) : SE := ⟨x.outs.map B, x.ins.map B, x.imp.map B, x.ord.map B, B x.command, B x.depfile⟩
theorem encs_map {α : Type} (enc : α → Value) (l : List α) : encs enc l = l.map enc := by
  induction l with
  | nil => rfl
  | cons x l ih => simp [encs] <;> exact ih
theorem row_C {w : World} {b : Nat} {v : Value} {l : List Txt} (h : w.ownsRow b 9 1 v l.length (strs l)) : ∃ A c, v = .slice A (l.map B).length c ∧ (l.map B).length ≤ c ∧ Kd.C Kd.string w A (l.map B).length (l.map B) := by
  have h' : w.ownsRow b 9 1 v (l.map B).length (encs Value.string (l.map B)) := by
    rw [encs_map, List.length_map, List.map_map]; exact h
  exact Kd.R_reads (d := Kd.string) (e := 9) (Kd.R_of_own (ok := fun _ => True) (h1 := fun _ => rfl) h' (fun _ _ => trivial))
theorem ecells_len (f0 f1 f2 f3 : Nat → Value) : ∀ (l : List EdgeO) (k : Nat), (ecells f0 f1 f2 f3 k l).length = l.length * 6
  | [], k => rfl
  | x :: l, k => by
    simp only [ecells, List.length_append, ecells_len f0 f1 f2 f3 l (k + 1), List.length_cons, List.length_nil]; omega
theorem ecells_at (f0 f1 f2 f3 : Nat → Value) : ∀ (l : List EdgeO) (k j : Nat) (h : j < l.length), ((ecells f0 f1 f2 f3 k l).drop (j * 6)).take 6 = [f0 (k + j), f1 (k + j), f2 (k + j), f3 (k + j), .string (B l[j].command), .string (B l[j].depfile)]
  | [], k, j, h => absurd h (by simp)
  | x :: l, k, 0, h => by simp [ecells]
  | x :: l, k, j + 1, h => by
    have := ecells_at f0 f1 f2 f3 l (k + 1) j (by simpa using h)
    rw [show k + 1 + j = k + (j + 1) by omega] at this
    simp only [List.getElem_cons_succ]
    rw [← this, ecells, show (j + 1) * 6 = 6 + j * 6 by omega, ← List.drop_drop]
    rfl
theorem edges_C {w : World} {b : Nat} {v : Value} {l : List EdgeO} (h : EdgesAt w b v l) : ∃ A c, v = .slice A (l.map toS).length c ∧ (l.map toS).length ≤ c ∧ Kd.C KE w A (l.map toS).length (l.map toS) := by
  obtain ⟨f0, f1, f2, f3, ho, hr⟩ := h
  refine OwnRow.reads (R := KE.K w) (e := 47) (base := b) ⟨ecells f0 f1 f2 f3 0 l, by rw [List.length_map]; exact ho, ?_, ?_⟩
  · rw [ecells_len, List.length_map]; rfl
  · intro j p hp
    rw [List.getElem?_map] at hp
    obtain ⟨x, hx, rfl⟩ := Option.map_eq_some_iff.1 hp
    obtain ⟨hj, rfl⟩ := List.getElem?_eq_some_iff.1 hx
    obtain ⟨a, b, c, d⟩ := hr j hj
    obtain ⟨A0, c0, e0, l0, g0⟩ := row_C a
    obtain ⟨A1, c1, e1, l1, g1⟩ := row_C b
    obtain ⟨A2, c2, e2, l2, g2⟩ := row_C c
    obtain ⟨A3, c3, e3, l3, g3⟩ := row_C d
    have := ecells_at f0 f1 f2 f3 l 0 j hj
    rw [Nat.zero_add, e0, e1, e2, e3] at this
    rw [show List.take KE.sz (List.drop (j * KE.sz) (ecells f0 f1 f2 f3 0 l)) = _ from this]
    exact k47_mk w (toS l[j]) l0 g0 l1 g1 l2 g2 l3 g3
def OutC (es : List EdgeO) (ds : List Txt) (n : Nat) (c : Int) (w : World) (e : Ending) (w' : World) : Prop :=
  ∃ A0 c0 A1 c1, e = .returned (.tuple #[.agg #[.slice A0 (es.map toS).length c0, .slice A1 (ds.map B).length c1], .int .i64 (n : Int), .int .i64 c]) ∧ (es.map toS).length ≤ c0 ∧ Kd.C KE w' A0 (es.map toS).length (es.map toS) ∧ (ds.map B).length ≤ c1 ∧ Kd.C Kd.string w' A1 (ds.map B).length (ds.map B) ∧ Below w.heap.size w w'
theorem parse_C (text : Txt) (es : List EdgeO) (ds : List Txt) (n : Nat) (c : Int) (hp : parseL text = (es, ds, n, c)) (a : ByteArray) (ha : a = B text) (w : World) (hm : MaxCell w) :
    Calls Tryz.prog 9 #[.string a] w (OutC es ds n c w) := by
  subst ha
  refine (parse_any text w hm).mono ?_
  rintro e w' h
  rw [hp] at h
  obtain ⟨v0, v1, rfl, he, hd, hb⟩ := h
  obtain ⟨A0, c0, rfl, l0, g0⟩ := edges_C he
  obtain ⟨A1, c1, rfl, l1, g1⟩ := row_C hd
  exact ⟨A0, c0, A1, c1, rfl, l0, g0, l1, g1, hb⟩
end Go.Proofs.YtbjekebkgidhaaaGreatDoor.Mf
end
section
set_option linter.unusedSimpArgs false
set_option linter.unusedVariables false
namespace Go.Proofs.YtbjekebkgidhaaaGreatDoor.Mf
open Go.RowKit Go.Lib Go.Shelf Go.Proofs.YtbjekebkgidhaaaGreatDoor.U Go.Proofs.YtbjekebkgidhaaaGreatDoor.Sc Go.Proofs.YtbjekebkgidhaaaGreatDoor.P
def toO (x : SE) : EdgeO := ⟨x.f0.map toL, x.f1.map toL, x.f2.map toL, x.f3.map toL, toL x.f4, toL x.f5⟩
theorem toS_toO (x : SE) : toS (toO x) = x := by
  unfold toS toO
  simp only [map_B_toL, B_toL]
theorem joinTail_joined (l : List Txt) : ∀ p : Txt, Lib.join (p :: l) [32] = p ++ joined l := by
  induction l with
  | nil => intro p; simp [Lib.join, List.intercalate, List.intersperse, joined]
  | cons q l ih =>
    intro p
    have := ih q
    rw [joined_cons, ← this]
    simp [Lib.join, List.intercalate, List.intersperse]
theorem rowL_T (wd : Txt) (l : List Txt) : rowL wd l = if l = [] then [] else wd ++ joined l := by
  unfold rowL
  cases l with
  | nil => rfl
  | cons p l =>
    rw [if_neg (by simp), if_neg (by simp), joinTail_joined, joined_cons]
    simp
theorem edgeL_T (i : Nat) (x : SE) (h : x.f0 ≠ []) : edgeL i x = textOf (eLines i (toO x)) := by
  have ho : (x.f0.map toL) ≠ [] := by simpa using h
  have e0 : rowL [98, 117, 105, 108, 100] (x.f0.map toL) = kBuild ++ joined (x.f0.map toL) := by rw [rowL_T, if_neg ho]; rfl
  have e1 : rowL [] (x.f1.map toL) = joined (x.f1.map toL) := by
    rw [rowL_T]; split
    · rename_i h; rw [h]; rfl
    · rfl
  have e2 : rowL [32, 124] (x.f2.map toL) = optT [124] (x.f2.map toL) := by
    rw [rowL_T, optT]; split
    · rfl
    · simp
  have e3 : rowL [32, 124, 124] (x.f3.map toL) = optT [124, 124] (x.f3.map toL) := by
    rw [rowL_T, optT]; split
    · rfl
    · simp
  unfold edgeL headL depL
  rw [e0, e1, e2, e3]
  unfold eLines dLines hLine cLine bLine ownN
  simp only [toO]
  by_cases hd : toL x.f5 = []
  · simp [hd, textOf, joined, kRule, kCommand, kBuild, kDepfile]
  · simp [hd, textOf, joined, kRule, kCommand, kBuild, kDepfile]
theorem edgesL_T : ∀ (xs : List SE) (i : Nat), (∀ x ∈ xs, x.f0 ≠ []) → edgesL i xs = textOf (manLines i (xs.map toO))
  | [], i, _ => rfl
  | x :: xs, i, h => by
    rw [edgesL, edgeL_T i x (h x (by simp)), edgesL_T xs (i + 1) (fun y hy => h y (List.mem_cons_of_mem _ hy)), List.map_cons, manLines, textOf_append]
theorem defL_T (ds : List ByteArray) : defL ds = textOf (defLines (ds.map toL)) := by
  unfold defL defLines
  by_cases h : ds = []
  · subst h; rfl
  · have h' : ds.map toL ≠ [] := by simpa using h
    rw [if_neg h, if_neg h', rowL_T, if_neg h']
    simp [textOf, kDefault]
theorem rightL_clean {p : Txt} (h : rightL p = true) : CleanN p := CleanN.of ⟨p, of_decide_eq_true h⟩
theorem rightS_O {x : SE} (h : rightS x = true) : RightO (toO x) := by
  unfold rightS rightE edOf at h
  simp only [Bool.and_eq_true, Bool.or_eq_true, List.all_append, Bool.not_eq_true', List.isEmpty_eq_false_iff] at h
  obtain ⟨⟨⟨h0, ⟨⟨h1, h2⟩, h3⟩, h4⟩, h5⟩, h6⟩ := h
  unfold visL at h5
  simp only [Bool.and_eq_true, Bool.not_eq_true', List.isEmpty_eq_false_iff] at h5
  refine ⟨h0, fun p hp => rightL_clean (List.all_eq_true.1 h1 p hp), fun p hp => rightL_clean (List.all_eq_true.1 h2 p hp), fun p hp => rightL_clean (List.all_eq_true.1 h3 p hp), fun p hp => rightL_clean (List.all_eq_true.1 h4 p hp), h5.1, ?_, ?_⟩
  · rw [okL_iff]
    intro b hb
    have := List.all_eq_true.1 h5.2 b hb
    unfold visB visR at this
    unfold Ln.okR
    simp only [Bool.and_eq_true, decide_eq_true_iff] at this ⊢
    omega
  · rcases h6 with h6 | h6
    · exact .inl (List.isEmpty_iff.1 h6)
    · exact .inr (rightL_clean h6)
theorem print_back {xs : List SE} {ds : List ByteArray} {s : ByteArray} (h : printM xs ds = (s, 0)) : ∃ t : Txt, s = B t ∧ parseL t = (xs.map toO, ds.map toL, 0, 0) := by
  unfold printM at h
  split at h
  · injection h with _ h; exact absurd h (by decide)
  rename_i hr
  split at h
  · injection h with _ h; exact absurd h (by decide)
  rename_i hl
  injection h with h _
  have hr' : rightM xs ds = true := by simpa using hr
  unfold rightM at hr'
  simp only [Bool.and_eq_true, decide_eq_true_iff] at hr'
  obtain ⟨⟨hn, hd⟩, hx⟩ := hr'
  have hxs : ∀ x ∈ xs, RightO (toO x) := fun x hx' => rightS_O (List.all_eq_true.1 hx x hx')
  have he : edgesL 0 xs ++ defL ds = printT (xs.map toO) (ds.map toL) := by
    rw [edgesL_T xs 0 (fun x hx' e => (hxs x hx').outs (by simp [toO, e])), defL_T, ← textOf_append]; rfl
  rw [he] at h hl
  refine ⟨_, h.symm, parse_print _ _ ?_ ?_ (by rw [List.length_map]; exact hn) (by omega)⟩
  · intro x hx'
    obtain ⟨y, hy, rfl⟩ := List.mem_map.1 hx'
    exact hxs y hy
  · intro p hp
    exact rightL_clean (List.all_eq_true.1 hd p hp)
end Go.Proofs.YtbjekebkgidhaaaGreatDoor.Mf
end
