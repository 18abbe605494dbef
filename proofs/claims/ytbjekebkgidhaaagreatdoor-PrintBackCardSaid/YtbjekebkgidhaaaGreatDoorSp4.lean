/- Laid together by wip/tools/shake.py from texts of this claim: MfCut, MfInv, MfClose, RegP, MfTargets, MfRule, MfIn, MfBuildA, RegT, MfBuildB, MfBuild, MfInB, PStringsliteHasPrefix0, PStringsHasPrefix0, PLexSign0, LexSign, LexWords, MfTakesA. -/
import Derived.Test.YtbjekebkgidhaaaGreatDoorSp3
import Derived.Deep.QuietTactic
import Derived.BigQuiet
import Derived.Laws.EntriesVeiled
import Derived.Deep.RegionLaw
import Derived.Deep.RegionHeld3
import Derived.Maps.OwnOps
import Derived.Deep.DeepCutAuto
import Derived.WalkKit
import Derived.WalkSpells
import Derived.Outline
import Derived.Deep.AppendLies
import Derived.RegionTactic
import Derived.OneCell
import Derived.Lib.Hide
section
set_option linter.unusedSimpArgs false
set_option linter.unusedVariables false
namespace Go.Proofs.YtbjekebkgidhaaaGreatDoor.Mf
open Go.RowKit Go.Lib Go.Shelf Go.Proofs.YtbjekebkgidhaaaGreatDoorW.PrintWords Go.Proofs.YtbjekebkgidhaaaGreatDoor.U Go.Proofs.YtbjekebkgidhaaaGreatDoor.Sc Go.Proofs.YtbjekebkgidhaaaGreatDoor.P
theorem ahead_len (sg : Txt) (ws : List Txt) : (ahead sg ws).length ≤ ws.length := (List.takeWhile_sublist _).length_le
theorem ahead_take (sg : Txt) (ws : List Txt) : ws.take (ahead sg ws).length = ahead sg ws := by
  induction ws with
  | nil => rfl
  | cons x r ih =>
    unfold ahead at ih ⊢
    by_cases h : x = sg
    · simp [List.takeWhile_cons, h]
    · simp [List.takeWhile_cons, h, ih]
theorem behind_drop (sg : Txt) (ws : List Txt) : ws.drop ((ahead sg ws).length + 1) = behind sg ws := by
  induction ws with
  | nil => rfl
  | cons x r ih =>
    unfold ahead behind at ih ⊢
    by_cases h : x = sg
    · simp [List.takeWhile_cons, List.dropWhile_cons, h]
    · simp [List.takeWhile_cons, List.dropWhile_cons, h, ih]
theorem ahead_found (sg : Txt) (ws : List Txt) : (sg ∈ ws ∧ (ahead sg ws).length < ws.length ∧ ws[(ahead sg ws).length]? = some sg) ∨ (sg ∉ ws ∧ ahead sg ws = ws ∧ behind sg ws = []) := by
  induction ws with
  | nil => exact .inr ⟨by simp, rfl, rfl⟩
  | cons x r ih =>
    unfold ahead behind at ih ⊢
    by_cases h : x = sg
    · exact .inl ⟨by simp [h], by simp [List.takeWhile_cons, h], by simp [List.takeWhile_cons, h]⟩
    · rcases ih with ⟨h1, h2, h3⟩ | ⟨h1, h2, h3⟩
      · exact .inl ⟨by simp [h1], by simp [List.takeWhile_cons, h, h2], by simp [List.takeWhile_cons, h, h3]⟩
      · exact .inr ⟨by simp [h1, Ne.symm h], by simp [List.takeWhile_cons, h, h2], by simp [List.dropWhile_cons, h, h3]⟩
theorem ahead_no (sg : Txt) (ws : List Txt) : sg ∉ ahead sg ws := by
  induction ws with
  | nil => simp [ahead]
  | cons x r ih =>
    unfold ahead at ih ⊢
    by_cases h : x = sg
    · simp [List.takeWhile_cons, h]
    · simp [List.takeWhile_cons, h, ih, Ne.symm h]
theorem idx_found (sg : Txt) (ws : List Txt) (h : sg ∈ ws) : idxOfS (ws.map B) (B sg) = ((ahead sg ws).length : Int) := by
  rcases ahead_found sg ws with ⟨_, h2, h3⟩ | ⟨h1, _⟩
  · have := idxOfS_hit (ws.map B) (ws.map B).length (ahead sg ws).length (B sg) (by rw [List.length_map]; exact h2) (Nat.le_refl _) (by
      rw [List.getD_eq_getElem?_getD, List.getElem?_map, h3]; rfl) (fun j hj hE => by
      have hjl : j < ws.length := by omega
      rw [List.getD_eq_getElem?_getD, List.getElem?_map, List.getElem?_eq_getElem hjl] at hE
      have hE2 : ws[j] = sg := B_inj hE
      apply ahead_no sg ws
      rw [← ahead_take sg ws]
      exact List.mem_take_iff_getElem.2 ⟨j, by omega, hE2⟩)
    rw [List.take_length] at this
    exact this
  · exact absurd h h1
theorem idx_lost (sg : Txt) (ws : List Txt) (h : sg ∉ ws) : idxOfS (ws.map B) (B sg) = -1 := by
  have := idxOfS_miss (ws.map B) (ws.map B).length (B sg) (fun j hj hE => by
    rw [List.length_map] at hj
    rw [List.getD_eq_getElem?_getD, List.getElem?_map, List.getElem?_eq_getElem hj] at hE
    exact h (B_inj hE ▸ List.getElem_mem hj))
  rw [List.take_length] at this
  exact this
theorem C_take {w : World} {A : Option Addr} {ws : List Txt} (h : Kd.C Kd.string w A ws.length (ws.map B)) (k : Nat) (hk : k ≤ ws.length) : Kd.C Kd.string w A k ((ws.take k).map B) := by
  refine ⟨by simp; omega, by have := h.2.1; omega, fun hp => ?_⟩
  obtain ⟨ad, hA, hc⟩ := h.2.2 (by omega)
  refine ⟨ad, hA, fun j p hj => hc j p ?_⟩
  rw [List.map_take, List.getElem?_take] at hj
  split at hj
  · exact hj
  · cases hj
theorem C_drop {w : World} {ad : Addr} {ws : List Txt} (h : Kd.C Kd.string w (some ad) ws.length (ws.map B)) (k : Nat) : Kd.C Kd.string w (some (ad.add k)) (ws.length - k) ((ws.drop k).map B) := by
  refine ⟨by simp, by have := h.2.1; omega, fun hp => ?_⟩
  obtain ⟨ad', hA, hc⟩ := h.2.2 (by omega)
  obtain rfl := Option.some.inj hA
  refine ⟨ad.add k, rfl, fun j p hj => ?_⟩
  rw [List.map_drop, List.getElem?_drop] at hj
  obtain ⟨c, h1, h2, h3⟩ := hc (k + j) p hj
  refine ⟨c, h1, h2, fun i u hu => ?_⟩
  rw [Addr.add_add]
  have := h3 i u hu
  have e : Kd.string.sz = 1 := rfl
  rw [e] at this ⊢
  rw [show k + (j * 1 + i) = (k + j) * 1 + i from by omega]
  exact this
theorem C_nil (w : World) (A : Option Addr) : Kd.C Kd.string w A 0 (([] : List Txt).map B) := ⟨rfl, Nat.zero_le _, fun h => absurd h (Nat.lt_irrefl 0)⟩
theorem idx_any {w : World} {A : Option Addr} {ws : List Txt} (c : Nat) (h : Kd.C Kd.string w A ws.length (ws.map B)) (sg : Txt) :
    Calls Tryz.prog 100 #[.slice A ws.length c, .string (B sg)] w fun e w' => e = .returned (.int .i64 (idxOfS (ws.map B) (B sg))) ∧ w = w' := by
  cases hl : ws.length with
  | zero =>
    obtain rfl := List.length_eq_zero_iff.1 hl
    exact (Tryz.slices_Index_string_empty A c (B sg) w).mono fun e w' ⟨h1, h2⟩ => ⟨h1, h2.symm⟩
  | succ n =>
    rw [← hl]
    obtain ⟨ad, rfl, _⟩ := str_at h 0 (by omega)
    have hplain : ad = ⟨ad.block, ad.off, none⟩ := by
      obtain ⟨ad', hA, hc⟩ := str_at h 0 (by omega)
      obtain rfl := Option.some.inj hA
      rw [show ad.add 0 = ad from by simp [Addr.add]] at hc
      obtain ⟨b, o, s⟩ := ad
      cases s with
      | none => rfl
      | some s =>
        unfold World.cell? at hc
        simp only [Option.isSome_some, if_true] at hc
        split at hc <;> cases hc
    have := Tryz.slices_Index_string ad.block ad.off ws.length c (ws.map B) (B sg) w (by simp) (by have := h.2.1; omega) (fun j hj => by
      rw [List.length_map] at hj
      obtain ⟨ad', hA, hc⟩ := str_at h j hj
      obtain rfl := Option.some.inj hA
      rw [List.getD_eq_getElem?_getD, List.getElem?_map, List.getElem?_eq_getElem hj]
      show _ = some (Value.string (B ws[j]))
      rw [← hc]
      congr 1
      rw [hplain]
      unfold Addr.add
      by_cases h0 : j = 0
      · subst h0; rfl
      · simp [h0])
    rw [← hplain] at this
    refine this.mono fun e w' ⟨h1, h2⟩ => ⟨?_, h2.symm⟩
    rw [h1]
    rw [List.take_of_length_le (by simp)]
def CutAs (O R : List Txt) (w : World) (e : Ending) (w' : World) : Prop :=
  ∃ A1 c1 A2 c2, e = .returned (.tuple #[.slice A1 O.length c1, .slice A2 R.length c2]) ∧
    (O.length ≤ c1 ∧ Kd.C Kd.string w' A1 O.length (O.map B)) ∧ (R.length ≤ c2 ∧ Kd.C Kd.string w' A2 R.length (R.map B)) ∧ Below w.heap.size w w'
def CutPost (sg : Txt) (ws : List Txt) (w : World) (e : Ending) (w' : World) : Prop := CutAs (ahead sg ws) (behind sg ws) w e w'
set_option maxRecDepth 100000 in
set_option maxHeartbeats 4000000 in
theorem mcut_any (A : Option Addr) (c : Nat) (ws : List Txt) (sg : Txt) (w : World) (hC : Kd.C Kd.string w A ws.length (ws.map B)) (hc : ws.length ≤ c) (hn : ws.length ≤ 1000000) :
    Calls Tryz.prog 74 #[.slice A ws.length c, .string (B sg)] w (CutPost sg ws w) := by
  have hI := Lib.hid (idx_any c hC sg)
  by_cases hm : sg ∈ ws
  · have hx := idx_found sg ws hm
    rw [hx] at hI
    obtain ⟨hkl, hks⟩ : (ahead sg ws).length < ws.length ∧ ws[(ahead sg ws).length]? = some sg := by
      rcases ahead_found sg ws with ⟨_, h1, h2⟩ | ⟨h1, _⟩
      · exact ⟨h1, h2⟩
      · exact absurd hm h1
    obtain ⟨ad, rfl, hq0⟩ := str_at hC 0 (by omega)
    clear hq0
    have h1 := Lib.hid (C_take hC (ahead sg ws).length (by omega))
    have h2 := Lib.hid (C_drop hC ((ahead sg ws).length + 1))
    rw [ahead_take] at h1
    rw [behind_drop] at h2
    have hbl : ws.length - ((ahead sg ws).length + 1) = (behind sg ws).length := by rw [← behind_drop, List.length_drop]
    have hP : ∀ w' e A2 c2, e = .returned (.tuple #[.slice (some ad) (ahead sg ws).length c, .slice A2 (behind sg ws).length c2]) → (behind sg ws).length ≤ c2 → (0 < (behind sg ws).length → A2 = some (ad.add ((ahead sg ws).length + 1))) → Below w.heap.size w w' → CutPost sg ws w e w' := by
      intro w' e A2 c2 he hc2 hA hb
      refine ⟨some ad, c, A2, c2, he, ⟨by omega, Kd.C_below h1.out hb⟩, ⟨hc2, ?_⟩, hb⟩
      by_cases h0 : 0 < (behind sg ws).length
      · rw [hA h0, ← hbl]; exact Kd.C_below h2.out hb
      · have : behind sg ws = [] := List.length_eq_zero_iff.1 (by omega)
        rw [this]; exact C_nil _ _
    have hPH := Lib.hid hP
    clear hP hx hks hm h1 h2 hC
    generalize (ahead sg ws).length = k at *
    generalize (behind sg ws).length = m at *
    generalize ws.length = n at *
    have hneg : decide ((k : Int) < 0) = false := by rw [decide_eq_false_iff_not]; omega
    have hA2 : Hid (∀ x : Option Addr, x = some ⟨ad.block, ad.off + (k + 1), none⟩ → x = some (ad.add (k + 1))) := by
      intro x hx
      rw [hx]; unfold Addr.add; rw [if_neg (by omega)]
    by_cases hkc : k + 1 = c
    · have hm0 : m = 0 := by omega
      have hmH := Lib.hid hm0
      subst hm0
      go_enter Tryz.func74, Tryz.ntmps74
      go_wp2_with fail
      refine hI.out.mono ?_
      rintro e w' ⟨rfl, rfl⟩
      go_wp2_with fail
      go_quiet (fail)
      go_wp2_with fail
      go_ret2
      exact hPH.out _ _ _ _ rfl (Nat.zero_le _) (fun h => absurd h (Nat.lt_irrefl 0)) (pw_below_drewN (Below.refl _ _) _)
    · go_enter Tryz.func74, Tryz.ntmps74
      go_wp2_with fail
      refine hI.out.mono ?_
      rintro e w' ⟨rfl, rfl⟩
      go_wp2_with fail
      go_quiet (fail)
      go_wp2_with fail
      go_ret2
      exact hPH.out _ _ _ _ rfl (by omega) (fun _ => hA2.out _ rfl) (pw_below_drewN (Below.refl _ _) _)
  · have hx := idx_lost sg ws hm
    rw [hx] at hI
    obtain ⟨ha, hbh⟩ : ahead sg ws = ws ∧ behind sg ws = [] := by
      rcases ahead_found sg ws with ⟨h1, _⟩ | ⟨_, h1⟩
      · exact absurd h1 hm
      · exact h1
    have hP : Hid (CutPost sg ws w (.returned (.tuple #[.slice A ws.length c, .slice none 0 0])) w) := by
      refine ⟨A, c, none, 0, by rw [ha, hbh]; rfl, ⟨by rw [ha]; exact hc, by rw [ha]; exact hC⟩, ⟨by rw [hbh]; exact Nat.zero_le _, by rw [hbh]; exact C_nil _ _⟩, Below.refl _ _⟩
    clear hx ha hbh hm hC
    generalize ws.length = n at *
    go_enter Tryz.func74, Tryz.ntmps74
    go_wp2_with fail
    refine hI.out.mono ?_
    rintro e w' ⟨rfl, rfl⟩
    go_wp2_with fail
    go_ret2
    exact hP.out
end Go.Proofs.YtbjekebkgidhaaaGreatDoor.Mf
end
section
set_option linter.unusedSimpArgs false
set_option linter.unusedVariables false
namespace Go.Proofs.YtbjekebkgidhaaaGreatDoor.Mf
open Go.RowKit Go.Lib Go.Shelf Go.Proofs.YtbjekebkgidhaaaGreatDoorW.PrintWords Go.Proofs.YtbjekebkgidhaaaGreatDoor.U Go.Proofs.YtbjekebkgidhaaaGreatDoor.Sc Go.Proofs.YtbjekebkgidhaaaGreatDoor.P Go.Proofs.YtbjekebkgidhaaaGreatDoor.MapV
inductive Role where
  | still
  | reader
  | fmap
  | rmap
  | tmap (i : Nat)
  | omap (j : Nat)
  | edge (j : Nat)
  | erow
  | drow
deriving DecidableEq
abbrev at0 (b : Nat) : Value := .pointer (some ⟨b, 0, none⟩)
structure Mem where
  role : Nat → Role
  r : Nat
  fb : Nat
  fm : Nat
  rm : Nat
  rb : Nat → Nat
  tb : Nat → Nat
  eb : Nat → Nat
  sb : Nat → Nat
  mb : Nat → Nat
  e0 : Nat → Value
  e1 : Nat → Value
  e2 : Nat → Value
  e3 : Nat → Value
  ve : Value
  vd : Value
  line : Nat
  vi : Value
  vo : Value
  n : Nat
structure SlA (B0 : Nat) (w : World) (g : Mem) (v : Value) (l : List Txt) : Prop where
  own : w.ownsRow B0 9 1 v l.length (l.map fun t => Value.string (B t))
  rl : ∀ b, v.ownBlock = some b → g.role b = .still
structure RuleAt (w : World) (g : Mem) (i : Nat) (r : RuleS) : Prop where
  rr : g.role (g.rb i) = .still
  rt : g.role (g.tb i) = .tmap i
  hb : w.heap[g.rb i]? = some (.cells #[.map (some (g.tb i)), .int .i64 (r.line : Int)] 101 (0, 0))
  ht : OwnsM w (g.tb i) g.n r.texts
  nm : nameL r.name = true
  sh : Short 16384 r.texts
def few (l : List Txt) : Prop := l.length ≤ 20000 ∧ ∀ t ∈ l, t.length ≤ 100
structure EdgeAt (B0 : Nat) (w : World) (g : Mem) (nr : Nat) (j : Nat) (e : EdgeS) : Prop where
  re : g.role (g.eb j) = .edge j
  rs : g.role (g.sb j) = .still
  rm : g.role (g.mb j) = .omap j
  he : w.heap[g.eb j]? = some (.cells #[g.e0 j, g.e1 j, g.e2 j, g.e3 j, .string (B []), .string (B []), at0 (g.rb e.rule), at0 (g.sb j), .int .i64 (e.line : Int)] 103 (0, 0))
  hs : w.heap[g.sb j]? = some (.cells #[at0 g.fb, .map (some (g.mb j))] 91 (0, 0))
  hm : OwnsM w (g.mb j) g.n e.own
  lt : e.rule < nr
  s0 : SlA B0 w g (g.e0 j) e.outs
  s1 : SlA B0 w g (g.e1 j) e.ins
  s2 : SlA B0 w g (g.e2 j) e.imp
  s3 : SlA B0 w g (g.e3 j) e.ord
  sh : Short 16384 e.own
  f0 : few e.outs
  f1 : few e.ins
def InnAt (w : World) (g : Mem) (st : St) : Prop :=
  (st.inner = 0 ∧ g.vi = .nilFunc ∧ g.vo = .pointer none) ∨
  (st.inner = 1 ∧ 0 < st.rules.length ∧ g.vo = at0 (g.rb (st.rules.length - 1)) ∧ ∃ p q, g.vi = .func (.func 72) #[] #[at0 p, at0 q] ∧ g.role p = .still ∧ g.role q = .still ∧
    w.heap[p]? = some (.cells #[at0 g.r] 62 (0, 0)) ∧ w.heap[q]? = some (.cells #[at0 (g.rb (st.rules.length - 1))] 68 (0, 0))) ∨
  (st.inner = 2 ∧ 0 < st.edges.length ∧ g.vo = .pointer none ∧ ∃ p q, g.vi = .func (.func 76) #[] #[at0 p, at0 q] ∧ g.role p = .still ∧ g.role q = .still ∧
    w.heap[p]? = some (.cells #[at0 (g.eb (st.edges.length - 1))] 74 (0, 0)) ∧ w.heap[q]? = some (.cells #[at0 g.r] 62 (0, 0)))
structure Inv (B0 : Nat) (w : World) (g : Mem) (st : St) : Prop where
  base : B0 ≤ w.heap.size
  new : ∀ b, g.role b ≠ .still → B0 ≤ b
  rr : g.role g.r = .reader
  hr : w.heap[g.r]? = some (.cells #[at0 g.fb, .map (some g.rm), g.ve, g.vd, .int .i64 (g.line : Int), g.vi, g.vo] 70 (0, 0))
  rf : g.role g.fb = .still
  hf : w.heap[g.fb]? = some (.cells #[.pointer none, .map (some g.fm)] 91 (0, 0))
  rfm : g.role g.fm = .fmap
  mf : OwnsM w g.fm g.n st.file
  sf : Short 16384 st.file
  rrm : g.role g.rm = .rmap
  mr : OwnsV w g.rm g.n (fun k => (ruleAt st.rules k).map fun i => at0 (g.rb i))
  rules : ∀ i (h : i < st.rules.length), RuleAt w g i st.rules[i]
  edges : ∀ j (h : j < st.edges.length), EdgeAt B0 w g st.rules.length j st.edges[j]
  ne : st.edges.length ≤ 200
  oe : w.ownsRow B0 74 1 g.ve st.edges.length ((List.range st.edges.length).map fun j => at0 (g.eb j))
  roe : ∀ b, g.ve.ownBlock = some b → g.role b = .erow
  od : w.ownsRow B0 9 1 g.vd st.defs.length (st.defs.map fun t => Value.string (B t))
  rod : ∀ b, g.vd.ownBlock = some b → g.role b = .drow
  nd : st.defs.length ≤ 400000000
  inn : InnAt w g st
structure Grow (nr ne : Nat) (X : Role → Prop) (w w' : World) (g g' : Mem) : Prop where
  size : w.heap.size ≤ w'.heap.size
  same : ∀ b, b < w.heap.size → ¬ X (g.role b) → w'.heap[b]? = w.heap[b]?
  role : ∀ b, b < w.heap.size → g'.role b = g.role b
  fb : g'.fb = g.fb
  rb : ∀ i, i < nr → g'.rb i = g.rb i ∧ g'.tb i = g.tb i
  eb : ∀ j, j < ne → g'.eb j = g.eb j ∧ g'.sb j = g.sb j ∧ g'.mb j = g.mb j ∧ g'.e0 j = g.e0 j ∧ g'.e1 j = g.e1 j ∧ g'.e2 j = g.e2 j ∧ g'.e3 j = g.e3 j
  n : g.n ≤ g'.n
theorem lt_blk {w : World} {b : Nat} {o : Obj} (h : w.heap[b]? = some o) : b < w.heap.size := (Array.getElem?_eq_some_iff.1 h).1
section
variable {B0 nr ne : Nat} {w w' : World} {g g' : Mem} {st : St} {X : Role → Prop}
theorem Grow.mono {nr' ne' : Nat} {Y : Role → Prop} (k : Grow nr ne X w w' g g') (h1 : nr' ≤ nr) (h2 : ne' ≤ ne) (h3 : ∀ r, X r → Y r) : Grow nr' ne' Y w w' g g' :=
  ⟨k.size, fun b hb hx => k.same b hb (fun e => hx (h3 _ e)), k.role, k.fb, fun i hi => k.rb i (by omega), fun j hj => k.eb j (by omega), k.n⟩
theorem Grow.blk (k : Grow nr ne X w w' g g') {b : Nat} {o : Obj} {r : Role} (h : w.heap[b]? = some o) (hr : g.role b = r) (hx : ¬ X r) : w'.heap[b]? = some o :=
  (k.same b (lt_blk h) (by rw [hr]; exact hx)).trans h
theorem Grow.mapM (k : Grow nr ne X w w' g g') {b n : Nat} {m : MapL} {r : Role} (h : OwnsM w b n m) (hr : g.role b = r) (hx : ¬ X r) : OwnsM w' b n m :=
  h.same (k.same b h.lt (by rw [hr]; exact hx))
theorem Grow.mapV (k : Grow nr ne X w w' g g') {b n : Nat} {m : MapVal} {r : Role} (h : OwnsV w b n m) (hr : g.role b = r) (hx : ¬ X r) : OwnsV w' b n m :=
  h.same (k.same b h.lt (by rw [hr]; exact hx))
theorem Grow.row (k : Grow nr ne X w w' g g') {e size n : Nat} {v : Value} {xs : List Value} {r : Role} (h : w.ownsRow B0 e size v n xs) (hr : ∀ b, v.ownBlock = some b → g.role b = r) (hx : ¬ X r) : w'.ownsRow B0 e size v n xs :=
  own_move h fun b hb => k.same b (own_lt h b hb) (by rw [hr b hb]; exact hx)
theorem Grow.rolev (k : Grow nr ne X w w' g g') {e size n : Nat} {v : Value} {xs : List Value} {r : Role} (h : w.ownsRow B0 e size v n xs) (hr : ∀ b, v.ownBlock = some b → g.role b = r) : ∀ b, v.ownBlock = some b → g'.role b = r :=
  fun b hb => (k.role b (own_lt h b hb)).trans (hr b hb)
theorem Grow.roleb (k : Grow nr ne X w w' g g') {b : Nat} {o : Obj} {r : Role} (h : w.heap[b]? = some o) (hr : g.role b = r) : g'.role b = r := (k.role b (lt_blk h)).trans hr
theorem SlA.grow {v : Value} {l : List Txt} (h : SlA B0 w g v l) (k : Grow nr ne X w w' g g') (hx : ¬ X .still) : SlA B0 w' g' v l := ⟨k.row h.own h.rl hx, k.rolev h.own h.rl⟩
theorem RuleAt.grow {i : Nat} {r : RuleS} (h : RuleAt w g i r) (k : Grow nr ne X w w' g g') (hi : i < nr) (hx : ¬ X .still) (hy : ¬ X (.tmap i)) : RuleAt w' g' i r := by
  obtain ⟨e1, e2⟩ := k.rb i hi
  refine ⟨?_, ?_, ?_, ?_, h.nm, h.sh⟩
  · rw [e1]; exact k.roleb h.hb h.rr
  · rw [e2]; exact (k.role _ h.ht.lt).trans h.rt
  · rw [e1, e2]; exact k.blk h.hb h.rr hx
  · rw [e2]; exact (k.mapM h.ht h.rt hy).mono k.n
theorem EdgeAt.grow {nr' j : Nat} {e : EdgeS} (h : EdgeAt B0 w g nr j e) (k : Grow nr ne X w w' g g') (hj : j < ne) (hn : nr ≤ nr') (hx : ¬ X .still) (hy : ¬ X (.omap j)) (hz : ¬ X (.edge j)) : EdgeAt B0 w' g' nr' j e := by
  obtain ⟨e1, e2, e3, e4, e5, e6, e7⟩ := k.eb j hj
  obtain ⟨e8, _⟩ := k.rb e.rule h.lt
  refine ⟨?_, ?_, ?_, ?_, ?_, ?_, Nat.lt_of_lt_of_le h.lt hn, ?_, ?_, ?_, ?_, h.sh, h.f0, h.f1⟩
  · rw [e1]; exact k.roleb h.he h.re
  · rw [e2]; exact k.roleb h.hs h.rs
  · rw [e3]; exact (k.role _ h.hm.lt).trans h.rm
  · rw [e1, e2, e4, e5, e6, e7, e8]; exact k.blk h.he h.re hz
  · rw [e2, e3, k.fb]; exact k.blk h.hs h.rs hx
  · rw [e3]; exact (k.mapM h.hm h.rm hy).mono k.n
  · rw [e4]; exact h.s0.grow k hx
  · rw [e5]; exact h.s1.grow k hx
  · rw [e6]; exact h.s2.grow k hx
  · rw [e7]; exact h.s3.grow k hx
theorem InnAt.grow (h : InnAt w g st) (k : Grow st.rules.length st.edges.length X w w' g g') (hx : ¬ X .still) (h1 : g'.r = g.r) (h2 : g'.vi = g.vi) (h3 : g'.vo = g.vo) : InnAt w' g' st := by
  rcases h with ⟨a1, a2, a3⟩ | ⟨a1, a2, a3, p, q, a4, a5, a6, a7, a8⟩ | ⟨a1, a2, a3, p, q, a4, a5, a6, a7, a8⟩
  · exact .inl ⟨a1, h2.trans a2, h3.trans a3⟩
  · have e := (k.rb (st.rules.length - 1) (by omega)).1
    exact .inr (.inl ⟨a1, a2, by rw [h3, a3, e], p, q, h2.trans a4, k.roleb a7 a5, k.roleb a8 a6, by rw [h1]; exact k.blk a7 a5 hx, by rw [e]; exact k.blk a8 a6 hx⟩)
  · have e := (k.eb (st.edges.length - 1) (by omega)).1
    exact .inr (.inr ⟨a1, a2, h3.trans a3, p, q, h2.trans a4, k.roleb a7 a5, k.roleb a8 a6, by rw [e]; exact k.blk a7 a5 hx, by rw [h1]; exact k.blk a8 a6 hx⟩)
theorem Grow.of_below (h : Below w.heap.size w w') : Grow nr ne X w w' g g := ⟨h.size, fun b hb _ => h.block b hb, fun _ _ => rfl, rfl, fun _ _ => ⟨rfl, rfl⟩, fun _ _ => ⟨rfl, rfl, rfl, rfl, rfl, rfl, rfl⟩, Nat.le_refl _⟩
theorem Inv.below (h : Inv B0 w g st) (hb : Below w.heap.size w w') : Inv B0 w' g st := by
  have k : Grow st.rules.length st.edges.length (fun _ => False) w w' g g := Grow.of_below hb
  exact ⟨Nat.le_trans h.base k.size, h.new, h.rr, k.blk h.hr h.rr id, h.rf, k.blk h.hf h.rf id, h.rfm, k.mapM h.mf h.rfm id, h.sf, h.rrm, k.mapV h.mr h.rrm id, fun i hi => (h.rules i hi).grow k hi id id, fun j hj => (h.edges j hj).grow k hj (Nat.le_refl _) id id id, h.ne,
    k.row h.oe h.roe id, h.roe, k.row h.od h.rod id, h.rod, h.nd, h.inn.grow k id rfl rfl rfl⟩
theorem Inv.fchain (h : Inv B0 w g st) : Chain w [⟨g.fb, g.fm, g.n, st.file⟩] (at0 g.fb) := ⟨rfl, _, h.hf, h.mf, rfl⟩
theorem Inv.cell (h : Inv B0 w g st) (i : Nat) : w.cell? ⟨g.r, i, none⟩ = #[at0 g.fb, .map (some g.rm), g.ve, g.vd, .int .i64 (g.line : Int), g.vi, g.vo][i]? := by rw [cell_of_heap h.hr]
theorem Inv.nostr (h : Inv B0 w g st) (o : Nat) (s : ByteArray) : w.cell? ⟨g.r, o, none⟩ ≠ some (.string s) := by
  rw [h.cell o]
  intro e
  rcases o with _ | _ | _ | _ | _ | _ | _ | o
  · cases e
  · cases e
  · have e' : g.ve = .string s := Option.some.inj e
    rcases h.oe.2 with ⟨q, _⟩ | ⟨_, _, _, q, _⟩ <;> rw [q] at e' <;> cases e'
  · have e' : g.vd = .string s := Option.some.inj e
    rcases h.od.2 with ⟨q, _⟩ | ⟨_, _, _, q, _⟩ <;> rw [q] at e' <;> cases e'
  · cases e
  · have e' : g.vi = .string s := Option.some.inj e
    rcases h.inn with ⟨_, q, _⟩ | ⟨_, _, _, _, _, q, _⟩ | ⟨_, _, _, _, _, q, _⟩ <;> rw [q] at e' <;> cases e'
  · have e' : g.vo = .string s := Option.some.inj e
    rcases h.inn with ⟨_, _, q⟩ | ⟨_, _, q, _⟩ | ⟨_, _, q, _⟩ <;> rw [q] at e' <;> cases e'
  · simp at e
theorem Inv.free (h : Inv B0 w g st) (i : Nat) : w.frozen? ⟨g.r, i, none⟩ = false := frozen_of_heap h.hr i
theorem Inv.rd (h : Inv B0 w g st) : Rd w g.r g.line [⟨g.fb, g.fm, g.n, st.file⟩] (at0 g.fb) := ⟨lt_blk h.hr, h.cell 0, h.cell 4, h.fchain⟩
theorem Inv.getL (h : Inv B0 w g st) : ∀ k, (getL [⟨g.fb, g.fm, g.n, st.file⟩] k).length < 1000000000 := fun k =>
  Nat.lt_of_le_of_lt (getL_short (M := 16384) (fun s hs => by rw [List.mem_singleton.1 hs]; exact h.sf) k) (by decide)
theorem Inv.reader (h : Inv B0 w g st) (hs : w.heap.size ≤ w'.heap.size) (hk : ∀ b, b < w.heap.size → b ≠ g.r → w'.heap[b]? = w.heap[b]?) (vi vo : Value) (line : Nat) (inner : Nat)
    (hr : w'.heap[g.r]? = some (.cells #[at0 g.fb, .map (some g.rm), g.ve, g.vd, .int .i64 (line : Int), vi, vo] 70 (0, 0)))
    (hi : InnAt w' { g with line := line, vi := vi, vo := vo } { st with inner := inner }) : Inv B0 w' { g with line := line, vi := vi, vo := vo } { st with inner := inner } := by
  have k : Grow st.rules.length st.edges.length (fun r => r = .reader) w w' g { g with line := line, vi := vi, vo := vo } :=
    ⟨hs, fun b hb hx => hk b hb (fun e => hx (by rw [e]; exact h.rr)), fun _ _ => rfl, rfl, fun _ _ => ⟨rfl, rfl⟩, fun _ _ => ⟨rfl, rfl, rfl, rfl, rfl, rfl, rfl⟩, Nat.le_refl _⟩
  exact ⟨Nat.le_trans h.base hs, h.new, h.rr, hr, h.rf, k.blk h.hf h.rf (by simp), h.rfm, k.mapM h.mf h.rfm (by simp), h.sf, h.rrm, k.mapV h.mr h.rrm (by simp),
    fun i hi => (h.rules i hi).grow k hi (by simp) (by simp), fun j hj => (h.edges j hj).grow k hj (Nat.le_refl _) (by simp) (by simp) (by simp), h.ne, k.row h.oe h.roe (by simp), h.roe, k.row h.od h.rod (by simp), h.rod, h.nd, hi⟩
end
def Steps (B0 : Nat) (g : Mem) (r : Except Er St) (w : World) (e : Ending) (w' : World) : Prop :=
  match r with
  | .ok st => e = .returned (.tuple #[]) ∧ (∃ g', Inv B0 w' g' st ∧ g'.r = g.r ∧ g'.n ≤ g.n + 1) ∧ Below B0 w w'
  | .error x => e = wr x.1 x.2 ∧ Below B0 w w'
theorem Steps.fin {B0 : Nat} {g g' : Mem} {r : Except Er St} {w w' : World} {st : St} (h : r = .ok st) (hi : Inv B0 w' g' st) (hr : g'.r = g.r) (hn : g'.n ≤ g.n + 1) (hb : Below B0 w w') : Steps B0 g r w (.returned (.tuple #[])) w' := by
  subst h; exact ⟨rfl, ⟨g', hi, hr, hn⟩, hb⟩
theorem Steps.bad {B0 : Nat} {g : Mem} {r : Except Er St} {w w' : World} {l : Nat} {c : Int} (h : r = .error (l, c)) (hb : Below B0 w w') : Steps B0 g r w (wr l c) w' := by
  subst h; exact ⟨rfl, hb⟩
end Go.Proofs.YtbjekebkgidhaaaGreatDoor.Mf
end
section
set_option linter.unusedSimpArgs false
set_option linter.unusedVariables false
namespace Go.Proofs.YtbjekebkgidhaaaGreatDoor.Mf
open Go.RowKit Go.Lib Go.Shelf Go.Maps Go.WideMaps Go.WideElems Go.Proofs.YtbjekebkgidhaaaGreatDoorW.PrintWords Go.Proofs.YtbjekebkgidhaaaGreatDoor.U Go.Proofs.YtbjekebkgidhaaaGreatDoor.Sc Go.Proofs.YtbjekebkgidhaaaGreatDoor.P Go.Proofs.YtbjekebkgidhaaaGreatDoor.MapV
theorem look0 {w : World} {b n : Nat} {m : MapL} (h : OwnsM w b n m) (k : Txt) (hk : k.length ≤ maxLen) :
    (Instr.lookup 89 (.map (some b)) (.string (B k)) false).run Tryz.prog w = .ok (.string (B ((m k).getD []))) w := by
  obtain ⟨D, h, h1, h2⟩ := h
  have hkey : keyOf Tryz.prog 9 (.string (B k)) = some (.string k) := keyOf_string_mk Tryz.underlying9 (by rw [size_B]; exact hk)
  obtain ⟨v, ps, hrun, hv⟩ := h.lookup skeyed Tryz.underlying89 (szero w) (plainElem_string Tryz.underlying9 (by decide)) hkey
  obtain ⟨s, rfl, hs, _⟩ := plainElem_string_inv Tryz.underlying9 hv
  have hat := (Prod.mk.inj hs).1
  rw [hrun]
  have : s = B ((m k).getD []) := by
    cases hm : m k with
    | none =>
      show s = B []
      have hn : Maps.has D (.string k) = false := by rw [h1 k, hm]; rfl
      rw [Maps.atKey_of_not_has hn] at hat
      have : ([] : List UInt8) = s.data.toList := Lit.string.inj (DataW.lit.inj hat)
      have e := B_of s
      rw [← this] at e
      exact e
    | some t =>
      show s = B t
      rw [h2 k t hm] at hat
      have : t = s.data.toList := Lit.string.inj (DataW.lit.inj hat)
      have e := B_of s
      rw [← this] at e
      exact e
  rw [this]
theorem _root_.Go.Proofs.YtbjekebkgidhaaaGreatDoor.Sc.OwnsM.made_at {w : World} {b : Nat} (h : w.heap[b]? = some (.map #[] 0)) : OwnsM w b 0 none0 := by
  obtain ⟨D, ⟨es, clock, h1, h2⟩, r⟩ := OwnsM.made w
  have h3 := heap_alloc_new w (.map #[] 0)
  rw [h3] at h1
  obtain ⟨rfl, rfl⟩ : es = #[] ∧ clock = 0 := by
    have := Option.some.inj h1
    injection this with a b
    exact ⟨a.symm, b.symm⟩
  exact ⟨D, ⟨_, _, h, h2⟩, r⟩
theorem last_get {α : Type} (l : List α) (h : 0 < l.length) : l.getLast? = some (l[l.length - 1]'(by omega)) := by
  rw [List.getLast?_eq_getElem?, List.getElem?_eq_getElem (by omega)]
theorem Inv.shut {B0 : Nat} {w : World} {g : Mem} {st : St} (h : Inv B0 w g st) :
    Inv B0 ((w.setCell ⟨g.r, 6, none⟩ (.pointer none)).setCell ⟨g.r, 5, none⟩ .nilFunc) { g with line := g.line, vi := .nilFunc, vo := .pointer none } { st with inner := 0 } := by
  have h1 := blk_put h.hr 6 (.pointer none) rfl
  have h2 := blk_put h1 5 .nilFunc rfl
  exact h.reader (by simp) (fun b _ hb => by rw [Below.heap_setCell _ _ _ b hb, Below.heap_setCell _ _ _ b hb]) .nilFunc (.pointer none) g.line 0 h2 (.inl ⟨rfl, rfl, rfl⟩)
theorem below_set2 {B0 : Nat} {w : World} {g i j : Nat} {u v : Value} (hg : B0 ≤ g) : Below B0 w ((w.setCell ⟨g, i, none⟩ u).setCell ⟨g, j, none⟩ v) := ((Below.refl _ _).setCell hg _).setCell hg _
end Go.Proofs.YtbjekebkgidhaaaGreatDoor.Mf
end
section
set_option linter.unusedSimpArgs false
set_option linter.unusedVariables false
namespace Go.Proofs.YtbjekebkgidhaaaGreatDoor.RegP
open Go Go.Proofs.YtbjekebkgidhaaaGreatDoor.RegG
def planOk (md : Region.Mode) (ops : Array Oper) (k : Nat) : List (Nat × Nat) → Array Bool → Bool
  | [], l => Region.ready md ops l == []
  | (t, i) :: r, l =>
    (match t with
    | 0 => (i != k) && Region.free md ops l i && (Region.ready md ops l).contains i
    | 1 => (i != k) && waits md ops k i && (l.getD k true == false) && Region.free md ops l i && (Region.ready md ops l).contains i
    | 2 => Region.ready md ops l == [i]
    | 3 => Region.ready md ops l == [i] && ((l.setIfInBounds i true).getD k true == true)
    | 4 => (i != k) && Region.free md ops l i && (Region.ready md ops l).contains i
    | _ => false) && planOk md ops k r (l.setIfInBounds i true)
section
variable {P : Program} {ops : Array Oper} {Q : Exit → Act → World → Prop} {S : World → Prop} {k : Nat}
def wpPlan (P : Program) (ops : Array Oper) (Q : Exit → Act → World → Prop) (S : World → Prop) : List (Nat × Nat) → Act → World → Prop
  | [], a, w => Q .normal a w
  | (t, i) :: r, a, w => ∃ o, ops[i]? = some o ∧
    match t with
    | 0 => ∃ v, (∀ c a w, Q (.panic c) (a.put o.dst v) w → Q (.panic c) a w) ∧ Region.wanted o (yielded ops a.tmps) = true ∧ (∀ w', (execOp a.eval o).run P w' = .ok (.value v) w') ∧ wpPlan P ops Q S r (a.put o.dst v) w
    | 1 => ∃ v, (∀ c a w, Q (.panic c) (a.put o.dst v) w → Q (.panic c) a w) ∧ Region.wanted o (yielded ops a.tmps) = true ∧ (∀ w', S w' → (execOp a.eval o).run P w' = .ok (.value v) w') ∧ wpPlan P ops Q S r (a.put o.dst v) w
    | 4 => (∀ c a w, Q (.panic c) (a.put o.dst undef) w → Q (.panic c) a w) ∧ Region.wanted o (yielded ops a.tmps) = false ∧ wpPlan P ops Q S r (a.put o.dst undef) w
    | 2 => ∀ K' : Act → World → Prop, Shut (∀ a w, S w → (S w → wpPlan P ops Q S r a w) → K' a w) → if Region.wanted o (yielded ops a.tmps) = true then Oper.wp P o a w K' Q else K' (a.put o.dst undef) w
    | _ => ∀ K' : Act → World → Prop, Shut (∀ a w, wpPlan P ops Q S r a w → K' a w) → if Region.wanted o (yielded ops a.tmps) = true then Oper.wp P o a w K' Q else K' (a.put o.dst undef) w
theorem any_of_plan (hs : Region.noSelect ops = true) : ∀ (plan : List (Nat × Nat)) (l : Array Bool) (a : Act) (w : World), planOk .any ops k plan l = true → (l.getD k true = false → S w) → wpPlan P ops Q S plan a w → wpAnyG P .any ops Q S k plan.length l a w
  | [], l, a, w, hok, _, h => doneG (by simpa [planOk] using hok) h _
  | (t, i) :: r, l, a, w, hok, hS, h => by
    obtain ⟨o, ho, h⟩ := h
    rcases t with _ | _ | _ | _ | _ | t
    · replace hok : (((i != k) && Region.free .any ops l i && (Region.ready .any ops l).contains i) && planOk .any ops k r (l.setIfInBounds i true)) = true := hok
      obtain ⟨h1, h2⟩ := Bool.and_eq_true_iff.1 hok
      simp only [Bool.and_eq_true] at h1
      obtain ⟨⟨e1, e2⟩, e3⟩ := h1
      obtain ⟨v, q1, q2, q3, q4⟩ := h
      have hik : i ≠ k := by simpa using e1
      exact takeP ho e1 hs e2 e3 q1 q2 q3 hS (any_of_plan hs r _ _ w h2 (fun e => hS (by rw [getD_set_ne true hik] at e; exact e)) q4)
    · replace hok : (((i != k) && waits .any ops k i && (l.getD k true == false) && Region.free .any ops l i && (Region.ready .any ops l).contains i) && planOk .any ops k r (l.setIfInBounds i true)) = true := hok
      obtain ⟨h1, h2⟩ := Bool.and_eq_true_iff.1 hok
      simp only [Bool.and_eq_true] at h1
      obtain ⟨⟨⟨⟨e1, e2⟩, e3⟩, e4⟩, e5⟩ := h1
      obtain ⟨v, q1, q2, q3, q4⟩ := h
      have hik : i ≠ k := by simpa using e1
      have hk : l.getD k true = false := by simpa using e3
      exact takeS ho e1 e2 hk hs e4 e5 q1 q2 q3 (hS hk) (any_of_plan hs r _ _ w h2 (fun e => hS hk) q4)
    · replace hok : ((Region.ready .any ops l == [i]) && planOk .any ops k r (l.setIfInBounds i true)) = true := hok
      obtain ⟨h1, h2⟩ := Bool.and_eq_true_iff.1 hok
      have hr : Region.ready .any ops l = [i] := eq_of_beq h1
      refine readyG hr (by simp) (AllG.cons ho (fun K' hK => ?_) AllG.nil)
      exact h K' (fun a w hS' hW => hK.out a w hS' (fun hS'' => any_of_plan hs r _ _ w h2 (fun _ => hS'') (hW hS'')))
    · replace hok : ((Region.ready .any ops l == [i] && ((l.setIfInBounds i true).getD k true == true)) && planOk .any ops k r (l.setIfInBounds i true)) = true := hok
      obtain ⟨h1, h2⟩ := Bool.and_eq_true_iff.1 hok
      simp only [Bool.and_eq_true] at h1
      obtain ⟨e1, e2⟩ := h1
      have hr : Region.ready .any ops l = [i] := eq_of_beq e1
      have hk : (l.setIfInBounds i true).getD k true = true := eq_of_beq e2
      refine readyG hr (by simp) (AllG.last hk ho (fun K' hK => ?_) AllG.nil)
      exact h K' (fun a w hW => hK.out a w (any_of_plan hs r _ _ w h2 (fun e => (by rw [hk] at e; cases e)) hW))
    · replace hok : (((i != k) && Region.free .any ops l i && (Region.ready .any ops l).contains i) && planOk .any ops k r (l.setIfInBounds i true)) = true := hok
      obtain ⟨h1, h2⟩ := Bool.and_eq_true_iff.1 hok
      simp only [Bool.and_eq_true] at h1
      obtain ⟨⟨e1, e2⟩, e3⟩ := h1
      obtain ⟨q1, q2, q4⟩ := h
      have hik : i ≠ k := by simpa using e1
      exact wpAnyG_first (v := undef) (T := fun _ => True) hik ho (Region.noSelect_spec hs) q1 (.inl fun _ => trivial) r.length l a w (Region.free_spec ho e2) (by simpa using e3) (.inr ⟨q2, rfl⟩) trivial (.inl fun _ => trivial) hS
        (any_of_plan hs r _ _ w h2 (fun e => hS (by rw [getD_set_ne true hik] at e; exact e)) q4)
    · replace hok : (false && planOk .any ops k r (l.setIfInBounds i true)) = true := hok
      simp at hok
theorem region {id : Nat} {a : Act} {w : World} (S : World → Prop) (k : Nat) (plan : List (Nat × Nat)) (hm : P.follows .mixedOrders = true) (hs : Region.noSelect ops = true) (hl : plan.length = ops.size) (hok : planOk .any ops k plan (Array.replicate ops.size false) = true)
    (hS : S w.drew) (h : wpPlan P ops Q S plan a w.drew) : (Code.region id ops true).wp P Q a w := by
  refine regionG S k hm hS fun hS' => ?_
  rw [← hl]
  rw [← hl] at hok
  exact any_of_plan hs plan _ a _ hok (fun _ => hS') h
theorem pure1 {i : Nat} {r : List (Nat × Nat)} {a : Act} {w : World} {o : Oper} {v : Value} (ho : ops[i]? = some o) (hQ : ∀ c a w, Q (.panic c) (a.put o.dst v) w → Q (.panic c) a w) (hw : Region.wanted o (yielded ops a.tmps) = true)
    (hv : ∀ w', (execOp a.eval o).run P w' = .ok (.value v) w') (h : wpPlan P ops Q S r (a.put o.dst v) w) : wpPlan P ops Q S ((0, i) :: r) a w := ⟨o, ho, v, hQ, hw, hv, h⟩
theorem held1 {i : Nat} {r : List (Nat × Nat)} {a : Act} {w : World} {o : Oper} {v : Value} (ho : ops[i]? = some o) (hQ : ∀ c a w, Q (.panic c) (a.put o.dst v) w → Q (.panic c) a w) (hw : Region.wanted o (yielded ops a.tmps) = true)
    (hv : ∀ w', S w' → (execOp a.eval o).run P w' = .ok (.value v) w') (h : wpPlan P ops Q S r (a.put o.dst v) w) : wpPlan P ops Q S ((1, i) :: r) a w := ⟨o, ho, v, hQ, hw, hv, h⟩
theorem skip1 {i : Nat} {r : List (Nat × Nat)} {a : Act} {w : World} {o : Oper} (ho : ops[i]? = some o) (hQ : ∀ c a w, Q (.panic c) (a.put o.dst undef) w → Q (.panic c) a w) (hw : Region.wanted o (yielded ops a.tmps) = false)
    (h : wpPlan P ops Q S r (a.put o.dst undef) w) : wpPlan P ops Q S ((4, i) :: r) a w := ⟨o, ho, hQ, hw, h⟩
theorem done1 {a : Act} {w : World} (h : Q .normal a w) : wpPlan P ops Q S [] a w := h
theorem ev1 {i : Nat} {r : List (Nat × Nat)} {a : Act} {w : World} {o : Oper} (ho : ops[i]? = some o)
    (h : ∀ K' : Act → World → Prop, Shut (∀ a w, S w → (S w → wpPlan P ops Q S r a w) → K' a w) → if Region.wanted o (yielded ops a.tmps) = true then Oper.wp P o a w K' Q else K' (a.put o.dst undef) w) : wpPlan P ops Q S ((2, i) :: r) a w := ⟨o, ho, h⟩
theorem last1 {i : Nat} {r : List (Nat × Nat)} {a : Act} {w : World} {o : Oper} (ho : ops[i]? = some o)
    (h : ∀ K' : Act → World → Prop, Shut (∀ a w, wpPlan P ops Q S r a w → K' a w) → if Region.wanted o (yielded ops a.tmps) = true then Oper.wp P o a w K' Q else K' (a.put o.dst undef) w) : wpPlan P ops Q S ((3, i) :: r) a w := ⟨o, ho, h⟩
def planOkH (md : Region.Mode) (ops : Array Oper) : List (Nat × Nat) → Array Bool → Bool
  | [], l => Region.ready md ops l == []
  | (t, i) :: r, l =>
    (match t with
    | 0 => Region.free md ops l i && (Region.ready md ops l).contains i
    | 1 => Region.free md ops l i && (Region.ready md ops l).contains i
    | 2 => Region.ready md ops l == [i]
    | 4 => Region.free md ops l i && (Region.ready md ops l).contains i
    | _ => false) && planOkH md ops r (l.setIfInBounds i true)
theorem any_of_planH (hs : Region.noSelect ops = true) : ∀ (plan : List (Nat × Nat)) (l : Array Bool) (a : Act) (w : World), planOkH .any ops plan l = true → S w → wpPlan P ops Q S plan a w → wpAnyH P .any ops Q S plan.length l a w
  | [], l, a, w, hok, _, h => wpAnyH_done (by simpa [planOkH] using hok) h _
  | (t, i) :: r, l, a, w, hok, hS, h => by
    obtain ⟨o, ho, h⟩ := h
    rcases t with _ | _ | _ | _ | _ | t
    · replace hok : ((Region.free .any ops l i && (Region.ready .any ops l).contains i) && planOkH .any ops r (l.setIfInBounds i true)) = true := hok
      obtain ⟨h1, h2⟩ := Bool.and_eq_true_iff.1 hok
      obtain ⟨e2, e3⟩ := Bool.and_eq_true_iff.1 h1
      obtain ⟨v, q1, q2, q3, q4⟩ := h
      exact wpAnyH_take ho hs e2 e3 q1 (.inl ⟨q2, fun w' _ => q3 w'⟩) hS (any_of_planH hs r _ _ w h2 hS q4)
    · replace hok : ((Region.free .any ops l i && (Region.ready .any ops l).contains i) && planOkH .any ops r (l.setIfInBounds i true)) = true := hok
      obtain ⟨h1, h2⟩ := Bool.and_eq_true_iff.1 hok
      obtain ⟨e2, e3⟩ := Bool.and_eq_true_iff.1 h1
      obtain ⟨v, q1, q2, q3, q4⟩ := h
      exact wpAnyH_take ho hs e2 e3 q1 (.inl ⟨q2, q3⟩) hS (any_of_planH hs r _ _ w h2 hS q4)
    · replace hok : ((Region.ready .any ops l == [i]) && planOkH .any ops r (l.setIfInBounds i true)) = true := hok
      obtain ⟨h1, h2⟩ := Bool.and_eq_true_iff.1 hok
      have hr : Region.ready .any ops l = [i] := eq_of_beq h1
      refine wpAnyH_ready hr (by simp) (AllReadyH.cons ho (fun K' hK => ?_) AllReadyH.nil)
      exact h K' (fun a w hS' hW => hK.out a w hS' (fun hS'' => any_of_planH hs r _ _ w h2 hS'' (hW hS'')))
    · replace hok : (false && planOkH .any ops r (l.setIfInBounds i true)) = true := hok
      simp at hok
    · replace hok : ((Region.free .any ops l i && (Region.ready .any ops l).contains i) && planOkH .any ops r (l.setIfInBounds i true)) = true := hok
      obtain ⟨h1, h2⟩ := Bool.and_eq_true_iff.1 hok
      obtain ⟨e2, e3⟩ := Bool.and_eq_true_iff.1 h1
      obtain ⟨q1, q2, q4⟩ := h
      exact wpAnyH_take (v := undef) ho hs e2 e3 q1 (.inr ⟨q2, rfl⟩) hS (any_of_planH hs r _ _ w h2 hS q4)
    · replace hok : (false && planOkH .any ops r (l.setIfInBounds i true)) = true := hok
      simp at hok
theorem regionH {id : Nat} {a : Act} {w : World} (S : World → Prop) (plan : List (Nat × Nat)) (hm : P.follows .mixedOrders = true) (hs : Region.noSelect ops = true) (hl : plan.length = ops.size) (hok : planOkH .any ops plan (Array.replicate ops.size false) = true)
    (hS : S w.drew) (h : wpPlan P ops Q S plan a w.drew) : (Code.region id ops true).wp P Q a w := by
  refine wp_region_held_drew hm hS fun hS' => ?_
  rw [← hl]
  rw [← hl] at hok
  exact any_of_planH hs plan _ a _ hok hS' h
end
end Go.Proofs.YtbjekebkgidhaaaGreatDoor.RegP
end
section
set_option linter.unusedSimpArgs false
set_option linter.unusedVariables false
namespace Go.Proofs.YtbjekebkgidhaaaGreatDoor.Mf
open Go.RowKit Go.Lib Go.Shelf Go.Proofs.YtbjekebkgidhaaaGreatDoorW.PrintWords Go.Proofs.YtbjekebkgidhaaaGreatDoor.U Go.Proofs.YtbjekebkgidhaaaGreatDoor.Sc Go.Proofs.YtbjekebkgidhaaaGreatDoor.P Go.Proofs.YtbjekebkgidhaaaGreatDoor.MapV
abbrev strs (l : List Txt) : List Value := l.map fun t => Value.string (B t)
theorem reps_str2 {R : ByteArray → List Value → Prop} (hR : ∀ x c, R x c → c = [Value.string x]) : ∀ (ps : List ByteArray) (cs : List Value), Reps R 1 ps cs → cs = ps.map Value.string := by
  intro ps cs h
  refine List.ext_getElem? fun j => ?_
  have hl := h.1
  rw [Nat.mul_one] at hl
  by_cases hj : j < ps.length
  · have h1 := hR _ _ (h.2 j _ (List.getElem?_eq_getElem hj))
    rw [Nat.mul_one] at h1
    have h2 : ((cs.drop j).take 1)[0]? = some (.string ps[j]) := by rw [h1]; rfl
    rw [List.getElem?_take_of_lt (by omega), List.getElem?_drop, Nat.add_zero] at h2
    rw [h2, List.getElem?_map, List.getElem?_eq_getElem hj]; rfl
  · rw [List.getElem?_eq_none (by omega), List.getElem?_eq_none (by simp; omega)]
theorem R_of_strs {w : World} {base : Nat} {v : Value} {l : List Txt} (h : w.ownsRow base 9 1 v l.length (strs l)) : Kd.R Kd.string 9 w base (fun _ => True) v (l.map B) :=
  Kd.R_of_own (enc := Value.string) (by simpa [encs, Function.comp_def] using h) (fun _ _ => trivial)
theorem strs_of_R {w : World} {base : Nat} {v : Value} {l : List Txt} (h : Kd.R Kd.string 9 w base (fun _ => True) v (l.map B)) : w.ownsRow base 9 1 v l.length (strs l) := by
  obtain ⟨_, inner, hown, hreps⟩ := h
  have hin := reps_str2 (fun _ _ h => h) _ _ hreps
  rw [hin, List.length_map, List.map_map] at hown
  exact hown
theorem own_slice {w : World} {base : Nat} {v : Value} {l : List Txt} (h : w.ownsRow base 9 1 v l.length (strs l)) :
    ∃ A c, v = .slice A l.length c ∧ l.length ≤ c ∧ Kd.C Kd.string w A l.length (l.map B) := by
  have hR := R_of_strs h
  obtain ⟨A, c, e⟩ := Kd.R_slice hR
  subst e
  have h1 := Kd.R_reads' hR
  refine ⟨A, c, by rw [List.length_map], by have := h1.2.1; simpa using this, ?_⟩
  have := h1.2.2
  simpa using this
section
variable {P : Program} {ops : Array Oper} {o : Oper} {a : Act} {Q : Exit → Act → World → Prop} {Kc : Act → World → Prop}
theorem step_strs {w0 W : World} (base : Nat) (hw : Region.wanted o (yielded ops a.tmps) = true) (s x : Operand)
    (ho : o.op = .call { callee := .builtin .append, args := #[s, x], argTypes := #[23, 23] })
    (v : Value) (xs ys : List Txt) (A : Option Addr) (c : Nat) (hs : a.eval s = v) (hx : a.eval x = .slice A ys.length c)
    (HO : W.ownsRow base 9 1 v xs.length (strs xs)) (HR : Kd.C Kd.string W A ys.length (ys.map B)) (HB : Below base w0 W) (hbase : base ≤ W.heap.size) (hl : (xs.length + ys.length) * 16 ≤ 140737488355328)
    (h : ∀ v1 w1, w1.ownsRow base 9 1 v1 (xs ++ ys).length (strs (xs ++ ys)) → Below base w0 w1 → W.grownBy w1 v.ownBlock → (v1.ownBlock = v.ownBlock ∨ ∃ b, v1.ownBlock = some b ∧ W.heap.size ≤ b) → Kc (a.put o.dst v1) w1) :
    if Region.wanted o (yielded ops a.tmps) = true then Oper.wp Tryz.prog o a W Kc Q else Kc (a.put o.dst undef) W := by
  refine Kd.R_append_rows_step Kd.string (w0 := w0) base hw s x 23 9 (.string ⟨#[]⟩) 16 ho Tryz.underlying23 infoStr rfl (by decide) (by decide) v (xs.map B) (ys.map B) A ys.length c (fun _ => True) (fun _ => False) hs hx (R_of_strs HO) HR (fun _ _ h => h) (fun _ h => h.elim) (fun _ _ => trivial) HB hbase (by rw [List.length_map]; exact hl) ?_
  intro v1 w1 hR hb hg ha
  exact h v1 w1 (strs_of_R (by rw [List.map_append]; exact hR)) hb hg ha
end
theorem Inv.defs {B0 : Nat} {w w1 : World} {g : Mem} {st : St} (h : Inv B0 w g st) (v1 : Value) (d : List Txt) (hd : (st.defs ++ d).length ≤ 400000000)
    (ho : w1.ownsRow B0 9 1 v1 (st.defs ++ d).length (strs (st.defs ++ d))) (hg : w.grownBy w1 g.vd.ownBlock) (ha : v1.ownBlock = g.vd.ownBlock ∨ ∃ b, v1.ownBlock = some b ∧ w.heap.size ≤ b) :
    ∃ g', Inv B0 (w1.setCell ⟨g.r, 3, none⟩ v1) g' { st with defs := st.defs ++ d } ∧ g'.r = g.r ∧ g'.n = g.n ∧ w1.cell? ⟨g.r, 3, none⟩ = some g.vd ∧ w1.frozen? ⟨g.r, 3, none⟩ = false := by
  have hrb : ∀ b, g.vd.ownBlock = some b → b < w.heap.size := fun b hb => own_lt h.od b hb
  let g' : Mem := { g with vd := v1, role := fun b => if b < w.heap.size then g.role b else if v1.ownBlock = some b then .drow else .still }
  have hrl : ∀ b, b < w.heap.size → g'.role b = g.role b := fun b hb => by show (if b < w.heap.size then _ else _) = _; rw [if_pos hb]
  have hne : some g.r ≠ g.vd.ownBlock := fun e => by have := h.rod g.r e.symm; rw [h.rr] at this; cases this
  have hr1 : w1.heap[g.r]? = some (.cells #[at0 g.fb, .map (some g.rm), g.ve, g.vd, .int .i64 (g.line : Int), g.vi, g.vo] 70 (0, 0)) := (hg.block _ (lt_blk h.hr) hne).trans h.hr
  have k : Grow st.rules.length st.edges.length (fun r => r = .reader ∨ r = .drow) w (w1.setCell ⟨g.r, 3, none⟩ v1) g g' := by
    refine ⟨by rw [World.size_setCell]; exact hg.size, fun b hb hx => ?_, hrl, rfl, fun _ _ => ⟨rfl, rfl⟩, fun _ _ => ⟨rfl, rfl, rfl, rfl, rfl, rfl, rfl⟩, Nat.le_refl _⟩
    have h1 : b ≠ g.r := fun e => hx (.inl (by rw [e]; exact h.rr))
    rw [Below.heap_setCell _ _ _ b h1]
    refine hg.block b hb (fun e => hx (.inr (h.rod b e.symm)))
  have hsz : v1.ownBlock ≠ some g.r := by
    intro e
    rcases ha with ha | ⟨b, hb, hb2⟩
    · exact hne (by rw [← ha, e])
    · rw [hb] at e
      injection e with e
      have := lt_blk h.hr
      omega
  refine ⟨g', ⟨?_, ?_, ?_, ?_, ?_, k.blk h.hf h.rf (by simp), ?_, k.mapM h.mf h.rfm (by simp), h.sf, ?_, k.mapV h.mr h.rrm (by simp), fun i hi => (h.rules i hi).grow k hi (by simp) (by simp), fun j hj => (h.edges j hj).grow k hj (Nat.le_refl _) (by simp) (by simp) (by simp), h.ne,
    k.row h.oe h.roe (by simp), k.rolev h.oe h.roe, ?_, ?_, hd, h.inn.grow k (by simp) rfl rfl rfl⟩, rfl, rfl, by rw [cell_of_heap hr1]; rfl, frozen_of_heap hr1 3⟩
  · rw [World.size_setCell]; exact Nat.le_trans h.base hg.size
  · intro b hb
    by_cases hlt : b < w.heap.size
    · rw [hrl b hlt] at hb; exact h.new b hb
    · have := h.base; omega
  · rw [hrl _ (lt_blk h.hr)]; exact h.rr
  · exact blk_put hr1 3 v1 rfl
  · exact k.roleb h.hf h.rf
  · exact (k.role _ h.mf.lt).trans h.rfm
  · exact (k.role _ h.mr.lt).trans h.rrm
  · exact own_move ho fun b hb => Below.heap_setCell _ _ _ b (fun e => hsz (by rw [hb, e]))
  · intro b hb
    rcases ha with ha | ⟨b', hb', hb2⟩
    · have hb3 : g.vd.ownBlock = some b := by rw [← ha]; exact hb
      rw [hrl b (hrb b hb3)]; exact h.rod b hb3
    · have : b = b' := by rw [show v1.ownBlock = some b from hb] at hb'; injection hb'
      subst this
      show (if b < w.heap.size then _ else _) = _
      rw [if_neg (by omega), if_pos hb]
set_option maxRecDepth 100000 in
set_option maxHeartbeats 8000000 in
theorem targets_any (B0 : Nat) (g : Mem) (st : St) (A : Option Addr) (c : Nat) (ws : List Txt) (w : World) (hI : Inv B0 w g st) (hin : st.inner = 0)
    (hW : Kd.C Kd.string w A ws.length (ws.map B)) (hc : ws.length ≤ c) (hn : ws.length ≤ 20000) (hl : ∀ t ∈ ws, t.length < 1000000000) (hd : st.defs.length ≤ 300000000) :
    Calls Tryz.prog 45 #[at0 g.r, .slice A ws.length c] w (Steps B0 g (targetsE st g.line ws) w) := by
  have hg0 := hI.new g.r (by rw [hI.rr]; decide)
  by_cases h2 : ws.length < 2
  · have hR : Hid (targetsE st g.line ws = .error (g.line, 10)) := by
      show _ = _
      cases ws with
      | nil => rfl
      | cons x r => cases r with
        | nil => rfl
        | cons y r => simp at h2; omega
    have hlt : decide ((1 : Int) < (ws.length : Int)) = false := by rw [decide_eq_false_iff_not]; omega
    have hrd := Lib.hid hI.rd
    clear hI hW
    generalize ws.length = n at *
    go_enter Tryz.func45, Tryz.ntmps45
    go_wp2_with fail
    refine (need_no g.r g.line 10 _ hrd.out.c4).mono ?_
    rintro e w1 ⟨rfl, rfl⟩
    exact ⟨rfl, Steps.bad hR.out (Below.refl _ _)⟩
  · obtain ⟨ad, hA, hq0⟩ := str_at hW 0 (by omega)
    subst hA
    clear hq0
    have hT : targetsE st g.line ws = match pathsE g.line st.file [] ws.tail with | .error e => .error e | .ok d => .ok { st with defs := st.defs ++ d } := by
      cases ws with
      | nil => simp at h2
      | cons x r => cases r with
        | nil => simp at h2
        | cons y r => rfl
    have hD := C_drop hW 1
    rw [List.drop_one] at hD
    have htl : ws.tail.length = ws.length - 1 := List.length_tail
    rw [← htl] at hD
    have hP : Hid (∀ (A' : Option Addr) (c' : Nat) (W : World), A' = some (ad.add 1) → Below w.heap.size w W → Calls Tryz.prog 75 #[at0 g.r, .slice A' ws.tail.length c'] W (GivesL (pathsE g.line st.file [] ws.tail) W)) := by
      intro A' c' W hA hb
      subst hA
      exact paths_any g.r g.line ⟨g.fb, g.fm, g.n, st.file⟩ (at0 g.fb) (some (ad.add 1)) c' ws.tail W (hI.rd.below hb) hI.getL (Kd.C_below hD hb) (by omega) (fun t ht => hl t (List.mem_of_mem_tail ht))
    have hadd : Hid (∀ x : Option Addr, x = some ⟨ad.block, ad.off + 1, none⟩ → x = some (ad.add 1)) := by
      intro x hx; rw [hx]; rfl
    have hlt : decide ((1 : Int) < (ws.length : Int)) = true := by rw [decide_eq_true_iff]; omega
    have hc1 : ¬ c = 1 := by omega
    have c3 : w.cell? ⟨g.r, 3, none⟩ = some g.vd := hI.cell 3
    have f3 := hI.free 3
    have hrl := lt_blk hI.hr
    have hH := Lib.hid hI
    have hTH := Lib.hid hT
    have htn : ws.length - 1 = ws.tail.length := htl.symm
    clear hI hT hW hD hl htl
    cases hp : pathsE g.line st.file [] ws.tail with
    | error er =>
      obtain ⟨l1, c1⟩ := er
      rw [hp] at hP hTH
      have hR : Hid (targetsE st g.line ws = .error (l1, c1)) := hTH.out
      clear hTH hp
      generalize ws.tail = tl at *
      generalize ws.length = n at *
      have h1n : (1 : Int) ≤ (n : Int) := by omega
      have hnc : (n : Int) ≤ (c : Int) := by omega
      go_enter Tryz.func45, Tryz.ntmps45
      go_wp2_with fail
      refine (need_ok _ _ _).mono ?_
      rintro e w1 ⟨rfl, rfl⟩
      go_wp2_with fail
      refine RegP.region (fun w' => w'.cell? ⟨g.r, 3, none⟩ = some g.vd) 9 [(0, 0), (0, 1), (0, 2), (0, 3), (1, 4), (0, 5), (0, 6), (0, 7), (2, 8), (3, 9), (0, 10), (0, 11), (3, 12)] (by kernel_rfl) (by kernel_rfl) (by rfl) (by kernel_rfl) (by go_keep) ?_
      refine RegP.pure1 (by (simp only [gA,gB,gC]); rfl) (by exact fun _ _ _ h => h) (by rfl) (by intro w'; go_simp; try with_reducible rfl) ?_
      try simp only [Act.put, pA,pB,pC]
      refine RegP.pure1 (by (simp only [gA,gB,gC]); rfl) (by exact fun _ _ _ h => h) (by rfl) (by intro w'; go_simp; try with_reducible rfl) ?_
      try simp only [Act.put, pA,pB,pC]
      refine RegP.pure1 (by (simp only [gA,gB,gC]); rfl) (by exact fun _ _ _ h => h) (by rfl) (by intro w'; go_simp; try with_reducible rfl) ?_
      try simp only [Act.put, pA,pB,pC]
      refine RegP.pure1 (by (simp only [gA,gB,gC]); rfl) (by exact fun _ _ _ h => h) (by rfl) (by intro w'; go_simp; try with_reducible rfl) ?_
      try simp only [Act.put, pA,pB,pC]
      refine RegP.held1 (by (simp only [gA,gB,gC]); rfl) (by exact fun _ _ _ h => h) (by rfl) (by intro w' hS_; (try dsimp only at hS_); go_split_ands; go_simp; try with_reducible rfl) ?_
      try simp only [Act.put, pA,pB,pC]
      refine RegP.pure1 (by (simp only [gA,gB,gC]); rfl) (by exact fun _ _ _ h => h) (by rfl) (by intro w'; go_simp; try with_reducible rfl) ?_
      try simp only [Act.put, pA,pB,pC]
      refine RegP.pure1 (by (simp only [gA,gB,gC]); rfl) (by exact fun _ _ _ h => h) (by rfl) (by intro w'; go_simp; try with_reducible rfl) ?_
      try simp only [Act.put, pA,pB,pC]
      refine RegP.pure1 (by (simp only [gA,gB,gC]); rfl) (by exact fun _ _ _ h => h) (by rfl) (by intro w'; go_simp; try with_reducible rfl) ?_
      try simp only [Act.put, pA,pB,pC]
      refine RegP.ev1 (by (simp only [gA,gB,gC]); rfl) (fun K hK => ?_)
      go_simp
      refine (hP.out _ _ _ (hadd.out _ rfl) (Below.refl _ _).drew).mono ?_
      rintro e w2 ⟨rfl, hb⟩
      exact ⟨rfl, Steps.bad hR.out ((((Below.refl _ _).drew).trans hb).mono hH.out.base)⟩
    | ok d =>
      rw [hp] at hP hTH
      have hdl : d.length ≤ 20000 := by
        have := pathsE_len _ _ _ _ _ hp
        rw [List.length_tail, List.length_nil] at this; omega
      have hR : Hid (targetsE st g.line ws = .ok { st with defs := st.defs ++ d }) := hTH.out
      clear hTH hp
      generalize ws.tail = tl at *
      generalize ws.length = n at *
      have h1n : (1 : Int) ≤ (n : Int) := by omega
      have hnc : (n : Int) ≤ (c : Int) := by omega
      go_enter Tryz.func45, Tryz.ntmps45
      go_wp2_with fail
      refine (need_ok _ _ _).mono ?_
      rintro e w1 ⟨rfl, rfl⟩
      go_wp2_with fail
      refine RegP.region (fun w' => w'.cell? ⟨g.r, 3, none⟩ = some g.vd) 9 [(0, 0), (0, 1), (0, 2), (0, 3), (1, 4), (0, 5), (0, 6), (0, 7), (2, 8), (3, 9), (0, 10), (0, 11), (3, 12)] (by kernel_rfl) (by kernel_rfl) (by rfl) (by kernel_rfl) (by go_keep) ?_
      refine RegP.pure1 (by (simp only [gA,gB,gC]); rfl) (by exact fun _ _ _ h => h) (by rfl) (by intro w'; go_simp; try with_reducible rfl) ?_
      try simp only [Act.put, pA,pB,pC]
      refine RegP.pure1 (by (simp only [gA,gB,gC]); rfl) (by exact fun _ _ _ h => h) (by rfl) (by intro w'; go_simp; try with_reducible rfl) ?_
      try simp only [Act.put, pA,pB,pC]
      refine RegP.pure1 (by (simp only [gA,gB,gC]); rfl) (by exact fun _ _ _ h => h) (by rfl) (by intro w'; go_simp; try with_reducible rfl) ?_
      try simp only [Act.put, pA,pB,pC]
      refine RegP.pure1 (by (simp only [gA,gB,gC]); rfl) (by exact fun _ _ _ h => h) (by rfl) (by intro w'; go_simp; try with_reducible rfl) ?_
      try simp only [Act.put, pA,pB,pC]
      refine RegP.held1 (by (simp only [gA,gB,gC]); rfl) (by exact fun _ _ _ h => h) (by rfl) (by intro w' hS_; (try dsimp only at hS_); go_split_ands; go_simp; try with_reducible rfl) ?_
      try simp only [Act.put, pA,pB,pC]
      refine RegP.pure1 (by (simp only [gA,gB,gC]); rfl) (by exact fun _ _ _ h => h) (by rfl) (by intro w'; go_simp; try with_reducible rfl) ?_
      try simp only [Act.put, pA,pB,pC]
      refine RegP.pure1 (by (simp only [gA,gB,gC]); rfl) (by exact fun _ _ _ h => h) (by rfl) (by intro w'; go_simp; try with_reducible rfl) ?_
      try simp only [Act.put, pA,pB,pC]
      refine RegP.pure1 (by (simp only [gA,gB,gC]); rfl) (by exact fun _ _ _ h => h) (by rfl) (by intro w'; go_simp; try with_reducible rfl) ?_
      try simp only [Act.put, pA,pB,pC]
      refine RegP.ev1 (by (simp only [gA,gB,gC]); rfl) (fun K hK => ?_)
      go_simp
      refine (hP.out _ _ _ (hadd.out _ rfl) (Below.refl _ _).drew).mono ?_
      rintro e w2 ⟨v2, rfl, ho2, hb2⟩
      have hB2 := Lib.hid ((((Below.refl _ w).drew).trans hb2))
      have hI2 := Lib.hid (hH.out.below hB2.out)
      have c32 : w2.cell? ⟨g.r, 3, none⟩ = some g.vd := hI2.out.cell 3
      have f32 := hI2.out.free 3
      obtain ⟨A2, cp2, rfl, hl2, hC2⟩ := own_slice ho2
      have hC2H := Lib.hid hC2
      clear ho2 hb2 hC2 c3 f3
      refine hK.out _ _ ?_ (fun hHeld => ?_)
      · (try dsimp only); go_keep
      clear hK K
      try simp only [Act.put, pA,pB,pC]
      refine RegP.last1 (by (simp only [gA,gB,gC]); rfl) (fun K hK => ?_)
      refine step_strs (w0 := w) B0 rfl _ _ rfl g.vd st.defs d A2 cp2 rfl rfl hI2.out.od hC2H.out (hB2.out.mono hH.out.base) (Nat.le_trans hH.out.base hB2.out.size) (by omega) ?_
      intro v3 w3 ho3 hb3 hg3 ha3
      obtain ⟨A3, cp3, hv3, _, _⟩ := own_slice ho3
      rw [List.length_append] at hv3
      subst hv3
      obtain ⟨g', q1, q2, q3, q4, q5⟩ := hI2.out.defs _ d (by rw [List.length_append]; omega) ho3 hg3 ha3
      have hq1 := Lib.hid q1
      have hb3' := Lib.hid hb3
      have c33 := q4
      have f33 := q5
      clear ho3 hb3 hg3 ha3 q1 q4 q5 c32 f32
      refine hK.out _ _ ?_
      clear hK K
      try simp only [Act.put, pA,pB,pC]
      refine RegP.pure1 (by (simp only [gA,gB,gC]); rfl) (by exact fun _ _ _ h => h) (by rfl) (by intro w'; go_simp; try with_reducible rfl) ?_
      try simp only [Act.put, pA,pB,pC]
      refine RegP.pure1 (by (simp only [gA,gB,gC]); rfl) (by exact fun _ _ _ h => h) (by rfl) (by intro w'; go_simp; try with_reducible rfl) ?_
      try simp only [Act.put, pA,pB,pC]
      refine RegP.last1 (by (simp only [gA,gB,gC]); rfl) (fun K hK => ?_)
      go_simp
      refine hK.out _ _ ?_
      clear hK K
      try simp only [Act.put, pA,pB,pC]
      show _
      go_end0
      exact Steps.fin hR.out hq1.out q2 (by omega) (hb3'.out.setCell hg0 _)
end Go.Proofs.YtbjekebkgidhaaaGreatDoor.Mf
end
section
set_option linter.unusedSimpArgs false
set_option linter.unusedVariables false
namespace Go.Proofs.YtbjekebkgidhaaaGreatDoor.Mf
open Go.RowKit Go.Lib Go.Shelf Go.Maps Go.Proofs.YtbjekebkgidhaaaGreatDoorW.PrintWords Go.Proofs.YtbjekebkgidhaaaGreatDoor.U Go.Proofs.YtbjekebkgidhaaaGreatDoor.Sc Go.Proofs.YtbjekebkgidhaaaGreatDoor.P Go.Proofs.YtbjekebkgidhaaaGreatDoor.MapV
theorem ruleAt_lt {rs : List RuleS} {k : Txt} {i : Nat} (h : ruleAt rs k = some i) : i < rs.length := by
  unfold ruleAt at h
  exact (List.findIdx?_eq_some_iff_getElem.1 h).1
theorem ruleAt_new {rs : List RuleS} {nm : Txt} (h : ruleAt rs nm = none) (r : RuleS) (hr : r.name = nm) (k : Txt) : ruleAt (rs ++ [r]) k = if k = nm then some rs.length else ruleAt rs k := by
  unfold ruleAt at h ⊢
  rw [List.findIdx?_append]
  by_cases hk : k = nm
  · subst hk
    rw [h, if_pos rfl]
    simp [List.findIdx?_cons, hr]
  · rw [if_neg hk]
    have : [r].findIdx? (fun x => x.name == k) = none := by
      simp [List.findIdx?_cons, hr, Ne.symm hk]
    rw [this]
    cases rs.findIdx? (fun x => x.name == k) <;> rfl
theorem Inv.ruleNew {B0 : Nat} {w w2 : World} {g : Mem} {st : St} (h : Inv B0 w g st) (nm : Txt) (hnm : nameL nm = true) (hno : ruleAt st.rules nm = none) (tm rbn p q : Nat)
    (ht : w.heap.size ≤ tm) (hrb : w.heap.size ≤ rbn) (hp : w.heap.size ≤ p) (hq : w.heap.size ≤ q) (hs : w.heap.size ≤ w2.heap.size)
    (hk : ∀ b, b < w.heap.size → b ≠ g.rm → w2.heap[b]? = w.heap[b]?)
    (c1 : w2.heap[rbn]? = some (.cells #[.map (some tm), .int .i64 (g.line : Int)] 101 (0, 0))) (c2 : OwnsM w2 tm 0 none0)
    (c3 : w2.heap[p]? = some (.cells #[at0 g.r] 62 (0, 0))) (c4 : w2.heap[q]? = some (.cells #[at0 rbn] 68 (0, 0)))
    (c5 : OwnsV w2 g.rm (g.n + 1) (updV (fun k => (ruleAt st.rules k).map fun i => at0 (g.rb i)) nm (at0 rbn))) :
    ∃ g', Inv B0 ((w2.setCell ⟨g.r, 6, none⟩ (at0 rbn)).setCell ⟨g.r, 5, none⟩ (.func (.func 72) #[] #[at0 p, at0 q])) g' { st with rules := st.rules ++ [⟨nm, none0, g.line⟩], inner := 1 } ∧ g'.r = g.r ∧ g'.n = g.n + 1 := by
  have hmc : ∀ b (cs : Array Value) t fr, w2.heap[b]? = some (.cells cs t fr) → b ≠ tm := by
    intro b cs t fr hb e
    subst e
    obtain ⟨D, ⟨es, clock, hm, _⟩, _⟩ := c2
    rw [hm] at hb; cases hb
  let nr := st.rules.length
  let vi : Value := .func (.func 72) #[] #[at0 p, at0 q]
  let g' : Mem := { g with rb := fun i => if i < nr then g.rb i else rbn, tb := fun i => if i < nr then g.tb i else tm, role := fun b => if b < w.heap.size then g.role b else if b = tm then .tmap nr else .still, vi := vi, vo := at0 rbn, n := g.n + 1 }
  have hrl : ∀ b, b < w.heap.size → g'.role b = g.role b := fun b hb => by show (if b < w.heap.size then _ else _) = _; rw [if_pos hb]
  have hst : ∀ b, w.heap.size ≤ b → b ≠ tm → g'.role b = .still := fun b hb hne => by show (if b < w.heap.size then _ else if b = tm then _ else _) = _; rw [if_neg (by omega), if_neg hne]
  have hrb' : ∀ i, i < nr → g'.rb i = g.rb i := fun i hi => by show (if i < nr then _ else _) = _; rw [if_pos hi]
  have htb' : ∀ i, i < nr → g'.tb i = g.tb i := fun i hi => by show (if i < nr then _ else _) = _; rw [if_pos hi]
  have hrbn : g'.rb nr = rbn := by show (if nr < nr then _ else _) = _; rw [if_neg (by omega)]
  have htbn : g'.tb nr = tm := by show (if nr < nr then _ else _) = _; rw [if_neg (by omega)]
  have hner : g.r ≠ g.rm := fun e => by have h1 := h.rr; rw [e, h.rrm] at h1; cases h1
  have hr2 := (hk _ (lt_blk h.hr) hner).trans h.hr
  have w3e : ∀ b, b ≠ g.r → ((w2.setCell ⟨g.r, 6, none⟩ (at0 rbn)).setCell ⟨g.r, 5, none⟩ vi).heap[b]? = w2.heap[b]? := fun b hb => by
    rw [Below.heap_setCell _ _ _ b hb, Below.heap_setCell _ _ _ b hb]
  have hnr : ∀ b, w.heap.size ≤ b → b ≠ g.r := fun b hb e => by have := lt_blk h.hr; omega
  have hr3 : ((w2.setCell ⟨g.r, 6, none⟩ (at0 rbn)).setCell ⟨g.r, 5, none⟩ vi).heap[g.r]? = some (.cells #[at0 g.fb, .map (some g.rm), g.ve, g.vd, .int .i64 (g.line : Int), vi, at0 rbn] 70 (0, 0)) :=
    blk_put (blk_put hr2 6 (at0 rbn) rfl) 5 vi rfl
  have k : Grow nr st.edges.length (fun r => r = .reader ∨ r = .rmap) w ((w2.setCell ⟨g.r, 6, none⟩ (at0 rbn)).setCell ⟨g.r, 5, none⟩ vi) g g' := by
    refine ⟨by rw [World.size_setCell, World.size_setCell]; exact hs, fun b hb hx => ?_, hrl, rfl, fun i hi => ⟨hrb' i hi, htb' i hi⟩, fun _ _ => ⟨rfl, rfl, rfl, rfl, rfl, rfl, rfl⟩, Nat.le_succ _⟩
    rw [w3e b (fun e => hx (.inl (by rw [e]; exact h.rr)))]
    exact hk b hb (fun e => hx (.inr (by rw [e]; exact h.rrm)))
  have hrmlt := h.mr.lt
  refine ⟨g', ⟨?_, ?_, ?_, hr3, k.roleb h.hf h.rf, k.blk h.hf h.rf (by simp), (k.role _ h.mf.lt).trans h.rfm, (k.mapM h.mf h.rfm (by simp)).mono (Nat.le_succ _), h.sf, (k.role _ hrmlt).trans h.rrm, ?_, ?_, ?_, h.ne, k.row h.oe h.roe (by simp), k.rolev h.oe h.roe, k.row h.od h.rod (by simp), k.rolev h.od h.rod, h.nd, ?_⟩, rfl, rfl⟩
  · rw [World.size_setCell, World.size_setCell]; exact Nat.le_trans h.base hs
  · intro b hb
    by_cases hlt : b < w.heap.size
    · rw [hrl b hlt] at hb; exact h.new b hb
    · have := h.base; omega
  · rw [hrl _ (lt_blk h.hr)]; exact h.rr
  · have c5' := c5.same (w3e g.rm (Ne.symm hner))
    have : (fun k => (ruleAt (st.rules ++ [⟨nm, none0, g.line⟩]) k).map fun i => at0 (g'.rb i)) = updV (fun k => (ruleAt st.rules k).map fun i => at0 (g.rb i)) nm (at0 rbn) := by
      funext x
      rw [ruleAt_new hno _ rfl, updV]
      by_cases hx : x = nm
      · rw [if_pos hx, if_pos hx]; show some (at0 (g'.rb nr)) = _; rw [hrbn]
      · rw [if_neg hx, if_neg hx]
        cases hra : ruleAt st.rules x with
        | none => rfl
        | some i => show some (at0 (g'.rb i)) = some (at0 (g.rb i)); rw [hrb' i (ruleAt_lt hra)]
    rw [this]; exact c5'
  · intro i hi
    rw [List.length_append, List.length_cons, List.length_nil] at hi
    by_cases hlt : i < nr
    · rw [List.getElem_append_left hlt]
      exact (h.rules i hlt).grow k hlt (by simp) (by simp)
    · obtain rfl : i = nr := by omega
      rw [List.getElem_append_right (Nat.le_refl _)]
      simp only [Nat.sub_self, List.getElem_cons_zero]
      refine ⟨?_, ?_, ?_, ?_, hnm, Short.none0 _⟩
      · rw [hrbn]; exact hst _ hrb (hmc _ _ _ _ c1)
      · rw [htbn]; show (if tm < w.heap.size then _ else if tm = tm then _ else _) = _; rw [if_neg (by omega), if_pos rfl]
      · rw [hrbn, htbn, w3e _ (hnr _ hrb)]; exact c1
      · rw [htbn]; exact (c2.same (w3e _ (hnr _ ht))).mono (Nat.zero_le _)
  · intro j hj
    exact (h.edges j hj).grow k hj (by rw [List.length_append]; omega) (by simp) (by simp) (by simp)
  · refine .inr (.inl ⟨rfl, by rw [List.length_append]; simp, ?_, p, q, rfl, hst _ hp (hmc _ _ _ _ c3), hst _ hq (hmc _ _ _ _ c4), ?_, ?_⟩)
    · rw [List.length_append, List.length_cons, List.length_nil, Nat.add_sub_cancel]; show at0 rbn = at0 (g'.rb nr); rw [hrbn]
    · rw [w3e _ (hnr _ hp)]; exact c3
    · rw [List.length_append, List.length_cons, List.length_nil, Nat.add_sub_cancel, w3e _ (hnr _ hq)]; show _ = some (Obj.cells #[at0 (g'.rb nr)] _ _); rw [hrbn]; exact c4
set_option maxRecDepth 100000 in
set_option maxHeartbeats 8000000 in
theorem rule_any (B0 : Nat) (g : Mem) (st : St) (A : Option Addr) (c : Nat) (ws : List Txt) (w : World) (hI : Inv B0 w g st) (hin : st.inner = 0)
    (hW : Kd.C Kd.string w A ws.length (ws.map B)) (hc : ws.length ≤ c) (hl : ∀ t ∈ ws, t.length ≤ 1000000) (hgn : g.n < 1000000) (hwl : ws.length ≤ 1000000) :
    Calls Tryz.prog 43 #[at0 g.r, .slice A ws.length c] w (Steps B0 g (ruleE st g.line ws) w) := by
  have hg0 := hI.new g.r (by rw [hI.rr]; decide)
  have hB0 := hI.base
  have hBox := Lib.hid ((Below.refl w.heap.size w).alloc (Nat.le_refl _) (.cells #[at0 g.r] 62))
  have hCell : Hid ((w.alloc (.cells #[at0 g.r] 62)).heap[w.heap.size]? = some (.cells #[at0 g.r] 62 (0, 0))) := heap_alloc_new w _
  have hI0 := Lib.hid (hI.below hBox.out)
  have hrd := hI.rd
  by_cases h2 : ws.length = 2
  · obtain ⟨x, nm, rfl⟩ : ∃ x nm, ws = [x, nm] := by
      rcases ws with _ | ⟨x, _ | ⟨y, _ | ⟨z, r⟩⟩⟩
      · simp at h2
      · simp at h2
      · exact ⟨x, y, rfl⟩
      · simp at h2
    obtain ⟨ad, hA, hq1⟩ := str_at hW 1 (by simp)
    subst hA
    have hq1' : w.cell? ⟨ad.block, ad.off + 1, none⟩ = some (.string (B nm)) := hq1
    have hnl : nm.length ≤ 1000000 := hl nm (by simp)
    have hc' : 2 ≤ c := hc
    have hN := Lib.hid (fun W => Name_any nm W)
    have hR0 : ruleE st g.line [x, nm] = if nameL nm = true ∧ ruleAt st.rules nm = none then .ok { st with rules := st.rules ++ [⟨nm, none0, g.line⟩], inner := 1 } else .error (g.line, 10) := rfl
    have hz57 : ∀ w : World, (zeroValue 68).run Tryz.prog w = .ok (.pointer none) w := fun w => by kernel_rfl
    have hSB : Hid (∀ W, Below w.heap.size w W → W.cell? ⟨ad.block, ad.off + 1, none⟩ = some (.string (B nm)) ∧ W.cell? ⟨g.r, 1, none⟩ = some (.map (some g.rm)) ∧
        (Instr.lookup 65 (.map (some g.rm)) (.string (B nm)) false).run Tryz.prog W = .ok (((ruleAt st.rules nm).map fun i => at0 (g.rb i)).getD (.pointer none)) W) := by
      intro W hb
      refine ⟨(hb.cell (World.block_lt_of_cell? w _ hq1')).trans hq1', (hI.below hb).cell 1, ?_⟩
      exact (hI.below hb).mr.look Tryz.underlying65 (hz57 W) nm (by unfold maxLen; omega)
    have hL2 : ([x, nm] : List Txt).length = 2 := rfl
    rw [hL2]
    clear hl hc h2 hwl hW hq1 hL2 hq1'
    cases hnm : nameL nm with
    | false =>
      have hR : Hid (ruleE st g.line [x, nm] = .error (g.line, 10)) := by show _ = _; rw [hR0, if_neg (by rw [hnm]; simp)]
      rw [hnm] at hN
      clear hR0 hnm hI
      have hi1 : (1 : Int) < 2 := by decide
      go_enter Tryz.func43, Tryz.ntmps43
      go_wp2_with fail
      generalize w.alloc (.cells #[at0 g.r] 62) = w0 at *
      have hc0 := (cell_of_heap (j := 0) hCell.out).trans rfl
      have hS0 : Hid (∀ W, Below w0.heap.size w0 W → W.cell? ⟨w.heap.size, 0, none⟩ = some (at0 g.r) ∧ W.cell? ⟨ad.block, ad.off + 1, none⟩ = some (.string (B nm)) ∧ W.cell? ⟨g.r, 1, none⟩ = some (.map (some g.rm)) ∧
          (Instr.lookup 65 (.map (some g.rm)) (.string (B nm)) false).run Tryz.prog W = .ok (((ruleAt st.rules nm).map fun i => at0 (g.rb i)).getD (.pointer none)) W) :=
        fun W hb => ⟨(hb.cell (World.block_lt_of_cell? w0 _ hc0)).trans hc0, hSB.out W (hBox.out.trans (hb.mono hBox.out.size))⟩
      refine RegP.regionH (fun w' => w'.cell? ⟨w.heap.size, 0, none⟩ = some (at0 g.r) ∧ w'.cell? ⟨ad.block, ad.off + 1, none⟩ = some (.string (B nm)) ∧ w'.cell? ⟨g.r, 1, none⟩ = some (.map (some g.rm)) ∧ (Instr.lookup 65 (.map (some g.rm)) (.string (B nm)) false).run Tryz.prog w' = .ok (((ruleAt st.rules nm).map fun i => at0 (g.rb i)).getD (.pointer none)) w') [(1, 0), (0, 1), (0, 2), (0, 3), (0, 4), (0, 5), (0, 6), (1, 7), (2, 8), (0, 9), (0, 10), (4, 11), (4, 12), (4, 13), (4, 14), (4, 15), (4, 16), (4, 17), (4, 18), (4, 19), (0, 20), (2, 21)] (by kernel_rfl) (by kernel_rfl) (by rfl) (by kernel_rfl) (by exact hS0.out _ ((Below.refl _ _).drew)) ?_
      refine RegP.held1 (by (simp only [gA,gB,gC]); rfl) (by exact fun _ _ _ h => h) (by rfl) (by intro w' hS_; (try dsimp only at hS_); go_split_ands; go_simp; try with_reducible rfl) ?_
      try simp only [Act.put, pA,pB,pC]
      refine RegP.pure1 (by (simp only [gA,gB,gC]); rfl) (by exact fun _ _ _ h => h) (by rfl) (by intro w'; go_simp; try with_reducible rfl) ?_
      try simp only [Act.put, pA,pB,pC]
      refine RegP.pure1 (by (simp only [gA,gB,gC]); rfl) (by exact fun _ _ _ h => h) (by rfl) (by intro w'; go_simp; try with_reducible rfl) ?_
      try simp only [Act.put, pA,pB,pC]
      refine RegP.pure1 (by (simp only [gA,gB,gC]); rfl) (by exact fun _ _ _ h => h) (by rfl) (by intro w'; go_simp; try with_reducible rfl) ?_
      try simp only [Act.put, pA,pB,pC]
      refine RegP.pure1 (by (simp only [gA,gB,gC]); rfl) (by exact fun _ _ _ h => h) (by rfl) (by intro w'; go_simp; try with_reducible rfl) ?_
      try simp only [Act.put, pA,pB,pC]
      refine RegP.pure1 (by (simp only [gA,gB,gC]); rfl) (by exact fun _ _ _ h => h) (by rfl) (by intro w'; go_simp; try with_reducible rfl) ?_
      try simp only [Act.put, pA,pB,pC]
      refine RegP.pure1 (by (simp only [gA,gB,gC]); rfl) (by exact fun _ _ _ h => h) (by rfl) (by intro w'; go_simp; try with_reducible rfl) ?_
      try simp only [Act.put, pA,pB,pC]
      refine RegP.held1 (by (simp only [gA,gB,gC]); rfl) (by exact fun _ _ _ h => h) (by rfl) (by intro w' hS_; (try dsimp only at hS_); go_split_ands; go_simp; try with_reducible rfl) ?_
      try simp only [Act.put, pA,pB,pC]
      refine RegP.ev1 (by (simp only [gA,gB,gC]); rfl) (fun K hK => ?_)
      go_simp
      refine (hN.out _).mono ?_
      rintro e w1 ⟨rfl, hb1⟩
      have hB1 := Lib.hid (((Below.refl w0.heap.size w0).drew).trans hb1)
      clear hb1
      refine hK.out _ _ ?_ (fun hHeld => ?_)
      · (try dsimp only); exact hS0.out _ hB1.out
      clear hK K
      try simp only [Act.put, pA,pB,pC]
      refine RegP.pure1 (by (simp only [gA,gB,gC]); rfl) (by exact fun _ _ _ h => h) (by rfl) (by intro w'; go_simp; try with_reducible rfl) ?_
      try simp only [Act.put, pA,pB,pC]
      refine RegP.pure1 (by (simp only [gA,gB,gC]); rfl) (by exact fun _ _ _ h => h) (by rfl) (by intro w'; go_simp; try with_reducible rfl) ?_
      try simp only [Act.put, pA,pB,pC]
      refine RegP.skip1 (by (simp only [gA,gB,gC]); rfl) (by exact fun _ _ _ h => h) (by rfl) ?_
      try simp only [Act.put, pA,pB,pC]
      refine RegP.skip1 (by (simp only [gA,gB,gC]); rfl) (by exact fun _ _ _ h => h) (by rfl) ?_
      try simp only [Act.put, pA,pB,pC]
      refine RegP.skip1 (by (simp only [gA,gB,gC]); rfl) (by exact fun _ _ _ h => h) (by rfl) ?_
      try simp only [Act.put, pA,pB,pC]
      refine RegP.skip1 (by (simp only [gA,gB,gC]); rfl) (by exact fun _ _ _ h => h) (by rfl) ?_
      try simp only [Act.put, pA,pB,pC]
      refine RegP.skip1 (by (simp only [gA,gB,gC]); rfl) (by exact fun _ _ _ h => h) (by rfl) ?_
      try simp only [Act.put, pA,pB,pC]
      refine RegP.skip1 (by (simp only [gA,gB,gC]); rfl) (by exact fun _ _ _ h => h) (by rfl) ?_
      try simp only [Act.put, pA,pB,pC]
      refine RegP.skip1 (by (simp only [gA,gB,gC]); rfl) (by exact fun _ _ _ h => h) (by rfl) ?_
      try simp only [Act.put, pA,pB,pC]
      refine RegP.skip1 (by (simp only [gA,gB,gC]); rfl) (by exact fun _ _ _ h => h) (by rfl) ?_
      try simp only [Act.put, pA,pB,pC]
      refine RegP.skip1 (by (simp only [gA,gB,gC]); rfl) (by exact fun _ _ _ h => h) (by rfl) ?_
      try simp only [Act.put, pA,pB,pC]
      refine RegP.pure1 (by (simp only [gA,gB,gC]); rfl) (by exact fun _ _ _ h => h) (by rfl) (by intro w'; go_simp; try with_reducible rfl) ?_
      try simp only [Act.put, pA,pB,pC]
      refine RegP.ev1 (by (simp only [gA,gB,gC]); rfl) (fun K hK => ?_)
      go_simp
      refine (need_no g.r g.line 10 _ (hI0.out.rd.below hB1.out).c4).mono ?_
      rintro e w2 ⟨rfl, rfl⟩
      exact ⟨rfl, Steps.bad hR.out ((hBox.out.mono hB0).trans (hB1.out.mono (Nat.le_trans hB0 hBox.out.size)))⟩
    | true =>
      rw [hnm] at hN hR0
      cases hra : ruleAt st.rules nm with
      | some i =>
        have hR : Hid (ruleE st g.line [x, nm] = .error (g.line, 10)) := by show _ = _; rw [hR0, hra, if_neg (by simp)]
        rw [hra] at hSB
        have hSB' : Hid (∀ W, Below w.heap.size w W → W.cell? ⟨ad.block, ad.off + 1, none⟩ = some (.string (B nm)) ∧ W.cell? ⟨g.r, 1, none⟩ = some (.map (some g.rm)) ∧
            (Instr.lookup 65 (.map (some g.rm)) (.string (B nm)) false).run Tryz.prog W = .ok (at0 (g.rb i)) W) := hSB.out
        clear hR0 hnm hI hra hSB
        have hi1 : (1 : Int) < 2 := by decide
        go_enter Tryz.func43, Tryz.ntmps43
        go_wp2_with fail
        generalize w.alloc (.cells #[at0 g.r] 62) = w0 at *
        have hc0 := (cell_of_heap (j := 0) hCell.out).trans rfl
        have hS0 : Hid (∀ W, Below w0.heap.size w0 W → W.cell? ⟨w.heap.size, 0, none⟩ = some (at0 g.r) ∧ W.cell? ⟨ad.block, ad.off + 1, none⟩ = some (.string (B nm)) ∧ W.cell? ⟨g.r, 1, none⟩ = some (.map (some g.rm)) ∧
            (Instr.lookup 65 (.map (some g.rm)) (.string (B nm)) false).run Tryz.prog W = .ok (at0 (g.rb i)) W) :=
          fun W hb => ⟨(hb.cell (World.block_lt_of_cell? w0 _ hc0)).trans hc0, hSB'.out W (hBox.out.trans (hb.mono hBox.out.size))⟩
        refine RegP.regionH (fun w' => w'.cell? ⟨w.heap.size, 0, none⟩ = some (at0 g.r) ∧ w'.cell? ⟨ad.block, ad.off + 1, none⟩ = some (.string (B nm)) ∧ w'.cell? ⟨g.r, 1, none⟩ = some (.map (some g.rm)) ∧ (Instr.lookup 65 (.map (some g.rm)) (.string (B nm)) false).run Tryz.prog w' = .ok (at0 (g.rb i)) w') [(1, 0), (0, 1), (0, 2), (0, 3), (0, 4), (0, 5), (0, 6), (1, 7), (2, 8), (0, 9), (0, 10), (1, 11), (0, 12), (0, 13), (1, 14), (0, 15), (0, 16), (1, 17), (1, 18), (0, 19), (0, 20), (2, 21)] (by kernel_rfl) (by kernel_rfl) (by rfl) (by kernel_rfl) (by exact hS0.out _ ((Below.refl _ _).drew)) ?_
        refine RegP.held1 (by (simp only [gA,gB,gC]); rfl) (by exact fun _ _ _ h => h) (by rfl) (by intro w' hS_; (try dsimp only at hS_); go_split_ands; go_simp; try with_reducible rfl) ?_
        try simp only [Act.put, pA,pB,pC]
        refine RegP.pure1 (by (simp only [gA,gB,gC]); rfl) (by exact fun _ _ _ h => h) (by rfl) (by intro w'; go_simp; try with_reducible rfl) ?_
        try simp only [Act.put, pA,pB,pC]
        refine RegP.pure1 (by (simp only [gA,gB,gC]); rfl) (by exact fun _ _ _ h => h) (by rfl) (by intro w'; go_simp; try with_reducible rfl) ?_
        try simp only [Act.put, pA,pB,pC]
        refine RegP.pure1 (by (simp only [gA,gB,gC]); rfl) (by exact fun _ _ _ h => h) (by rfl) (by intro w'; go_simp; try with_reducible rfl) ?_
        try simp only [Act.put, pA,pB,pC]
        refine RegP.pure1 (by (simp only [gA,gB,gC]); rfl) (by exact fun _ _ _ h => h) (by rfl) (by intro w'; go_simp; try with_reducible rfl) ?_
        try simp only [Act.put, pA,pB,pC]
        refine RegP.pure1 (by (simp only [gA,gB,gC]); rfl) (by exact fun _ _ _ h => h) (by rfl) (by intro w'; go_simp; try with_reducible rfl) ?_
        try simp only [Act.put, pA,pB,pC]
        refine RegP.pure1 (by (simp only [gA,gB,gC]); rfl) (by exact fun _ _ _ h => h) (by rfl) (by intro w'; go_simp; try with_reducible rfl) ?_
        try simp only [Act.put, pA,pB,pC]
        refine RegP.held1 (by (simp only [gA,gB,gC]); rfl) (by exact fun _ _ _ h => h) (by rfl) (by intro w' hS_; (try dsimp only at hS_); go_split_ands; go_simp; try with_reducible rfl) ?_
        try simp only [Act.put, pA,pB,pC]
        refine RegP.ev1 (by (simp only [gA,gB,gC]); rfl) (fun K hK => ?_)
        go_simp
        refine (hN.out _).mono ?_
        rintro e w1 ⟨rfl, hb1⟩
        have hB1 := Lib.hid (((Below.refl w0.heap.size w0).drew).trans hb1)
        clear hb1
        refine hK.out _ _ ?_ (fun hHeld => ?_)
        · (try dsimp only); exact hS0.out _ hB1.out
        clear hK K
        try simp only [Act.put, pA,pB,pC]
        refine RegP.pure1 (by (simp only [gA,gB,gC]); rfl) (by exact fun _ _ _ h => h) (by rfl) (by intro w'; go_simp; try with_reducible rfl) ?_
        try simp only [Act.put, pA,pB,pC]
        refine RegP.pure1 (by (simp only [gA,gB,gC]); rfl) (by exact fun _ _ _ h => h) (by rfl) (by intro w'; go_simp; try with_reducible rfl) ?_
        try simp only [Act.put, pA,pB,pC]
        refine RegP.held1 (by (simp only [gA,gB,gC]); rfl) (by exact fun _ _ _ h => h) (by rfl) (by intro w' hS_; (try dsimp only at hS_); go_split_ands; go_simp; try with_reducible rfl) ?_
        try simp only [Act.put, pA,pB,pC]
        refine RegP.pure1 (by (simp only [gA,gB,gC]); rfl) (by exact fun _ _ _ h => h) (by rfl) (by intro w'; go_simp; try with_reducible rfl) ?_
        try simp only [Act.put, pA,pB,pC]
        refine RegP.pure1 (by (simp only [gA,gB,gC]); rfl) (by exact fun _ _ _ h => h) (by rfl) (by intro w'; go_simp; try with_reducible rfl) ?_
        try simp only [Act.put, pA,pB,pC]
        refine RegP.held1 (by (simp only [gA,gB,gC]); rfl) (by exact fun _ _ _ h => h) (by rfl) (by intro w' hS_; (try dsimp only at hS_); go_split_ands; go_simp; try with_reducible rfl) ?_
        try simp only [Act.put, pA,pB,pC]
        refine RegP.pure1 (by (simp only [gA,gB,gC]); rfl) (by exact fun _ _ _ h => h) (by rfl) (by intro w'; go_simp; try with_reducible rfl) ?_
        try simp only [Act.put, pA,pB,pC]
        refine RegP.pure1 (by (simp only [gA,gB,gC]); rfl) (by exact fun _ _ _ h => h) (by rfl) (by intro w'; go_simp; try with_reducible rfl) ?_
        try simp only [Act.put, pA,pB,pC]
        refine RegP.held1 (by (simp only [gA,gB,gC]); rfl) (by exact fun _ _ _ h => h) (by rfl) (by intro w' hS_; (try dsimp only at hS_); go_split_ands; go_simp; try with_reducible rfl) ?_
        try simp only [Act.put, pA,pB,pC]
        refine RegP.held1 (by (simp only [gA,gB,gC]); rfl) (by exact fun _ _ _ h => h) (by rfl) (by intro w' hS_; (try dsimp only at hS_); go_split_ands; go_simp; try with_reducible rfl) ?_
        try simp only [Act.put, pA,pB,pC]
        refine RegP.pure1 (by (simp only [gA,gB,gC]); rfl) (by exact fun _ _ _ h => h) (by rfl) (by intro w'; go_simp; try with_reducible rfl) ?_
        try simp only [Act.put, pA,pB,pC]
        refine RegP.pure1 (by (simp only [gA,gB,gC]); rfl) (by exact fun _ _ _ h => h) (by rfl) (by intro w'; go_simp; try with_reducible rfl) ?_
        try simp only [Act.put, pA,pB,pC]
        refine RegP.ev1 (by (simp only [gA,gB,gC]); rfl) (fun K hK => ?_)
        go_simp
        refine (need_no g.r g.line 10 _ (hI0.out.rd.below hB1.out).c4).mono ?_
        rintro e w2 ⟨rfl, rfl⟩
        exact ⟨rfl, Steps.bad hR.out ((hBox.out.mono hB0).trans (hB1.out.mono (Nat.le_trans hB0 hBox.out.size)))⟩
      | none =>
        have hR : Hid (ruleE st g.line [x, nm] = .ok { st with rules := st.rules ++ [⟨nm, none0, g.line⟩], inner := 1 }) := by show _ = _; rw [hR0, hra, if_pos ⟨rfl, rfl⟩]
        rw [hra] at hSB
        have hSB' : Hid (∀ W, Below w.heap.size w W → W.cell? ⟨ad.block, ad.off + 1, none⟩ = some (.string (B nm)) ∧ W.cell? ⟨g.r, 1, none⟩ = some (.map (some g.rm)) ∧
            (Instr.lookup 65 (.map (some g.rm)) (.string (B nm)) false).run Tryz.prog W = .ok (.pointer none) W) := hSB.out
        have hIH := Lib.hid hI
        have hNm := Lib.hid hnm
        have hRa := Lib.hid hra
        clear hR0 hnm hI hra hSB
        have hi1 : (1 : Int) < 2 := by decide
        have hmm := @run_makeMap Tryz.prog
        have hmf : ∀ (fn : Fn) (first cap : Array Value) (w : World), (Instr.makeFunc fn first cap).run Tryz.prog w = .ok (.func fn first cap) w := fun _ _ _ _ => rfl
        go_enter Tryz.func43, Tryz.ntmps43
        go_wp2_with fail
        generalize w.alloc (.cells #[at0 g.r] 62) = w0 at *
        have hc0 := (cell_of_heap (j := 0) hCell.out).trans rfl
        have hS0 : Hid (∀ W, Below w0.heap.size w0 W → W.cell? ⟨w.heap.size, 0, none⟩ = some (at0 g.r) ∧ W.cell? ⟨ad.block, ad.off + 1, none⟩ = some (.string (B nm)) ∧ W.cell? ⟨g.r, 1, none⟩ = some (.map (some g.rm)) ∧
            (Instr.lookup 65 (.map (some g.rm)) (.string (B nm)) false).run Tryz.prog W = .ok (.pointer none) W) :=
          fun W hb => ⟨(hb.cell (World.block_lt_of_cell? w0 _ hc0)).trans hc0, hSB'.out W (hBox.out.trans (hb.mono hBox.out.size))⟩
        refine RegP.regionH (fun w' => w'.cell? ⟨w.heap.size, 0, none⟩ = some (at0 g.r) ∧ w'.cell? ⟨ad.block, ad.off + 1, none⟩ = some (.string (B nm)) ∧ w'.cell? ⟨g.r, 1, none⟩ = some (.map (some g.rm)) ∧ (Instr.lookup 65 (.map (some g.rm)) (.string (B nm)) false).run Tryz.prog w' = .ok (.pointer none) w') [(1, 0), (0, 1), (0, 2), (0, 3), (0, 4), (0, 5), (0, 6), (1, 7), (2, 8), (0, 9), (0, 10), (1, 11), (0, 12), (0, 13), (1, 14), (0, 15), (0, 16), (1, 17), (1, 18), (0, 19), (0, 20), (2, 21)] (by kernel_rfl) (by kernel_rfl) (by rfl) (by kernel_rfl) (by exact hS0.out _ ((Below.refl _ _).drew)) ?_
        refine RegP.held1 (by (simp only [gA,gB,gC]); rfl) (by exact fun _ _ _ h => h) (by rfl) (by intro w' hS_; (try dsimp only at hS_); go_split_ands; go_simp; try with_reducible rfl) ?_
        try simp only [Act.put, pA,pB,pC]
        refine RegP.pure1 (by (simp only [gA,gB,gC]); rfl) (by exact fun _ _ _ h => h) (by rfl) (by intro w'; go_simp; try with_reducible rfl) ?_
        try simp only [Act.put, pA,pB,pC]
        refine RegP.pure1 (by (simp only [gA,gB,gC]); rfl) (by exact fun _ _ _ h => h) (by rfl) (by intro w'; go_simp; try with_reducible rfl) ?_
        try simp only [Act.put, pA,pB,pC]
        refine RegP.pure1 (by (simp only [gA,gB,gC]); rfl) (by exact fun _ _ _ h => h) (by rfl) (by intro w'; go_simp; try with_reducible rfl) ?_
        try simp only [Act.put, pA,pB,pC]
        refine RegP.pure1 (by (simp only [gA,gB,gC]); rfl) (by exact fun _ _ _ h => h) (by rfl) (by intro w'; go_simp; try with_reducible rfl) ?_
        try simp only [Act.put, pA,pB,pC]
        refine RegP.pure1 (by (simp only [gA,gB,gC]); rfl) (by exact fun _ _ _ h => h) (by rfl) (by intro w'; go_simp; try with_reducible rfl) ?_
        try simp only [Act.put, pA,pB,pC]
        refine RegP.pure1 (by (simp only [gA,gB,gC]); rfl) (by exact fun _ _ _ h => h) (by rfl) (by intro w'; go_simp; try with_reducible rfl) ?_
        try simp only [Act.put, pA,pB,pC]
        refine RegP.held1 (by (simp only [gA,gB,gC]); rfl) (by exact fun _ _ _ h => h) (by rfl) (by intro w' hS_; (try dsimp only at hS_); go_split_ands; go_simp; try with_reducible rfl) ?_
        try simp only [Act.put, pA,pB,pC]
        refine RegP.ev1 (by (simp only [gA,gB,gC]); rfl) (fun K hK => ?_)
        go_simp
        refine (hN.out _).mono ?_
        rintro e w1 ⟨rfl, hb1⟩
        have hB1 := Lib.hid (((Below.refl w0.heap.size w0).drew).trans hb1)
        clear hb1
        refine hK.out _ _ ?_ (fun hHeld => ?_)
        · (try dsimp only); exact hS0.out _ hB1.out
        clear hK K
        try simp only [Act.put, pA,pB,pC]
        refine RegP.pure1 (by (simp only [gA,gB,gC]); rfl) (by exact fun _ _ _ h => h) (by rfl) (by intro w'; go_simp; try with_reducible rfl) ?_
        try simp only [Act.put, pA,pB,pC]
        refine RegP.pure1 (by (simp only [gA,gB,gC]); rfl) (by exact fun _ _ _ h => h) (by rfl) (by intro w'; go_simp; try with_reducible rfl) ?_
        try simp only [Act.put, pA,pB,pC]
        refine RegP.held1 (by (simp only [gA,gB,gC]); rfl) (by exact fun _ _ _ h => h) (by rfl) (by intro w' hS_; (try dsimp only at hS_); go_split_ands; go_simp; try with_reducible rfl) ?_
        try simp only [Act.put, pA,pB,pC]
        refine RegP.pure1 (by (simp only [gA,gB,gC]); rfl) (by exact fun _ _ _ h => h) (by rfl) (by intro w'; go_simp; try with_reducible rfl) ?_
        try simp only [Act.put, pA,pB,pC]
        refine RegP.pure1 (by (simp only [gA,gB,gC]); rfl) (by exact fun _ _ _ h => h) (by rfl) (by intro w'; go_simp; try with_reducible rfl) ?_
        try simp only [Act.put, pA,pB,pC]
        refine RegP.held1 (by (simp only [gA,gB,gC]); rfl) (by exact fun _ _ _ h => h) (by rfl) (by intro w' hS_; (try dsimp only at hS_); go_split_ands; go_simp; try with_reducible rfl) ?_
        try simp only [Act.put, pA,pB,pC]
        refine RegP.pure1 (by (simp only [gA,gB,gC]); rfl) (by exact fun _ _ _ h => h) (by rfl) (by intro w'; go_simp; try with_reducible rfl) ?_
        try simp only [Act.put, pA,pB,pC]
        refine RegP.pure1 (by (simp only [gA,gB,gC]); rfl) (by exact fun _ _ _ h => h) (by rfl) (by intro w'; go_simp; try with_reducible rfl) ?_
        try simp only [Act.put, pA,pB,pC]
        refine RegP.held1 (by (simp only [gA,gB,gC]); rfl) (by exact fun _ _ _ h => h) (by rfl) (by intro w' hS_; (try dsimp only at hS_); go_split_ands; go_simp; try with_reducible rfl) ?_
        try simp only [Act.put, pA,pB,pC]
        refine RegP.held1 (by (simp only [gA,gB,gC]); rfl) (by exact fun _ _ _ h => h) (by rfl) (by intro w' hS_; (try dsimp only at hS_); go_split_ands; go_simp; try with_reducible rfl) ?_
        try simp only [Act.put, pA,pB,pC]
        refine RegP.pure1 (by (simp only [gA,gB,gC]); rfl) (by exact fun _ _ _ h => h) (by rfl) (by intro w'; go_simp; try with_reducible rfl) ?_
        try simp only [Act.put, pA,pB,pC]
        refine RegP.pure1 (by (simp only [gA,gB,gC]); rfl) (by exact fun _ _ _ h => h) (by rfl) (by intro w'; go_simp; try with_reducible rfl) ?_
        try simp only [Act.put, pA,pB,pC]
        refine RegP.ev1 (by (simp only [gA,gB,gC]); rfl) (fun K hK => ?_)
        go_simp
        refine (need_ok _ _ _).mono ?_
        rintro e w2 ⟨rfl, rfl⟩
        refine hK.out _ _ ?_ (fun hHeld => ?_)
        · (try dsimp only); exact hS0.out _ hB1.out
        clear hK K
        try simp only [Act.put, pA,pB,pC]
        refine RegP.done1 ?_
        have d0 := (hS0.out _ hB1.out).1
        have d4 : w1.cell? ⟨g.r, 4, none⟩ = some (.int .i64 (g.line : Int)) := (hI0.out.below hB1.out).cell 4
        have hlt1 : w.heap.size < w1.heap.size := Nat.lt_of_lt_of_le (lt_blk hCell.out) hB1.out.size
        have hgr1 : g.r < w1.heap.size := Nat.lt_of_lt_of_le (lt_blk hI0.out.hr) hB1.out.size
        have d0a : (w1.alloc (.map #[] 0)).cell? ⟨w.heap.size, 0, none⟩ = some (at0 g.r) := (((Below.refl w1.heap.size w1).alloc (Nat.le_refl _) _).cell (p := ⟨w.heap.size, 0, none⟩) hlt1).trans d0
        have d4a : (w1.alloc (.map #[] 0)).cell? ⟨g.r, 4, none⟩ = some (.int .i64 (g.line : Int)) := (((Below.refl w1.heap.size w1).alloc (Nat.le_refl _) _).cell (p := ⟨g.r, 4, none⟩) hgr1).trans d4
        clear hHeld
        try dsimp only
        go_wp2_with fail
        have hBz := Lib.hid ((((Below.refl w1.heap.size w1).alloc (Nat.le_refl _) (.map #[] 0)).alloc (by simp) (.cells #[.map (some w1.heap.size), .int .i64 (g.line : Int)] 101)).alloc (by simp; omega) (.cells #[at0 (w1.heap.size + 1)] 68))
        have z1 : Hid ((((w1.alloc (.map #[] 0)).alloc (.cells #[.map (some w1.heap.size), .int .i64 (g.line : Int)] 101)).alloc (.cells #[at0 (w1.heap.size + 1)] 68)).heap[w1.heap.size]? = some (.map #[] 0)) :=
          (Below.heap_alloc _ _ _ (by simp; omega)).trans ((Below.heap_alloc _ _ _ (by simp)).trans (heap_alloc_new w1 _))
        have z2 : Hid ((((w1.alloc (.map #[] 0)).alloc (.cells #[.map (some w1.heap.size), .int .i64 (g.line : Int)] 101)).alloc (.cells #[at0 (w1.heap.size + 1)] 68)).heap[w1.heap.size + 1]? = some (.cells #[.map (some w1.heap.size), .int .i64 (g.line : Int)] 101 (0, 0))) := by
          have h0 := heap_alloc_new (w1.alloc (.map #[] 0)) (.cells #[.map (some w1.heap.size), .int .i64 (g.line : Int)] 101)
          rw [World.size_alloc] at h0
          exact (Below.heap_alloc _ _ _ (by simp)).trans h0
        have z3 : Hid ((((w1.alloc (.map #[] 0)).alloc (.cells #[.map (some w1.heap.size), .int .i64 (g.line : Int)] 101)).alloc (.cells #[at0 (w1.heap.size + 1)] 68)).heap[w1.heap.size + 1 + 1]? = some (.cells #[at0 (w1.heap.size + 1)] 68 (0, 0))) := by
          have h0 := heap_alloc_new ((w1.alloc (.map #[] 0)).alloc (.cells #[.map (some w1.heap.size), .int .i64 (g.line : Int)] 101)) (.cells #[at0 (w1.heap.size + 1)] 68)
          rw [World.size_alloc, World.size_alloc] at h0
          exact h0
        generalize ((w1.alloc (.map #[] 0)).alloc (.cells #[.map (some w1.heap.size), .int .i64 (g.line : Int)] 101)).alloc (.cells #[at0 (w1.heap.size + 1)] 68) = wz at *
        have hIz := Lib.hid ((hI0.out.below hB1.out).below hBz.out)
        have hIzd := Lib.hid (hIz.out.below (Below.refl _ _).drew)
        obtain ⟨v0, stp, w4, hrunE, hgE, hthen⟩ := hIzd.out.mr.entry Tryz.underlying65 hz57 (by unfold maxLen; omega) nm (at0 (w1.heap.size + 1)) (by unfold maxLen; omega)
        obtain ⟨w5, hrunS, hV5, hg5⟩ := hthen w4 rfl
        have hrmlt := hIH.out.mr.lt
        have hgrw : g.r < w.heap.size := lt_blk hIH.out.hr
        have hsz1 : w0.heap.size ≤ w1.heap.size := hB1.out.size
        have hszz : w1.heap.size ≤ wz.heap.size := hBz.out.size
        have hsz4 : wz.heap.size ≤ w4.heap.size := hgE.size
        have hsz5 : w4.heap.size ≤ w5.heap.size := hg5.size
        have hszb : w.heap.size ≤ w0.heap.size := hBox.out.size
        have kz5 : Hid (∀ b, b < wz.heap.size → b ≠ g.rm → w5.heap[b]? = wz.heap[b]?) := fun b hb hne =>
          (hg5.block b (by omega) (fun e => hne (by injection e))).trans (hgE.block b hb (fun e => hne (by injection e)))
        have kz4 : Hid (∀ b, b < wz.heap.size → b ≠ g.rm → w4.heap[b]? = wz.heap[b]?) := fun b hb hne => hgE.block b hb (fun e => hne (by injection e))
        have hne1 : g.r ≠ g.rm := fun e => by have h1 := hIH.out.rr; rw [e, hIH.out.rrm] at h1; cases h1
        have hz2lt := lt_blk z2.out
        have hz3lt := lt_blk z3.out
        have hadlt : ad.block < w0.heap.size := World.block_lt_of_cell? w0 ⟨ad.block, ad.off + 1, none⟩ (hS0.out _ (Below.refl _ _)).2.1
        have hcz : Hid (wz.cell? ⟨w.heap.size, 0, none⟩ = some (at0 g.r) ∧ wz.cell? ⟨ad.block, ad.off + 1, none⟩ = some (.string (B nm)) ∧ wz.cell? ⟨g.r, 1, none⟩ = some (.map (some g.rm)) ∧ wz.cell? ⟨w1.heap.size + 1 + 1, 0, none⟩ = some (at0 (w1.heap.size + 1))) := by
          have hb : Below w0.heap.size w0 wz := hB1.out.trans (hBz.out.mono hB1.out.size)
          exact ⟨(hS0.out _ hb).1, (hS0.out _ hb).2.1, (hS0.out _ hb).2.2.1, (cell_of_heap (j := 0) z3.out).trans rfl⟩
        have hadm : ad.block ≠ g.rm := fun e => by
          have h1 := hcz.out.2.1
          obtain ⟨D, ⟨es, clock, hm, _⟩, _⟩ := hIz.out.mr
          rw [← e] at hm
          unfold World.cell? at h1
          simp [hm] at h1
        have S4 : Hid (w4.cell? ⟨w.heap.size, 0, none⟩ = some (at0 g.r) ∧ w4.cell? ⟨ad.block, ad.off + 1, none⟩ = some (.string (B nm)) ∧ w4.cell? ⟨g.r, 1, none⟩ = some (.map (some g.rm)) ∧ w4.cell? ⟨w1.heap.size + 1 + 1, 0, none⟩ = some (at0 (w1.heap.size + 1))) :=
          ⟨(World.cell?_of_block (a := ⟨w.heap.size, 0, none⟩) (kz4.out _ (by show w.heap.size < _; omega) (by show w.heap.size ≠ _; omega))).trans hcz.out.1, (World.cell?_of_block (a := ⟨ad.block, ad.off + 1, none⟩) (kz4.out _ (by show ad.block < _; omega) hadm)).trans hcz.out.2.1,
           (World.cell?_of_block (a := ⟨g.r, 1, none⟩) (kz4.out _ (by show g.r < _; omega) hne1)).trans hcz.out.2.2.1, (World.cell?_of_block (a := ⟨w1.heap.size + 1 + 1, 0, none⟩) (kz4.out _ hz3lt (by show w1.heap.size + 1 + 1 ≠ _; omega))).trans hcz.out.2.2.2⟩
        have S5 : Hid (w5.cell? ⟨w.heap.size, 0, none⟩ = some (at0 g.r) ∧ w5.cell? ⟨ad.block, ad.off + 1, none⟩ = some (.string (B nm)) ∧ w5.cell? ⟨g.r, 1, none⟩ = some (.map (some g.rm)) ∧ w5.cell? ⟨w1.heap.size + 1 + 1, 0, none⟩ = some (at0 (w1.heap.size + 1))) :=
          ⟨(World.cell?_of_block (a := ⟨w.heap.size, 0, none⟩) (kz5.out _ (by show w.heap.size < _; omega) (by show w.heap.size ≠ _; omega))).trans hcz.out.1, (World.cell?_of_block (a := ⟨ad.block, ad.off + 1, none⟩) (kz5.out _ (by show ad.block < _; omega) hadm)).trans hcz.out.2.1,
           (World.cell?_of_block (a := ⟨g.r, 1, none⟩) (kz5.out _ (by show g.r < _; omega) hne1)).trans hcz.out.2.2.1, (World.cell?_of_block (a := ⟨w1.heap.size + 1 + 1, 0, none⟩) (kz5.out _ hz3lt (by show w1.heap.size + 1 + 1 ≠ _; omega))).trans hcz.out.2.2.2⟩
        have hr5 : Hid (w5.heap[g.r]? = some (.cells #[at0 g.fb, .map (some g.rm), g.ve, g.vd, .int .i64 (g.line : Int), g.vi, g.vo] 70 (0, 0))) := (kz5.out _ (by omega) hne1).trans hIz.out.hr
        have c6 : w5.cell? ⟨g.r, 6, none⟩ = some g.vo := (cell_of_heap (j := 6) hr5.out).trans rfl
        have f6 := frozen_of_heap hr5.out 6
        have hr6 : Hid ((w5.setCell ⟨g.r, 6, none⟩ (at0 (w1.heap.size + 1))).heap[g.r]? = some (.cells #[at0 g.fb, .map (some g.rm), g.ve, g.vd, .int .i64 (g.line : Int), g.vi, at0 (w1.heap.size + 1)] 70 (0, 0))) := blk_put hr5.out 6 _ rfl
        have c5 : (w5.setCell ⟨g.r, 6, none⟩ (at0 (w1.heap.size + 1))).cell? ⟨g.r, 5, none⟩ = some g.vi := (cell_of_heap (j := 5) hr6.out).trans rfl
        have f5 := frozen_of_heap hr6.out 5
        have hS6 : Hid ((w5.setCell ⟨g.r, 6, none⟩ (at0 (w1.heap.size + 1))).cell? ⟨w.heap.size, 0, none⟩ = some (at0 g.r) ∧ (w5.setCell ⟨g.r, 6, none⟩ (at0 (w1.heap.size + 1))).cell? ⟨ad.block, ad.off + 1, none⟩ = some (.string (B nm)) ∧ (w5.setCell ⟨g.r, 6, none⟩ (at0 (w1.heap.size + 1))).cell? ⟨g.r, 1, none⟩ = some (.map (some g.rm)) ∧ (w5.setCell ⟨g.r, 6, none⟩ (at0 (w1.heap.size + 1))).cell? ⟨w1.heap.size + 1 + 1, 0, none⟩ = some (at0 (w1.heap.size + 1))) := by
          have hgr0 := lt_blk hIH.out.hr
          refine ⟨(cell_far (a := ⟨w.heap.size, 0, none⟩) (p := ⟨g.r, 6, none⟩) (by show w.heap.size ≠ g.r; omega) _).trans S5.out.1, ?_, (cell_of_heap (j := 1) hr6.out).trans rfl, (cell_far (a := ⟨w1.heap.size + 1 + 1, 0, none⟩) (p := ⟨g.r, 6, none⟩) (by show w1.heap.size + 1 + 1 ≠ g.r; omega) _).trans S5.out.2.2.2⟩
          refine (cell_far (a := ⟨ad.block, ad.off + 1, none⟩) (p := ⟨g.r, 6, none⟩) (fun e => ?_) _).trans S5.out.2.1
          have h1 := hcz.out.2.1
          rw [show ad.block = g.r from e] at h1
          exact hIz.out.nostr _ _ h1
        have hfin := Lib.hid (hIH.out.ruleNew (w2 := w5) nm hNm.out hRa.out w1.heap.size (w1.heap.size + 1) w.heap.size (w1.heap.size + 1 + 1) (by omega) (by omega) (Nat.le_refl _) (by omega) (by omega)
          (fun b hb hne => ((kz5.out b (by omega) hne).trans (hBz.out.block b (by omega))).trans ((hB1.out.block b (by omega)).trans (hBox.out.block b hb)))
          ((kz5.out _ hz2lt (by omega)).trans z2.out) ((OwnsM.made_at z1.out).same (kz5.out _ (lt_blk z1.out) (by omega))) ((kz5.out _ (by omega) (by omega)).trans ((hBz.out.block _ hlt1).trans ((hB1.out.block _ (lt_blk hCell.out)).trans hCell.out))) ((kz5.out _ hz3lt (by omega)).trans z3.out) hV5)
        have hBf : Hid (Below B0 w w5) := by
          have h0 : Below w.heap.size w wz := hBox.out.trans ((hB1.out.mono hBox.out.size).trans (hBz.out.mono (by omega)))
          have h1 : Below B0 wz w4 := (((Below.refl B0 wz).drew).grown hgE (by show B0 ≤ wz.heap.size; omega) (fun k hk => by injection hk with hk; rw [← hk]; exact hIH.out.new _ (by rw [hIH.out.rrm]; decide)))
          exact (h0.mono hB0).trans (h1.grown hg5 (by omega) (fun k hk => by injection hk with hk; rw [← hk]; exact hIH.out.new _ (by rw [hIH.out.rrm]; decide)))
        have hC0 := Lib.hid hcz.out
        clear hthen hgE hg5 hV5 d0 d4 d0a d4a hrd hc0
        refine RegP.regionH (fun w' => w'.cell? ⟨w.heap.size, 0, none⟩ = some (at0 g.r) ∧ w'.cell? ⟨ad.block, ad.off + 1, none⟩ = some (.string (B nm)) ∧ w'.cell? ⟨g.r, 1, none⟩ = some (.map (some g.rm)) ∧ w'.cell? ⟨w1.heap.size + 1 + 1, 0, none⟩ = some (at0 (w1.heap.size + 1))) [(1, 0), (0, 1), (0, 2), (1, 3), (0, 4), (0, 5), (1, 6), (1, 7), (1, 8), (1, 9), (2, 10), (0, 11), (2, 12), (0, 13), (0, 14), (2, 15)] (by kernel_rfl) (by kernel_rfl) (by rfl) (by kernel_rfl) (by exact hC0.out) ?_
        refine RegP.held1 (by (simp only [gA,gB,gC]); rfl) (by exact fun _ _ _ h => h) (by rfl) (by intro w' hS_; (try dsimp only at hS_); go_split_ands; go_simp; try with_reducible rfl) ?_
        try simp only [Act.put, pA,pB,pC]
        refine RegP.pure1 (by (simp only [gA,gB,gC]); rfl) (by exact fun _ _ _ h => h) (by rfl) (by intro w'; go_simp; try with_reducible rfl) ?_
        try simp only [Act.put, pA,pB,pC]
        refine RegP.pure1 (by (simp only [gA,gB,gC]); rfl) (by exact fun _ _ _ h => h) (by rfl) (by intro w'; go_simp; try with_reducible rfl) ?_
        try simp only [Act.put, pA,pB,pC]
        refine RegP.held1 (by (simp only [gA,gB,gC]); rfl) (by exact fun _ _ _ h => h) (by rfl) (by intro w' hS_; (try dsimp only at hS_); go_split_ands; go_simp; try with_reducible rfl) ?_
        try simp only [Act.put, pA,pB,pC]
        refine RegP.pure1 (by (simp only [gA,gB,gC]); rfl) (by exact fun _ _ _ h => h) (by rfl) (by intro w'; go_simp; try with_reducible rfl) ?_
        try simp only [Act.put, pA,pB,pC]
        refine RegP.pure1 (by (simp only [gA,gB,gC]); rfl) (by exact fun _ _ _ h => h) (by rfl) (by intro w'; go_simp; try with_reducible rfl) ?_
        try simp only [Act.put, pA,pB,pC]
        refine RegP.held1 (by (simp only [gA,gB,gC]); rfl) (by exact fun _ _ _ h => h) (by rfl) (by intro w' hS_; (try dsimp only at hS_); go_split_ands; go_simp; try with_reducible rfl) ?_
        try simp only [Act.put, pA,pB,pC]
        refine RegP.held1 (by (simp only [gA,gB,gC]); rfl) (by exact fun _ _ _ h => h) (by rfl) (by intro w' hS_; (try dsimp only at hS_); go_split_ands; go_simp; try with_reducible rfl) ?_
        try simp only [Act.put, pA,pB,pC]
        refine RegP.held1 (by (simp only [gA,gB,gC]); rfl) (by exact fun _ _ _ h => h) (by rfl) (by intro w' hS_; (try dsimp only at hS_); go_split_ands; go_simp; try with_reducible rfl) ?_
        try simp only [Act.put, pA,pB,pC]
        refine RegP.held1 (by (simp only [gA,gB,gC]); rfl) (by exact fun _ _ _ h => h) (by rfl) (by intro w' hS_; (try dsimp only at hS_); go_split_ands; go_simp; try with_reducible rfl) ?_
        try simp only [Act.put, pA,pB,pC]
        refine RegP.ev1 (by (simp only [gA,gB,gC]); rfl) (fun K hK => ?_)
        go_simp
        refine hK.out _ _ ?_ (fun hHeld => ?_)
        · (try dsimp only); exact S4.out
        clear hK K
        try simp only [Act.put, pA,pB,pC]
        refine RegP.pure1 (by (simp only [gA,gB,gC]); rfl) (by exact fun _ _ _ h => h) (by rfl) (by intro w'; go_simp; try with_reducible rfl) ?_
        try simp only [Act.put, pA,pB,pC]
        refine RegP.ev1 (by (simp only [gA,gB,gC]); rfl) (fun K hK => ?_)
        go_simp
        refine hK.out _ _ ?_ (fun hHeld => ?_)
        · (try dsimp only); exact S5.out
        clear hK K
        try simp only [Act.put, pA,pB,pC]
        refine RegP.pure1 (by (simp only [gA,gB,gC]); rfl) (by exact fun _ _ _ h => h) (by rfl) (by intro w'; go_simp; try with_reducible rfl) ?_
        try simp only [Act.put, pA,pB,pC]
        refine RegP.pure1 (by (simp only [gA,gB,gC]); rfl) (by exact fun _ _ _ h => h) (by rfl) (by intro w'; go_simp; try with_reducible rfl) ?_
        try simp only [Act.put, pA,pB,pC]
        refine RegP.ev1 (by (simp only [gA,gB,gC]); rfl) (fun K hK => ?_)
        go_simp
        refine hK.out _ _ ?_ (fun hHeld => ?_)
        · (try dsimp only); exact hS6.out
        clear hK K
        try simp only [Act.put, pA,pB,pC]
        refine RegP.done1 ?_
        try dsimp only
        go_wp2_with fail
        go_end0
        obtain ⟨g', q1, q2, q3⟩ := hfin.out
        exact Steps.fin hR.out q1 q2 (by omega) ((hBf.out.setCell hg0 _).setCell hg0 _)
  · have hR : Hid (ruleE st g.line ws = .error (g.line, 10)) := by
      show _ = _
      rcases ws with _ | ⟨x, _ | ⟨y, _ | ⟨z, r⟩⟩⟩
      · rfl
      · rfl
      · simp at h2
      · rfl
    have hb2 : ((ws.length : Int) == 2) = false := by rw [beq_eq_false_iff_ne]; omega
    clear hl hI hW
    generalize ws.length = n at *
    go_enter Tryz.func43, Tryz.ntmps43
    go_wp2_with fail
    generalize w.alloc (.cells #[at0 g.r] 62) = w0 at *
    have hc0 := (cell_of_heap (j := 0) hCell.out).trans rfl
    refine RegP.regionH (fun w' => w'.cell? ⟨w.heap.size, 0, none⟩ = some (at0 g.r)) [(1, 0), (0, 1), (0, 2), (0, 3), (0, 4), (4, 5), (4, 6), (4, 7), (4, 8), (0, 9), (0, 10), (4, 11), (4, 12), (4, 13), (4, 14), (4, 15), (4, 16), (4, 17), (4, 18), (4, 19), (0, 20), (2, 21)] (by kernel_rfl) (by kernel_rfl) (by rfl) (by kernel_rfl) (by exact hc0) ?_
    refine RegP.held1 (by (simp only [gA,gB,gC]); rfl) (by exact fun _ _ _ h => h) (by rfl) (by intro w' hS_; (try dsimp only at hS_); go_split_ands; go_simp; try with_reducible rfl) ?_
    try simp only [Act.put, pA,pB,pC]
    refine RegP.pure1 (by (simp only [gA,gB,gC]); rfl) (by exact fun _ _ _ h => h) (by rfl) (by intro w'; go_simp; try with_reducible rfl) ?_
    try simp only [Act.put, pA,pB,pC]
    refine RegP.pure1 (by (simp only [gA,gB,gC]); rfl) (by exact fun _ _ _ h => h) (by rfl) (by intro w'; go_simp; try with_reducible rfl) ?_
    try simp only [Act.put, pA,pB,pC]
    refine RegP.pure1 (by (simp only [gA,gB,gC]); rfl) (by exact fun _ _ _ h => h) (by rfl) (by intro w'; go_simp; try with_reducible rfl) ?_
    try simp only [Act.put, pA,pB,pC]
    refine RegP.pure1 (by (simp only [gA,gB,gC]); rfl) (by exact fun _ _ _ h => h) (by rfl) (by intro w'; go_simp; try with_reducible rfl) ?_
    try simp only [Act.put, pA,pB,pC]
    refine RegP.skip1 (by (simp only [gA,gB,gC]); rfl) (by exact fun _ _ _ h => h) (by rfl) ?_
    try simp only [Act.put, pA,pB,pC]
    refine RegP.skip1 (by (simp only [gA,gB,gC]); rfl) (by exact fun _ _ _ h => h) (by rfl) ?_
    try simp only [Act.put, pA,pB,pC]
    refine RegP.skip1 (by (simp only [gA,gB,gC]); rfl) (by exact fun _ _ _ h => h) (by rfl) ?_
    try simp only [Act.put, pA,pB,pC]
    refine RegP.skip1 (by (simp only [gA,gB,gC]); rfl) (by exact fun _ _ _ h => h) (by rfl) ?_
    try simp only [Act.put, pA,pB,pC]
    refine RegP.pure1 (by (simp only [gA,gB,gC]); rfl) (by exact fun _ _ _ h => h) (by rfl) (by intro w'; go_simp; try with_reducible rfl) ?_
    try simp only [Act.put, pA,pB,pC]
    refine RegP.pure1 (by (simp only [gA,gB,gC]); rfl) (by exact fun _ _ _ h => h) (by rfl) (by intro w'; go_simp; try with_reducible rfl) ?_
    try simp only [Act.put, pA,pB,pC]
    refine RegP.skip1 (by (simp only [gA,gB,gC]); rfl) (by exact fun _ _ _ h => h) (by rfl) ?_
    try simp only [Act.put, pA,pB,pC]
    refine RegP.skip1 (by (simp only [gA,gB,gC]); rfl) (by exact fun _ _ _ h => h) (by rfl) ?_
    try simp only [Act.put, pA,pB,pC]
    refine RegP.skip1 (by (simp only [gA,gB,gC]); rfl) (by exact fun _ _ _ h => h) (by rfl) ?_
    try simp only [Act.put, pA,pB,pC]
    refine RegP.skip1 (by (simp only [gA,gB,gC]); rfl) (by exact fun _ _ _ h => h) (by rfl) ?_
    try simp only [Act.put, pA,pB,pC]
    refine RegP.skip1 (by (simp only [gA,gB,gC]); rfl) (by exact fun _ _ _ h => h) (by rfl) ?_
    try simp only [Act.put, pA,pB,pC]
    refine RegP.skip1 (by (simp only [gA,gB,gC]); rfl) (by exact fun _ _ _ h => h) (by rfl) ?_
    try simp only [Act.put, pA,pB,pC]
    refine RegP.skip1 (by (simp only [gA,gB,gC]); rfl) (by exact fun _ _ _ h => h) (by rfl) ?_
    try simp only [Act.put, pA,pB,pC]
    refine RegP.skip1 (by (simp only [gA,gB,gC]); rfl) (by exact fun _ _ _ h => h) (by rfl) ?_
    try simp only [Act.put, pA,pB,pC]
    refine RegP.skip1 (by (simp only [gA,gB,gC]); rfl) (by exact fun _ _ _ h => h) (by rfl) ?_
    try simp only [Act.put, pA,pB,pC]
    refine RegP.pure1 (by (simp only [gA,gB,gC]); rfl) (by exact fun _ _ _ h => h) (by rfl) (by intro w'; go_simp; try with_reducible rfl) ?_
    try simp only [Act.put, pA,pB,pC]
    refine RegP.ev1 (by (simp only [gA,gB,gC]); rfl) (fun K hK => ?_)
    go_simp
    refine (need_no g.r g.line 10 _ (hI0.out.rd.below ((Below.refl w0.heap.size w0).drew)).c4).mono ?_
    rintro e w2 ⟨rfl, rfl⟩
    exact ⟨rfl, Steps.bad hR.out ((hBox.out.mono hB0).trans (((Below.refl w0.heap.size w0).drew).mono (Nat.le_trans hB0 hBox.out.size)))⟩
end Go.Proofs.YtbjekebkgidhaaaGreatDoor.Mf
end
section
set_option linter.unusedSimpArgs false
set_option linter.unusedVariables false
namespace Go.Proofs.YtbjekebkgidhaaaGreatDoor.Mf
open Go.RowKit Go.Lib Go.Shelf Go.Maps Go.Proofs.YtbjekebkgidhaaaGreatDoorW.PrintWords Go.Proofs.YtbjekebkgidhaaaGreatDoor.U Go.Proofs.YtbjekebkgidhaaaGreatDoor.Sc Go.Proofs.YtbjekebkgidhaaaGreatDoor.P Go.Proofs.YtbjekebkgidhaaaGreatDoor.MapV
theorem onLast_get {α : Type} (f : α → α) : ∀ (l : List α) (i : Nat), (onLast f l)[i]? = if i + 1 = l.length then (l[i]?).map f else l[i]?
  | [], i => by simp [onLast]
  | [x], i => by
    cases i with
    | zero => simp [onLast]
    | succ i => simp [onLast]
  | x :: y :: r, i => by
    cases i with
    | zero => simp [onLast]
    | succ i =>
      have := onLast_get f (y :: r) i
      simp only [onLast, List.getElem?_cons_succ, List.length_cons] at this ⊢
      rw [this]
      by_cases h : i + 1 = r.length + 1
      · rw [if_pos h, if_pos (by omega)]
      · rw [if_neg h, if_neg (by omega)]
theorem onLast_len {α : Type} (f : α → α) : ∀ l : List α, (onLast f l).length = l.length
  | [] => rfl
  | [x] => rfl
  | x :: y :: r => by simp only [onLast, List.length_cons]; rw [onLast_len f (y :: r)]; rfl
theorem onLast_map {α β : Type} (f : α → α) (p : α → β) (hf : ∀ x, p (f x) = p x) : ∀ l : List α, (onLast f l).map p = l.map p
  | [] => rfl
  | [x] => by simp [onLast, hf]
  | x :: y :: r => by simp only [onLast, List.map_cons]; rw [onLast_map f p hf (y :: r)]; rfl
theorem ruleAt_map (rs : List RuleS) (k : Txt) : ruleAt rs k = (rs.map (·.name)).findIdx? (fun n => n == k) := by
  unfold ruleAt; rw [List.findIdx?_map]; rfl
theorem onLast_at {α : Type} (f : α → α) (l : List α) (i : Nat) (h : i < (onLast f l).length) (h' : i < l.length) : (onLast f l)[i] = if i + 1 = l.length then f l[i] else l[i] := by
  have := onLast_get f l i
  rw [List.getElem?_eq_getElem h, List.getElem?_eq_getElem h'] at this
  by_cases e : i + 1 = l.length
  · rw [if_pos e] at this ⊢; exact Option.some.inj this
  · rw [if_neg e] at this ⊢; exact Option.some.inj this
def Inner (B0 : Nat) (g : Mem) (s0 : St) (r : Except Er St) (w : World) (e : Ending) (w' : World) : Prop :=
  match r with
  | .ok st => e = .returned (.tuple #[]) ∧ (∃ g', Inv B0 w' g' st ∧ g'.r = g.r ∧ g'.n ≤ g.n + 1) ∧ Below B0 w w' ∧ ∀ b, b < w.heap.size → (∀ i, i < s0.rules.length → b ≠ g.tb i) → (∀ j, j < s0.edges.length → b ≠ g.mb j) → w'.heap[b]? = w.heap[b]?
  | .error x => e = wr x.1 x.2 ∧ Below B0 w w'
theorem Inner.fin {B0 : Nat} {s0 : St} {g g' : Mem} {r : Except Er St} {w w' : World} {st : St} (h : r = .ok st) (hi : Inv B0 w' g' st) (hr : g'.r = g.r) (hn : g'.n ≤ g.n + 1) (hb : Below B0 w w') (he : ∀ b, b < w.heap.size → (∀ i, i < s0.rules.length → b ≠ g.tb i) → (∀ j, j < s0.edges.length → b ≠ g.mb j) → w'.heap[b]? = w.heap[b]?) : Inner B0 g s0 r w (.returned (.tuple #[])) w' := by
  subst h; exact ⟨rfl, ⟨g', hi, hr, hn⟩, hb, he⟩
theorem Inner.bad {B0 : Nat} {s0 : St} {g : Mem} {r : Except Er St} {w w' : World} {l : Nat} {c : Int} (h : r = .error (l, c)) (hb : Below B0 w w') : Inner B0 g s0 r w (wr l c) w' := by
  subst h; exact ⟨rfl, hb⟩
theorem Inv.ruleSet {B0 : Nat} {w w' : World} {g : Mem} {st : St} (h : Inv B0 w g st) (hl : 0 < st.rules.length) (hg : w.grownBy w' (some (g.tb (st.rules.length - 1)))) (k t : Txt) (ht : t.length ≤ 16384)
    (ho : OwnsM w' (g.tb (st.rules.length - 1)) (g.n + 1) (upd (st.rules[st.rules.length - 1]).texts k t)) :
    Inv B0 w' { g with n := g.n + 1 } { st with rules := onLast (fun r => { r with texts := upd r.texts k t }) st.rules } := by
  have hru := h.rules (st.rules.length - 1) (by omega)
  have hlen : (onLast (fun r : RuleS => { r with texts := upd r.texts k t }) st.rules).length = st.rules.length := onLast_len _ _
  have K : Grow st.rules.length st.edges.length (fun r => r = .tmap (st.rules.length - 1)) w w' g { g with n := g.n + 1 } := by
    refine ⟨hg.size, fun b hb hx => hg.block b hb (fun e => hx ?_), fun _ _ => rfl, rfl, fun _ _ => ⟨rfl, rfl⟩, fun _ _ => ⟨rfl, rfl, rfl, rfl, rfl, rfl, rfl⟩, Nat.le_succ _⟩
    injection e with e; rw [e]; exact hru.rt
  have hm : (fun x => (ruleAt (onLast (fun r : RuleS => { r with texts := upd r.texts k t }) st.rules) x).map fun i => at0 (g.rb i)) = fun x => (ruleAt st.rules x).map fun i => at0 (g.rb i) := by
    funext x
    rw [ruleAt_map, ruleAt_map, onLast_map (fun r : RuleS => { r with texts := upd r.texts k t }) (·.name) (fun _ => rfl)]
  refine ⟨Nat.le_trans h.base K.size, h.new, h.rr, K.blk h.hr h.rr (by simp), h.rf, K.blk h.hf h.rf (by simp), h.rfm, (K.mapM h.mf h.rfm (by simp)).mono (Nat.le_succ _), h.sf, h.rrm, ?_, ?_, ?_, h.ne, K.row h.oe h.roe (by simp), h.roe, K.row h.od h.rod (by simp), h.rod, h.nd, ?_⟩
  · show OwnsV w' g.rm (g.n + 1) _
    rw [hm]; exact (K.mapV h.mr h.rrm (by simp)).mono (Nat.le_succ _)
  · intro i hi
    have hi' : i < st.rules.length := by rw [← hlen]; exact hi
    have hri := h.rules i hi'
    show RuleAt w' _ i (onLast _ st.rules)[i]
    rw [onLast_at _ _ i hi hi']
    by_cases e : i + 1 = st.rules.length
    · obtain rfl : i = st.rules.length - 1 := by omega
      rw [if_pos e]
      exact ⟨hri.rr, hri.rt, K.blk hri.hb hri.rr (by simp), ho, hri.nm, hri.sh.upd ht⟩
    · rw [if_neg e]
      exact hri.grow K hi' (by simp) (by simp; omega)
  · intro j hj
    exact (h.edges j hj).grow K hj (by show _ ≤ (onLast _ st.rules).length; rw [hlen]; exact Nat.le_refl _) (by simp) (by simp) (by simp)
  · have h0 := h.inn.grow K (by simp) rfl rfl rfl
    unfold InnAt at h0 ⊢
    simp only [hlen]
    exact h0
def isKey (nm : Txt) : Bool := containsS [B kCommand, B kDepfile, B kDescription] (B nm)
theorem isKey_iff (nm : Txt) : isKey nm = true ↔ (nm = kCommand ∨ nm = kDepfile ∨ nm = kDescription) := by
  unfold isKey
  rw [containsS_iff]
  simp only [List.mem_cons, List.not_mem_nil, or_false]
  constructor
  · rintro (h | h | h)
    · exact .inl (B_inj h)
    · exact .inr (.inl (B_inj h))
    · exact .inr (.inr (B_inj h))
  · rintro (h | h | h)
    · exact .inl (by rw [h])
    · exact .inr (.inl (by rw [h]))
    · exact .inr (.inr (by rw [h]))
theorem keys_any (nm : Txt) (b : Nat) (W : World) (h : W.heap[b]? = some (.cells #[.string ⟨#[99, 111, 109, 109, 97, 110, 100]⟩, .string ⟨#[100, 101, 112, 102, 105, 108, 101]⟩, .string ⟨#[100, 101, 115, 99, 114, 105, 112, 116, 105, 111, 110]⟩] 9 (0, 0))) :
    Calls Tryz.prog 73 #[.slice (some ⟨b, 0, none⟩) 3 3, .string (B nm)] W fun e w' => e = .returned (.bool (isKey nm)) ∧ W = w' := by
  refine (Tryz.slices_Contains_string b 0 3 3 [B kCommand, B kDepfile, B kDescription] (B nm) W (by decide) (by decide) (fun j hj => ?_)).mono fun e w' ⟨h1, h2⟩ => ⟨h1, h2.symm⟩
  rw [Nat.zero_add, cell_of_heap h]
  match j, hj with
  | 0, _ => rfl
  | 1, _ => rfl
  | 2, _ => rfl
set_option maxRecDepth 100000 in
set_option maxHeartbeats 8000000 in
theorem ruleIn_any (B0 : Nat) (g : Mem) (st : St) (nm text : Txt) (p q : Nat) (w : World) (hI : Inv B0 w g st) (hin : st.inner = 1) (hvi : g.vi = .func (.func 72) #[] #[at0 p, at0 q])
    (hnl : nm.length ≤ 1000000) (htl : text.length ≤ 16384) (hgn : g.n < 1000000) :
    Calls Tryz.prog 72 #[.string (B nm), .string (B text), at0 p, at0 q] w
      (Inner B0 g st (if nm = kCommand ∨ nm = kDepfile ∨ nm = kDescription then .ok { st with rules := onLast (fun r => { r with texts := upd r.texts nm text }) st.rules } else .error (g.line, 10)) w) := by
  obtain ⟨RR, hRR⟩ : ∃ RR, (if nm = kCommand ∨ nm = kDepfile ∨ nm = kDescription then Except.ok { st with rules := onLast (fun r => { r with texts := upd r.texts nm text }) st.rules } else .error (g.line, 10) : Except Er St) = RR := ⟨_, rfl⟩
  rw [hRR]
  obtain ⟨hlp, hpr, hqr, hp, hq⟩ : 0 < st.rules.length ∧ g.role p = .still ∧ g.role q = .still ∧ w.heap[p]? = some (.cells #[at0 g.r] 62 (0, 0)) ∧ w.heap[q]? = some (.cells #[at0 (g.rb (st.rules.length - 1))] 68 (0, 0)) := by
    rcases hI.inn with ⟨a, _⟩ | ⟨a, b, _, p', q', c, d, e, f, k⟩ | ⟨a, _⟩
    · omega
    · rw [hvi] at c
      injection c with c1 c2 c3
      have h1 : p = p' := by have := congrArg (fun x => x[0]?) c3; simpa [at0] using this
      have h2 : q = q' := by have := congrArg (fun x => x[1]?) c3; simpa [at0] using this
      subst h1 h2
      exact ⟨b, d, e, f, k⟩
    · omega
  have hru := hI.rules (st.rules.length - 1) (by omega)
  have hB0 := hI.base
  have hKeys := Lib.hid (fun b W h => keys_any nm b W h)
  have c0 : w.cell? ⟨p, 0, none⟩ = some (at0 g.r) := (cell_of_heap (j := 0) hp).trans rfl
  have hplt := lt_blk hp
  have hbA := Lib.hid (((Below.refl w.heap.size w).alloc (Nat.le_refl _) (.cells #[.string ⟨#[99, 111, 109, 109, 97, 110, 100]⟩, .string ⟨#[100, 101, 112, 102, 105, 108, 101]⟩, .string ⟨#[100, 101, 115, 99, 114, 105, 112, 116, 105, 111, 110]⟩] 9)).drew)
  have hnA : Hid (((w.alloc (.cells #[.string ⟨#[99, 111, 109, 109, 97, 110, 100]⟩, .string ⟨#[100, 101, 112, 102, 105, 108, 101]⟩, .string ⟨#[100, 101, 115, 99, 114, 105, 112, 116, 105, 111, 110]⟩] 9)).drew).heap[w.heap.size]? = some (.cells #[.string ⟨#[99, 111, 109, 109, 97, 110, 100]⟩, .string ⟨#[100, 101, 112, 102, 105, 108, 101]⟩, .string ⟨#[100, 101, 115, 99, 114, 105, 112, 116, 105, 111, 110]⟩] 9 (0, 0))) := heap_alloc_new w _
  have hcA : ((w.alloc (.cells #[.string ⟨#[99, 111, 109, 109, 97, 110, 100]⟩, .string ⟨#[100, 101, 112, 102, 105, 108, 101]⟩, .string ⟨#[100, 101, 115, 99, 114, 105, 112, 116, 105, 111, 110]⟩] 9)).drew).cell? ⟨p, 0, none⟩ = some (at0 g.r) := (hbA.out.cell (p := ⟨p, 0, none⟩) hplt).trans c0
  cases hk : isKey nm with
  | false =>
    have hR : Hid (RR = .error (g.line, 10)) := by
      show RR = _
      rw [← hRR, if_neg]
      intro hc
      rw [(isKey_iff nm).2 hc] at hk; cases hk
    have hrdA := Lib.hid (hI.rd.below hbA.out)
    rw [hk] at hKeys
    clear hk hRR hI hvi hru hp hq
    go_enter Tryz.func72, Tryz.ntmps72
    go_wp2_with fail
    refine RegP.regionH (fun w' => w'.cell? ⟨p, 0, none⟩ = some (at0 g.r)) [(1, 0), (0, 2), (2, 1), (2, 3), (2, 4)] (by kernel_rfl) (by kernel_rfl) (by rfl) (by kernel_rfl) (by exact c0) ?_
    refine RegP.held1 (by (simp only [gA,gB,gC]); rfl) (by exact fun _ _ _ h => h) (by rfl) (by intro w' hS_; (try dsimp only at hS_); go_split_ands; go_simp; try with_reducible rfl) ?_
    try simp only [Act.put, pA,pB,pC]
    refine RegP.pure1 (by (simp only [gA,gB,gC]); rfl) (by exact fun _ _ _ h => h) (by rfl) (by intro w'; go_simp; try with_reducible rfl) ?_
    try simp only [Act.put, pA,pB,pC]
    refine RegP.ev1 (by (simp only [gA,gB,gC]); rfl) (fun K hK => ?_)
    go_simp
    generalize (w.alloc (.cells #[.string ⟨#[99, 111, 109, 109, 97, 110, 100]⟩, .string ⟨#[100, 101, 112, 102, 105, 108, 101]⟩, .string ⟨#[100, 101, 115, 99, 114, 105, 112, 116, 105, 111, 110]⟩] 9)).drew = wA at *
    refine hK.out _ _ ?_ (fun hHeld => ?_)
    · (try dsimp only); exact hcA
    clear hK K
    try simp only [Act.put, pA,pB,pC]
    refine RegP.ev1 (by (simp only [gA,gB,gC]); rfl) (fun K hK => ?_)
    go_simp
    refine (hKeys.out w.heap.size _ hnA.out).mono ?_
    rintro e w3 ⟨rfl, rfl⟩
    refine hK.out _ _ ?_ (fun hHeld => ?_)
    · (try dsimp only); exact hcA
    clear hK K
    try simp only [Act.put, pA,pB,pC]
    refine RegP.ev1 (by (simp only [gA,gB,gC]); rfl) (fun K hK => ?_)
    go_simp
    refine (need_no g.r g.line 10 _ hrdA.out.c4).mono ?_
    rintro e w4 ⟨rfl, rfl⟩
    exact ⟨rfl, Inner.bad hR.out (hbA.out.mono hB0)⟩
  | true =>
    have hR : Hid (RR = .ok { st with rules := onLast (fun r => { r with texts := upd r.texts nm text }) st.rules }) := by
      show RR = _
      rw [← hRR, if_pos ((isKey_iff nm).1 hk)]
    have hIA := Lib.hid (hI.below hbA.out)
    have hruA := hIA.out.rules (st.rules.length - 1) (by omega)
    have d0 : ((w.alloc (.cells #[.string ⟨#[99, 111, 109, 109, 97, 110, 100]⟩, .string ⟨#[100, 101, 112, 102, 105, 108, 101]⟩, .string ⟨#[100, 101, 115, 99, 114, 105, 112, 116, 105, 111, 110]⟩] 9)).drew).cell? ⟨q, 0, none⟩ = some (at0 (g.rb (st.rules.length - 1))) := (hbA.out.cell (p := ⟨q, 0, none⟩) (lt_blk hq)).trans ((cell_of_heap (j := 0) hq).trans rfl)
    have d1 : ((w.alloc (.cells #[.string ⟨#[99, 111, 109, 109, 97, 110, 100]⟩, .string ⟨#[100, 101, 112, 102, 105, 108, 101]⟩, .string ⟨#[100, 101, 115, 99, 114, 105, 112, 116, 105, 111, 110]⟩] 9)).drew).cell? ⟨g.rb (st.rules.length - 1), 0, none⟩ = some (.map (some (g.tb (st.rules.length - 1)))) := (cell_of_heap (j := 0) hruA.hb).trans rfl
    obtain ⟨w5, hrun, hO, hg5⟩ := hruA.ht.store (by unfold maxLen; omega) nm text (by unfold maxLen; omega) (by unfold maxLen; omega)
    have hfin := Lib.hid (hIA.out.ruleSet hlp hg5 nm text htl hO)
    have hrm : Hid (B0 ≤ g.tb (st.rules.length - 1)) := hI.new _ (by rw [hru.rt]; simp)
    have hner : Hid (some g.r ≠ some (g.tb (st.rules.length - 1))) := by
      intro e; injection e with e
      have h1 := hI.rr; rw [e, hru.rt] at h1; cases h1
    have hgr := lt_blk hI.hr
    have hbf : Hid (Below B0 w w5 ∧ ∀ b, b < w.heap.size → (∀ i, i < st.rules.length → b ≠ g.tb i) → (∀ j, j < st.edges.length → b ≠ g.mb j) → w5.heap[b]? = w.heap[b]?) := by
      refine ⟨(hbA.out.mono hB0).grown hg5 (Nat.le_trans hB0 hbA.out.size) (fun k hk => by injection hk with hk; rw [← hk]; exact hrm.out), ?_⟩
      intro b hb h1 h2
      exact (hg5.block _ (Nat.lt_of_lt_of_le hb hbA.out.size) (fun e => h1 (st.rules.length - 1) (by omega) (by injection e))).trans (hbA.out.block _ hb)
    rw [hk] at hKeys
    clear hk hRR hI hvi hru hp hq hO hg5 hruA
    generalize g.rb (st.rules.length - 1) = rbl at *
    generalize g.tb (st.rules.length - 1) = tbl at *
    go_enter Tryz.func72, Tryz.ntmps72
    go_wp2_with fail
    refine RegP.regionH (fun w' => w'.cell? ⟨p, 0, none⟩ = some (at0 g.r)) [(1, 0), (0, 2), (2, 1), (2, 3), (2, 4)] (by kernel_rfl) (by kernel_rfl) (by rfl) (by kernel_rfl) (by exact c0) ?_
    refine RegP.held1 (by (simp only [gA,gB,gC]); rfl) (by exact fun _ _ _ h => h) (by rfl) (by intro w' hS_; (try dsimp only at hS_); go_split_ands; go_simp; try with_reducible rfl) ?_
    try simp only [Act.put, pA,pB,pC]
    refine RegP.pure1 (by (simp only [gA,gB,gC]); rfl) (by exact fun _ _ _ h => h) (by rfl) (by intro w'; go_simp; try with_reducible rfl) ?_
    try simp only [Act.put, pA,pB,pC]
    refine RegP.ev1 (by (simp only [gA,gB,gC]); rfl) (fun K hK => ?_)
    go_simp
    generalize (w.alloc (.cells #[.string ⟨#[99, 111, 109, 109, 97, 110, 100]⟩, .string ⟨#[100, 101, 112, 102, 105, 108, 101]⟩, .string ⟨#[100, 101, 115, 99, 114, 105, 112, 116, 105, 111, 110]⟩] 9)).drew = wA at *
    refine hK.out _ _ ?_ (fun hHeld => ?_)
    · (try dsimp only); exact hcA
    clear hK K
    try simp only [Act.put, pA,pB,pC]
    refine RegP.ev1 (by (simp only [gA,gB,gC]); rfl) (fun K hK => ?_)
    go_simp
    refine (hKeys.out w.heap.size _ hnA.out).mono ?_
    rintro e w3 ⟨rfl, rfl⟩
    refine hK.out _ _ ?_ (fun hHeld => ?_)
    · (try dsimp only); exact hcA
    clear hK K
    try simp only [Act.put, pA,pB,pC]
    refine RegP.ev1 (by (simp only [gA,gB,gC]); rfl) (fun K hK => ?_)
    go_simp
    refine (need_ok _ _ _).mono ?_
    rintro e w4 ⟨rfl, rfl⟩
    refine hK.out _ _ ?_ (fun hHeld => ?_)
    · (try dsimp only); exact hcA
    clear hK K
    try simp only [Act.put, pA,pB,pC]
    refine RegP.done1 ?_
    clear hHeld
    try dsimp only
    go_wp2_with fail
    go_end0
    exact Inner.fin hR.out hfin.out rfl (Nat.le_refl _) hbf.out.1 hbf.out.2
end Go.Proofs.YtbjekebkgidhaaaGreatDoor.Mf
end
section
set_option linter.unusedSimpArgs false
set_option linter.unusedVariables false
namespace Go.Proofs.YtbjekebkgidhaaaGreatDoor.Mf
open Go.RowKit Go.Lib Go.Shelf Go.Maps Go.Proofs.YtbjekebkgidhaaaGreatDoorW.PrintWords Go.Proofs.YtbjekebkgidhaaaGreatDoor.U Go.Proofs.YtbjekebkgidhaaaGreatDoor.Sc Go.Proofs.YtbjekebkgidhaaaGreatDoor.P Go.Proofs.YtbjekebkgidhaaaGreatDoor.MapV
structure Made (w W : World) (g : Mem) (ri mb sb eb p q : Nat) (v0 v1 v2 v3 : Value) : Prop where
  below : Below w.heap.size w W
  lm : w.heap.size ≤ mb
  ls : w.heap.size ≤ sb
  le : w.heap.size ≤ eb
  lp : w.heap.size ≤ p
  lq : w.heap.size ≤ q
  hm : W.heap[mb]? = some (.map #[] 0)
  hs : W.heap[sb]? = some (.cells #[at0 g.fb, .map (some mb)] 91 (0, 0))
  he : W.heap[eb]? = some (.cells #[v0, v1, v2, v3, .string (B []), .string (B []), at0 (g.rb ri), at0 sb, .int .i64 (g.line : Int)] 103 (0, 0))
  hp : W.heap[p]? = some (.cells #[at0 g.r] 62 (0, 0))
  hq : W.heap[q]? = some (.cells #[at0 eb] 74 (0, 0))
section
variable {w W W' : World} {g : Mem} {ri mb sb eb p q : Nat} {v0 v1 v2 v3 : Value}
theorem Made.more (h : Made w W g ri mb sb eb p q v0 v1 v2 v3) (hb : Below W.heap.size W W') : Made w W' g ri mb sb eb p q v0 v1 v2 v3 :=
  ⟨h.below.trans (hb.mono h.below.size), h.lm, h.ls, h.le, h.lp, h.lq, (hb.block _ (lt_blk h.hm)).trans h.hm, (hb.block _ (lt_blk h.hs)).trans h.hs, (hb.block _ (lt_blk h.he)).trans h.he, (hb.block _ (lt_blk h.hp)).trans h.hp, (hb.block _ (lt_blk h.hq)).trans h.hq⟩
theorem ne_of_cells {w : World} {a b : Nat} {c1 c2 : Array Value} {t1 t2 : TypeId} {f1 f2 : Nat × Nat} (h1 : w.heap[a]? = some (.cells c1 t1 f1)) (h2 : w.heap[b]? = some (.cells c2 t2 f2)) (ht : t1 ≠ t2) : a ≠ b := by
  rintro rfl
  rw [h1] at h2
  injection h2 with h2
  injection h2 with _ h2 _
  exact ht h2
theorem ne_of_map {w : World} {a b : Nat} {c1 : Array Value} {t1 : TypeId} {f1 : Nat × Nat} {es : Array MapEntry} {k : Nat} (h1 : w.heap[a]? = some (.cells c1 t1 f1)) (h2 : w.heap[b]? = some (.map es k)) : a ≠ b := by
  rintro rfl
  rw [h1] at h2
  cases h2
theorem Made.set (h : Made w W g ri mb sb eb p q v0 v1 v2 v3) (i : Nat) (u : Value) (v0' v1' v2' v3' : Value)
    (e : (#[v0, v1, v2, v3, .string (B []), .string (B []), at0 (g.rb ri), at0 sb, .int .i64 (g.line : Int)] : Array Value).setIfInBounds i u = #[v0', v1', v2', v3', .string (B []), .string (B []), at0 (g.rb ri), at0 sb, .int .i64 (g.line : Int)]) :
    Made w (W.setCell ⟨eb, i, none⟩ u) g ri mb sb eb p q v0' v1' v2' v3' := by
  refine ⟨h.below.setCell h.le _, h.lm, h.ls, h.le, h.lp, h.lq, ?_, ?_, blk_put h.he i u e, ?_, ?_⟩
  · rw [Below.heap_setCell _ _ _ _ (show mb ≠ eb from (ne_of_map h.he h.hm).symm)]; exact h.hm
  · rw [Below.heap_setCell _ _ _ _ (show sb ≠ eb from ne_of_cells h.hs h.he (by decide))]; exact h.hs
  · rw [Below.heap_setCell _ _ _ _ (show p ≠ eb from ne_of_cells h.hp h.he (by decide))]; exact h.hp
  · rw [Below.heap_setCell _ _ _ _ (show q ≠ eb from ne_of_cells h.hq h.he (by decide))]; exact h.hq
end
theorem own_lower {w : World} {b b' : Nat} {e size n : Nat} {v : Value} {xs : List Value} (h : w.ownsRow b e size v n xs) (hb : b' ≤ b) : w.ownsRow b' e size v n xs := by
  refine ⟨h.1, ?_⟩
  rcases h.2 with h2 | ⟨g, cap, cur, h3, h4, r⟩
  · exact .inl h2
  · exact .inr ⟨g, cap, cur, h3, Nat.le_trans hb h4, r⟩
theorem Inv.edgeNew {B0 : Nat} {w W w2 : World} {g : Mem} {st : St} (h : Inv B0 w g st) (hin : st.inner = 0) (ri mb sb eb p q : Nat) (v0 v1 v2 v3 ve1 : Value) (o i m d : List Txt) (hM : Made w W g ri mb sb eb p q v0 v1 v2 v3)
    (hri : ri < st.rules.length) (h0 : W.ownsRow w.heap.size 9 1 v0 o.length (strs o)) (h1 : W.ownsRow w.heap.size 9 1 v1 i.length (strs i)) (h2 : W.ownsRow w.heap.size 9 1 v2 m.length (strs m)) (h3 : W.ownsRow w.heap.size 9 1 v3 d.length (strs d))
    (f0 : few o) (f1 : few i) (hne : st.edges.length < 200)
    (ho : w2.ownsRow B0 74 1 ve1 (st.edges.length + 1) ((List.range st.edges.length).map (fun j => at0 (g.eb j)) ++ [at0 eb])) (hg : W.grownBy w2 g.ve.ownBlock) (ha : ve1.ownBlock = g.ve.ownBlock ∨ ∃ b, ve1.ownBlock = some b ∧ W.heap.size ≤ b) :
    ∃ g', Inv B0 ((w2.setCell ⟨g.r, 2, none⟩ ve1).setCell ⟨g.r, 5, none⟩ (.func (.func 76) #[] #[at0 q, at0 p])) g' { st with edges := st.edges ++ [⟨o, i, m, d, ri, none0, g.line⟩], inner := 2 } ∧ g'.r = g.r ∧ g'.n = g.n ∧
      w2.cell? ⟨g.r, 2, none⟩ = some g.ve ∧ w2.frozen? ⟨g.r, 2, none⟩ = false ∧ (w2.setCell ⟨g.r, 2, none⟩ ve1).cell? ⟨g.r, 5, none⟩ = some g.vi ∧ (w2.setCell ⟨g.r, 2, none⟩ ve1).frozen? ⟨g.r, 5, none⟩ = false := by
  have hW := h.below hM.below
  let ne := st.edges.length
  let vi : Value := .func (.func 76) #[] #[at0 q, at0 p]
  have hvo : g.vo = .pointer none := by
    rcases h.inn with ⟨_, _, a⟩ | ⟨a, _⟩ | ⟨a, _⟩
    · exact a
    · omega
    · omega
  let up : (Nat → Value) → Value → Nat → Value := fun f v j => if j < ne then f j else v
  let upn : (Nat → Nat) → Nat → Nat → Nat := fun f v j => if j < ne then f j else v
  let g' : Mem := { g with eb := upn g.eb eb, sb := upn g.sb sb, mb := upn g.mb mb, e0 := up g.e0 v0, e1 := up g.e1 v1, e2 := up g.e2 v2, e3 := up g.e3 v3, ve := ve1, vi := vi, role := fun b => if b < w.heap.size then g.role b else if b = mb then .omap ne else if b = eb then .edge ne else if W.heap.size ≤ b ∧ ve1.ownBlock = some b then .erow else .still }
  have upo : ∀ f v j, j < ne → up f v j = f j := fun f v j hj => if_pos hj
  have upno : ∀ f v j, j < ne → upn f v j = f j := fun f v j hj => if_pos hj
  have upl : ∀ f v, up f v ne = v := fun f v => if_neg (by omega)
  have upnl : ∀ f v, upn f v ne = v := fun f v => if_neg (by omega)
  have hrl : ∀ b, b < w.heap.size → g'.role b = g.role b := fun b hb => if_pos hb
  have hsW : w.heap.size ≤ W.heap.size := hM.below.size
  have hst : ∀ b, w.heap.size ≤ b → b < W.heap.size → b ≠ mb → b ≠ eb → g'.role b = .still := by
    intro b h1 h2 h3 h4
    show (if b < w.heap.size then _ else if b = mb then _ else if b = eb then _ else if W.heap.size ≤ b ∧ _ then _ else _) = _
    rw [if_neg (by omega), if_neg h3, if_neg h4, if_neg (by omega)]
  have hner : some g.r ≠ g.ve.ownBlock := fun e => by have := h.roe g.r e.symm; rw [h.rr] at this; cases this
  have hrlt := lt_blk h.hr
  have hr2 : w2.heap[g.r]? = some (.cells #[at0 g.fb, .map (some g.rm), g.ve, g.vd, .int .i64 (g.line : Int), g.vi, g.vo] 70 (0, 0)) := (hg.block _ (lt_blk hW.hr) hner).trans hW.hr
  have hveb : ∀ b, g.ve.ownBlock = some b → b < w.heap.size := fun b hb => own_lt h.oe b hb
  have hv1r : ve1.ownBlock ≠ some g.r := by
    intro e
    rcases ha with ha | ⟨b, hb, hb2⟩
    · exact hner (by rw [← ha, e])
    · rw [hb] at e; injection e with e; have := lt_blk hW.hr; omega
  have w3e : ∀ b, b ≠ g.r → ((w2.setCell ⟨g.r, 2, none⟩ ve1).setCell ⟨g.r, 5, none⟩ vi).heap[b]? = w2.heap[b]? := fun b hb => by
    rw [Below.heap_setCell _ _ _ b hb, Below.heap_setCell _ _ _ b hb]
  have w2e : ∀ b, w.heap.size ≤ b → b < W.heap.size → w2.heap[b]? = W.heap[b]? := fun b h1 h2 => hg.block b h2 (fun e => by have := hveb b e.symm; omega)
  have w3n : ∀ b, w.heap.size ≤ b → b < W.heap.size → ((w2.setCell ⟨g.r, 2, none⟩ ve1).setCell ⟨g.r, 5, none⟩ vi).heap[b]? = W.heap[b]? := fun b h1 h2 => (w3e b (by omega)).trans (w2e b h1 h2)
  have hr3 := blk_put (blk_put hr2 2 ve1 rfl) 5 vi rfl
  have k : Grow st.rules.length ne (fun r => r = .reader ∨ r = .erow) w ((w2.setCell ⟨g.r, 2, none⟩ ve1).setCell ⟨g.r, 5, none⟩ vi) g g' := by
    refine ⟨by rw [World.size_setCell, World.size_setCell]; exact Nat.le_trans hsW hg.size, fun b hb hx => ?_, hrl, rfl, fun _ _ => ⟨rfl, rfl⟩, fun j hj => ⟨upno _ _ _ hj, upno _ _ _ hj, upno _ _ _ hj, upo _ _ _ hj, upo _ _ _ hj, upo _ _ _ hj, upo _ _ _ hj⟩, Nat.le_refl _⟩
    rw [w3e b (fun e => hx (.inl (by rw [e]; exact h.rr)))]
    exact (hg.block b (by omega) (fun e => hx (.inr (h.roe b e.symm)))).trans (hM.below.block b hb)
  have rowk : ∀ (v : Value) (l : List Txt), W.ownsRow w.heap.size 9 1 v l.length (strs l) → SlA B0 ((w2.setCell ⟨g.r, 2, none⟩ ve1).setCell ⟨g.r, 5, none⟩ vi) g' v l := by
    intro v l hv
    refine ⟨own_lower (own_move hv fun b hb => w3n b (own_base hv b hb) (own_lt hv b hb)) h.base, fun b hb => ?_⟩
    obtain ⟨cs, hcs⟩ := own_typed hv b hb
    exact hst b (own_base hv b hb) (own_lt hv b hb) (ne_of_map hcs hM.hm) (ne_of_cells hcs hM.he (by decide))
  refine ⟨g', ⟨?_, ?_, ?_, ?_, k.roleb h.hf h.rf, k.blk h.hf h.rf (by simp), (k.role _ h.mf.lt).trans h.rfm, k.mapM h.mf h.rfm (by simp), h.sf, (k.role _ h.mr.lt).trans h.rrm, k.mapV h.mr h.rrm (by simp),
    fun i hi => (h.rules i hi).grow k hi (by simp) (by simp), ?_, ?_, ?_, ?_, k.row h.od h.rod (by simp), k.rolev h.od h.rod, h.nd, ?_⟩, rfl, rfl, by rw [cell_of_heap hr2]; rfl, frozen_of_heap hr2 2, by rw [cell_of_heap (blk_put hr2 2 ve1 rfl)]; rfl, frozen_of_heap (blk_put hr2 2 ve1 rfl) 5⟩
  · rw [World.size_setCell, World.size_setCell]; exact Nat.le_trans h.base (Nat.le_trans hsW hg.size)
  · intro b hb
    by_cases hlt : b < w.heap.size
    · rw [hrl b hlt] at hb; exact h.new b hb
    · have := h.base; omega
  · rw [hrl _ hrlt]; exact h.rr
  · exact hr3
  · intro j hj
    rw [List.length_append, List.length_cons, List.length_nil] at hj
    by_cases hlt : j < ne
    · rw [List.getElem_append_left hlt]
      exact (h.edges j hlt).grow k hlt (Nat.le_refl _) (by simp) (by simp) (by simp)
    · obtain rfl : j = ne := by omega
      rw [List.getElem_append_right (Nat.le_refl _)]
      simp only [Nat.sub_self, List.getElem_cons_zero]
      have hmb : mb ≠ eb := (ne_of_map hM.he hM.hm).symm
      refine ⟨?_, ?_, ?_, ?_, ?_, ?_, hri, ?_, ?_, ?_, ?_, Short.none0 _, f0, f1⟩
      · show g'.role (upn g.eb eb ne) = _
        rw [upnl]
        show (if eb < w.heap.size then _ else if eb = mb then _ else if eb = eb then _ else _) = _
        rw [if_neg (by have := hM.le; omega), if_neg (Ne.symm hmb), if_pos rfl]
      · show g'.role (upn g.sb sb ne) = _
        rw [upnl]
        exact hst sb hM.ls (lt_blk hM.hs) (ne_of_map hM.hs hM.hm) (ne_of_cells hM.hs hM.he (by decide))
      · show g'.role (upn g.mb mb ne) = _
        rw [upnl]
        show (if mb < w.heap.size then _ else if mb = mb then _ else _) = _
        rw [if_neg (by have := hM.lm; omega), if_pos rfl]
      · show ((w2.setCell ⟨g.r, 2, none⟩ ve1).setCell ⟨g.r, 5, none⟩ vi).heap[upn g.eb eb ne]? = some (.cells #[up g.e0 v0 ne, up g.e1 v1 ne, up g.e2 v2 ne, up g.e3 v3 ne, _, _, _, at0 (upn g.sb sb ne), _] _ _)
        rw [upnl, upnl, upl, upl, upl, upl, w3n _ hM.le (lt_blk hM.he)]; exact hM.he
      · show ((w2.setCell ⟨g.r, 2, none⟩ ve1).setCell ⟨g.r, 5, none⟩ vi).heap[upn g.sb sb ne]? = some (.cells #[_, .map (some (upn g.mb mb ne))] _ _)
        rw [upnl, upnl, w3n _ hM.ls (lt_blk hM.hs)]; exact hM.hs
      · show OwnsM _ (upn g.mb mb ne) _ _
        rw [upnl]
        exact (OwnsM.made_at ((w3n _ hM.lm (lt_blk hM.hm)).trans hM.hm)).mono (Nat.zero_le _)
      · show SlA _ _ _ (up g.e0 v0 ne) _; rw [upl]; exact rowk v0 o h0
      · show SlA _ _ _ (up g.e1 v1 ne) _; rw [upl]; exact rowk v1 i h1
      · show SlA _ _ _ (up g.e2 v2 ne) _; rw [upl]; exact rowk v2 m h2
      · show SlA _ _ _ (up g.e3 v3 ne) _; rw [upl]; exact rowk v3 d h3
  · rw [List.length_append, List.length_cons, List.length_nil]; omega
  · rw [List.length_append, List.length_cons, List.length_nil, List.range_succ, List.map_append]
    have e1 : (List.range st.edges.length).map (fun j => at0 (g'.eb j)) = (List.range st.edges.length).map (fun j => at0 (g.eb j)) := by
      refine List.map_congr_left fun j hj => ?_
      show at0 (upn g.eb eb j) = _
      rw [upno _ _ _ (List.mem_range.1 hj)]
    have e2 : [st.edges.length].map (fun j => at0 (g'.eb j)) = [at0 eb] := by
      show [at0 (upn g.eb eb ne)] = _
      rw [upnl]
    rw [e1, e2]
    exact own_move ho fun b hb => w3e b (fun e => hv1r (by rw [hb, e]))
  · intro b hb
    rcases ha with ha | ⟨b', hb', hb2⟩
    · have hb3 : g.ve.ownBlock = some b := by rw [← ha]; exact hb
      rw [hrl b (hveb b hb3)]; exact h.roe b hb3
    · have : b = b' := by rw [show ve1.ownBlock = some b from hb] at hb'; injection hb'
      subst this
      have e1 : b ≠ mb := by have := lt_blk hM.hm; omega
      have e2 : b ≠ eb := by have := lt_blk hM.he; omega
      show (if b < w.heap.size then _ else if b = mb then _ else if b = eb then _ else if W.heap.size ≤ b ∧ _ then _ else _) = _
      rw [if_neg (by omega), if_neg e1, if_neg e2, if_pos ⟨hb2, hb⟩]
  · refine .inr (.inr ⟨rfl, by rw [List.length_append]; simp, hvo, q, p, rfl, ?_, ?_, ?_, ?_⟩)
    · exact hst q hM.lq (lt_blk hM.hq) (ne_of_map hM.hq hM.hm) (ne_of_cells hM.hq hM.he (by decide))
    · exact hst p hM.lp (lt_blk hM.hp) (ne_of_map hM.hp hM.hm) (ne_of_cells hM.hp hM.he (by decide))
    · rw [List.length_append, List.length_cons, List.length_nil, Nat.add_sub_cancel, w3n _ hM.lq (lt_blk hM.hq)]
      show _ = some (Obj.cells #[at0 (upn g.eb eb ne)] _ _)
      rw [upnl]; exact hM.hq
    · rw [w3n _ hM.lp (lt_blk hM.hp)]; exact hM.hp
end Go.Proofs.YtbjekebkgidhaaaGreatDoor.Mf
end
section
set_option linter.unusedSimpArgs false
set_option linter.unusedVariables false
namespace Go.Proofs.YtbjekebkgidhaaaGreatDoor.RegP
open Go Go.Proofs.YtbjekebkgidhaaaGreatDoor.RegG
inductive Tree
  | nil
  | cons (t i : Nat) (r : Tree)
  | fork (i1 : Nat) (r1 : Tree) (i2 : Nat) (r2 : Tree)
def treeOk (md : Region.Mode) (ops : Array Oper) : Nat → Tree → Array Bool → Bool
  | _, .nil, l => Region.ready md ops l == []
  | n + 1, .cons t i r, l =>
    (match t with
    | 0 => Region.free md ops l i && (Region.ready md ops l).contains i
    | 1 => Region.free md ops l i && (Region.ready md ops l).contains i
    | 2 => Region.ready md ops l == [i]
    | _ => false) && treeOk md ops n r (l.setIfInBounds i true)
  | n + 1, .fork i1 r1 i2 r2, l => Region.ready md ops l == [i1, i2] && (treeOk md ops n r1 (l.setIfInBounds i1 true) && treeOk md ops n r2 (l.setIfInBounds i2 true))
  | 0, _, _ => false
section
variable {P : Program} {ops : Array Oper} {Q : Exit → Act → World → Prop} {S : World → Prop}
def wpTree (P : Program) (ops : Array Oper) (Q : Exit → Act → World → Prop) (S : World → Prop) : Tree → Act → World → Prop
  | .nil, a, w => Q .normal a w
  | .cons t i r, a, w => ∃ o, ops[i]? = some o ∧
    match t with
    | 0 => ∃ v, (∀ c a w, Q (.panic c) (a.put o.dst v) w → Q (.panic c) a w) ∧ Region.wanted o (yielded ops a.tmps) = true ∧ (∀ w', (execOp a.eval o).run P w' = .ok (.value v) w') ∧ wpTree P ops Q S r (a.put o.dst v) w
    | 1 => ∃ v, (∀ c a w, Q (.panic c) (a.put o.dst v) w → Q (.panic c) a w) ∧ Region.wanted o (yielded ops a.tmps) = true ∧ (∀ w', S w' → (execOp a.eval o).run P w' = .ok (.value v) w') ∧ wpTree P ops Q S r (a.put o.dst v) w
    | _ => ∀ K' : Act → World → Prop, Shut (∀ a w, S w → (S w → wpTree P ops Q S r a w) → K' a w) → if Region.wanted o (yielded ops a.tmps) = true then Oper.wp P o a w K' Q else K' (a.put o.dst undef) w
  | .fork i1 r1 i2 r2, a, w => ∃ o1 o2, ops[i1]? = some o1 ∧ ops[i2]? = some o2 ∧
    (∀ K' : Act → World → Prop, Shut (∀ a w, S w → (S w → wpTree P ops Q S r1 a w) → K' a w) → if Region.wanted o1 (yielded ops a.tmps) = true then Oper.wp P o1 a w K' Q else K' (a.put o1.dst undef) w) ∧
    (∀ K' : Act → World → Prop, Shut (∀ a w, S w → (S w → wpTree P ops Q S r2 a w) → K' a w) → if Region.wanted o2 (yielded ops a.tmps) = true then Oper.wp P o2 a w K' Q else K' (a.put o2.dst undef) w)
theorem any_of_tree (hs : Region.noSelect ops = true) : ∀ (n : Nat) (t : Tree) (l : Array Bool) (a : Act) (w : World), treeOk .any ops n t l = true → S w → wpTree P ops Q S t a w → wpAnyH P .any ops Q S n l a w
  | n, .nil, l, a, w, hok, _, h => by
    cases n <;> exact wpAnyH_done (by simpa [treeOk] using hok) h _
  | n + 1, .cons t i r, l, a, w, hok, hS, h => by
    obtain ⟨o, ho, h⟩ := h
    rcases t with _ | _ | _ | t
    · replace hok : ((Region.free .any ops l i && (Region.ready .any ops l).contains i) && treeOk .any ops n r (l.setIfInBounds i true)) = true := hok
      obtain ⟨h1, h2⟩ := Bool.and_eq_true_iff.1 hok
      obtain ⟨e2, e3⟩ := Bool.and_eq_true_iff.1 h1
      obtain ⟨v, q1, q2, q3, q4⟩ := h
      exact wpAnyH_take ho hs e2 e3 q1 (.inl ⟨q2, fun w' _ => q3 w'⟩) hS (any_of_tree hs n r _ _ w h2 hS q4)
    · replace hok : ((Region.free .any ops l i && (Region.ready .any ops l).contains i) && treeOk .any ops n r (l.setIfInBounds i true)) = true := hok
      obtain ⟨h1, h2⟩ := Bool.and_eq_true_iff.1 hok
      obtain ⟨e2, e3⟩ := Bool.and_eq_true_iff.1 h1
      obtain ⟨v, q1, q2, q3, q4⟩ := h
      exact wpAnyH_take ho hs e2 e3 q1 (.inl ⟨q2, q3⟩) hS (any_of_tree hs n r _ _ w h2 hS q4)
    · replace hok : ((Region.ready .any ops l == [i]) && treeOk .any ops n r (l.setIfInBounds i true)) = true := hok
      obtain ⟨h1, h2⟩ := Bool.and_eq_true_iff.1 hok
      have hr : Region.ready .any ops l = [i] := eq_of_beq h1
      refine wpAnyH_ready hr (by simp) (AllReadyH.cons ho (fun K' hK => ?_) AllReadyH.nil)
      exact h K' (fun a w hS' hW => hK.out a w hS' (fun hS'' => any_of_tree hs n r _ _ w h2 hS'' (hW hS'')))
    · replace hok : (false && treeOk .any ops n r (l.setIfInBounds i true)) = true := hok
      simp at hok
  | n + 1, .fork i1 r1 i2 r2, l, a, w, hok, hS, h => by
    obtain ⟨o1, o2, ho1, ho2, h1, h2⟩ := h
    replace hok : (Region.ready .any ops l == [i1, i2] && (treeOk .any ops n r1 (l.setIfInBounds i1 true) && treeOk .any ops n r2 (l.setIfInBounds i2 true))) = true := hok
    obtain ⟨e1, e2⟩ := Bool.and_eq_true_iff.1 hok
    obtain ⟨e2, e3⟩ := Bool.and_eq_true_iff.1 e2
    have hr : Region.ready .any ops l = [i1, i2] := eq_of_beq e1
    refine wpAnyH_ready hr (by simp) (AllReadyH.cons ho1 (fun K' hK => ?_) (AllReadyH.cons ho2 (fun K' hK => ?_) AllReadyH.nil))
    · exact h1 K' (fun a w hS' hW => hK.out a w hS' (fun hS'' => any_of_tree hs n r1 _ _ w e2 hS'' (hW hS'')))
    · exact h2 K' (fun a w hS' hW => hK.out a w hS' (fun hS'' => any_of_tree hs n r2 _ _ w e3 hS'' (hW hS'')))
  | 0, .cons _ _ _, l, a, w, hok, _, _ => by simp [treeOk] at hok
  | 0, .fork _ _ _ _, l, a, w, hok, _, _ => by simp [treeOk] at hok
theorem regionT {id : Nat} {a : Act} {w : World} (S : World → Prop) (t : Tree) (hm : P.follows .mixedOrders = true) (hs : Region.noSelect ops = true) (hok : treeOk .any ops ops.size t (Array.replicate ops.size false) = true)
    (hS : S w.drew) (h : wpTree P ops Q S t a w.drew) : (Code.region id ops true).wp P Q a w := by
  refine wp_region_held_drew hm hS fun hS' => ?_
  exact any_of_tree hs _ t _ a _ hok hS' h
theorem pureT {i : Nat} {r : Tree} {a : Act} {w : World} {o : Oper} {v : Value} (ho : ops[i]? = some o) (hQ : ∀ c a w, Q (.panic c) (a.put o.dst v) w → Q (.panic c) a w) (hw : Region.wanted o (yielded ops a.tmps) = true)
    (hv : ∀ w', (execOp a.eval o).run P w' = .ok (.value v) w') (h : wpTree P ops Q S r (a.put o.dst v) w) : wpTree P ops Q S (.cons 0 i r) a w := ⟨o, ho, v, hQ, hw, hv, h⟩
theorem heldT {i : Nat} {r : Tree} {a : Act} {w : World} {o : Oper} {v : Value} (ho : ops[i]? = some o) (hQ : ∀ c a w, Q (.panic c) (a.put o.dst v) w → Q (.panic c) a w) (hw : Region.wanted o (yielded ops a.tmps) = true)
    (hv : ∀ w', S w' → (execOp a.eval o).run P w' = .ok (.value v) w') (h : wpTree P ops Q S r (a.put o.dst v) w) : wpTree P ops Q S (.cons 1 i r) a w := ⟨o, ho, v, hQ, hw, hv, h⟩
theorem doneT {a : Act} {w : World} (h : Q .normal a w) : wpTree P ops Q S .nil a w := h
theorem evT {i : Nat} {r : Tree} {a : Act} {w : World} {o : Oper} (ho : ops[i]? = some o)
    (h : ∀ K' : Act → World → Prop, Shut (∀ a w, S w → (S w → wpTree P ops Q S r a w) → K' a w) → if Region.wanted o (yielded ops a.tmps) = true then Oper.wp P o a w K' Q else K' (a.put o.dst undef) w) : wpTree P ops Q S (.cons 2 i r) a w := ⟨o, ho, h⟩
theorem forkT {i1 i2 : Nat} {r1 r2 : Tree} {a : Act} {w : World} {o1 o2 : Oper} (ho1 : ops[i1]? = some o1) (ho2 : ops[i2]? = some o2)
    (h1 : ∀ K' : Act → World → Prop, Shut (∀ a w, S w → (S w → wpTree P ops Q S r1 a w) → K' a w) → if Region.wanted o1 (yielded ops a.tmps) = true then Oper.wp P o1 a w K' Q else K' (a.put o1.dst undef) w)
    (h2 : ∀ K' : Act → World → Prop, Shut (∀ a w, S w → (S w → wpTree P ops Q S r2 a w) → K' a w) → if Region.wanted o2 (yielded ops a.tmps) = true then Oper.wp P o2 a w K' Q else K' (a.put o2.dst undef) w) : wpTree P ops Q S (.fork i1 r1 i2 r2) a w := ⟨o1, o2, ho1, ho2, h1, h2⟩
end
end Go.Proofs.YtbjekebkgidhaaaGreatDoor.RegP
end
section
set_option linter.unusedSimpArgs false
set_option linter.unusedVariables false
namespace Go.Proofs.YtbjekebkgidhaaaGreatDoor.Mf
open Go.RowKit Go.Lib Go.Shelf Go.Maps Go.Proofs.YtbjekebkgidhaaaGreatDoorW.PrintWords Go.Proofs.YtbjekebkgidhaaaGreatDoor.U Go.Proofs.YtbjekebkgidhaaaGreatDoor.Sc Go.Proofs.YtbjekebkgidhaaaGreatDoor.P Go.Proofs.YtbjekebkgidhaaaGreatDoor.MapV
theorem heapAt (w : World) (o : Obj) (i : Nat) : (w.alloc o).heap[i]? = if i = w.heap.size then some o else w.heap[i]? := by
  show (w.heap.push o)[i]? = _
  rw [Array.getElem?_push]
theorem heapAt_eq {w : World} {o : Obj} {i : Nat} (h : i = w.heap.size) : (w.alloc o).heap[i]? = some o := by rw [heapAt, if_pos h]
theorem heapAt_lt {w : World} {o : Obj} {i : Nat} (h : i < w.heap.size) : (w.alloc o).heap[i]? = w.heap[i]? := by rw [heapAt, if_neg (by omega)]
theorem cleanL_few (s : Txt) (h : (cleanL s).2 = 0) : (cleanL s).1.length ≤ 100 := by
  unfold cleanL at h ⊢
  generalize foldP (splitK 47 0 s) [] = F at *
  by_cases h1 : 1000 < s.length
  · rw [if_pos h1] at h; exact absurd h (by decide)
  rw [if_neg h1] at h ⊢
  by_cases h2 : s.head? = some 47 ∨ s.all plainB = false
  · rw [if_pos h2] at h; exact absurd h (by decide)
  rw [if_neg h2] at h ⊢
  cases F with
  | none => exact absurd h (show ¬ ((5 : Int) = 0) by decide)
  | some ps =>
    by_cases h4 : joinP ps = []
    · simp only [if_pos h4] at h; exact absurd h (by decide)
    by_cases h5 : 100 < (joinP ps).length
    · simp only [if_neg h4, if_pos h5] at h; exact absurd h (by decide)
    simp only [if_neg h4, if_neg h5]
    exact Nat.le_of_not_lt h5
theorem cleanE_few {line : Nat} {s p : Txt} (h : cleanE line s = .ok p) : p.length ≤ 100 := by
  unfold cleanE at h
  split at h
  · rename_i h1
    injection h with h
    rw [← h]; exact cleanL_few s h1
  · cases h
theorem pathsE_few (line : Nat) (file : MapL) : ∀ (ws acc d : List Txt), pathsE line file acc ws = .ok d → (∀ t ∈ acc, t.length ≤ 100) → ∀ t ∈ d, t.length ≤ 100 := by
  intro ws
  induction ws with
  | nil =>
    intro acc d h ha
    obtain rfl : acc = d := by simpa [pathsE] using h
    exact ha
  | cons x r ih =>
    intro acc d h ha
    unfold pathsE at h
    split at h
    · cases h
    · rename_i p hp
      refine ih _ _ h fun t ht => ?_
      rcases List.mem_append.1 ht with ht | ht
      · exact ha t ht
      · rw [List.mem_singleton.1 ht]
        unfold pathE at hp
        split at hp
        · cases hp
        · split at hp
          · cases hp
          · exact cleanE_few hp
theorem pathsE_few0 {line : Nat} {file : MapL} {ws d : List Txt} (h : pathsE line file [] ws = .ok d) (hn : ws.length ≤ 20000) : few d := by
  refine ⟨?_, pathsE_few line file ws [] d h (by simp)⟩
  have := pathsE_len _ _ _ _ _ h
  rw [List.length_nil] at this; omega
section
variable {w W W' : World} {g : Mem} {ri mb sb eb p q : Nat} {v0 v1 v2 v3 : Value}
theorem Made.row (hM : Made w W g ri mb sb eb p q v0 v1 v2 v3) {n k : Nat} {v : Value} {xs : List Value} (h : W.ownsRow n 9 1 v k xs) (i : Nat) (u : Value) : (W.setCell ⟨eb, i, none⟩ u).ownsRow n 9 1 v k xs := by
  refine own_move h fun b hb => Below.heap_setCell _ _ _ b ?_
  obtain ⟨cs, hcs⟩ := own_typed h b hb
  exact ne_of_cells hcs hM.he (by decide)
theorem row_more {n k : Nat} {v : Value} {xs : List Value} (h : W.ownsRow n 9 1 v k xs) (hb : Below W.heap.size W W') : W'.ownsRow n 9 1 v k xs :=
  own_move h fun b hb' => hb.block b (own_lt h b hb')
theorem Made.box (hM : Made w W g ri mb sb eb p q v0 v1 v2 v3) : W.cell? ⟨q, 0, none⟩ = some (at0 eb) ∧ W.cell? ⟨p, 0, none⟩ = some (at0 g.r) :=
  ⟨(cell_of_heap (j := 0) hM.hq).trans rfl, (cell_of_heap (j := 0) hM.hp).trans rfl⟩
theorem Made.grown {B0 : Nat} {st : St} {w2 : World} (hM : Made w W g ri mb sb eb p q v0 v1 v2 v3) (h : Inv B0 w g st) (hg : W.grownBy w2 g.ve.ownBlock) :
    w2.cell? ⟨q, 0, none⟩ = some (at0 eb) ∧ w2.cell? ⟨p, 0, none⟩ = some (at0 g.r) ∧ w2.cell? ⟨g.r, 2, none⟩ = some g.ve := by
  have hveb : ∀ b, g.ve.ownBlock = some b → b < w.heap.size := fun b hb => own_lt h.oe b hb
  have hq := (hg.block q (lt_blk hM.hq) (fun e => by have := hveb q e.symm; have := hM.lq; omega)).trans hM.hq
  have hp := (hg.block p (lt_blk hM.hp) (fun e => by have := hveb p e.symm; have := hM.lp; omega)).trans hM.hp
  have hW := h.below hM.below
  have hr := (hg.block g.r (lt_blk hW.hr) (fun e => by have := h.roe g.r e.symm; rw [h.rr] at this; cases this)).trans hW.hr
  exact ⟨(cell_of_heap (j := 0) hq).trans rfl, (cell_of_heap (j := 0) hp).trans rfl, (cell_of_heap (j := 2) hr).trans rfl⟩
end
structure Six (w wx : World) (g : Mem) (rn : Txt) (ri : Nat) (ad : Addr) : Prop where
  below : Below w.heap.size w wx
  hp : wx.heap[w.heap.size]? = some (.cells #[at0 g.r] 62 (0, 0))
  all : ∀ W, Below wx.heap.size wx W → W.cell? ⟨w.heap.size, 0, none⟩ = some (at0 g.r) ∧ W.cell? ⟨g.r, 1, none⟩ = some (.map (some g.rm)) ∧ W.cell? ad = some (.string (B rn)) ∧
    (Instr.lookup 65 (.map (some g.rm)) (.string (B rn)) false).run Tryz.prog W = .ok (at0 (g.rb ri)) W ∧ W.cell? ⟨g.r, 0, none⟩ = some (at0 g.fb) ∧ W.cell? ⟨g.r, 4, none⟩ = some (.int .i64 (g.line : Int))
theorem Six.mk' {B0 : Nat} {st : St} {w wx : World} {g : Mem} {rn : Txt} {ri : Nat} {ad : Addr} (hI : Inv B0 w g st) (hb : Below w.heap.size w wx) (hp : wx.heap[w.heap.size]? = some (.cells #[at0 g.r] 62 (0, 0)))
    (ha : wx.cell? ad = some (.string (B rn))) (hl : ∀ W, Below wx.heap.size wx W → (Instr.lookup 65 (.map (some g.rm)) (.string (B rn)) false).run Tryz.prog W = .ok (at0 (g.rb ri)) W) : Six w wx g rn ri ad := by
  refine ⟨hb, hp, fun W hW => ?_⟩
  have hI2 := (hI.below hb).below hW
  exact ⟨(cell_of_heap (j := 0) ((hW.block _ (lt_blk hp)).trans hp)).trans rfl, hI2.cell 1, (hW.cell (World.block_lt_of_cell? wx _ ha)).trans ha, hl W hW, hI2.cell 0, hI2.cell 4⟩
theorem Six.ordA {w x : World} {g : Mem} {rn : Txt} {ri : Nat} {ad : Addr} (h : Six w x g rn ri ad) : Made w ((((x.alloc (.cells #[at0 (x.heap.size + 1 + 1 + 1)] 74)).alloc (.map #[] 0)).alloc (.cells #[at0 g.fb, .map (some (x.heap.size + 1))] 91)).alloc (.cells #[.slice none 0 0, .slice none 0 0, .slice none 0 0, .slice none 0 0, .string (B []), .string (B []), at0 (g.rb ri), at0 (x.heap.size + 1 + 1), .int .i64 (g.line : Int)] 103)).drew g ri (x.heap.size + 1) (x.heap.size + 1 + 1) (x.heap.size + 1 + 1 + 1) w.heap.size (x.heap.size) (.slice none 0 0) (.slice none 0 0) (.slice none 0 0) (.slice none 0 0) := by
  have hs := h.below.size
  have hlt := lt_blk h.hp
  have hb : Below x.heap.size x ((((x.alloc (.cells #[at0 (x.heap.size + 1 + 1 + 1)] 74)).alloc (.map #[] 0)).alloc (.cells #[at0 g.fb, .map (some (x.heap.size + 1))] 91)).alloc (.cells #[.slice none 0 0, .slice none 0 0, .slice none 0 0, .slice none 0 0, .string (B []), .string (B []), at0 (g.rb ri), at0 (x.heap.size + 1 + 1), .int .i64 (g.line : Int)] 103)).drew := by (repeat (first | exact Below.refl _ _ | refine Below.drew ?_ | refine Below.setCell ?_ (by simp <;> omega) _ | refine Below.alloc ?_ (by simp <;> omega) _))
  refine ⟨h.below.trans (hb.mono hs), by omega, by omega, by omega, by omega, by omega, ?_, ?_, ?_, (hb.block _ hlt).trans h.hp, ?_⟩
  all_goals
    show (((((x.alloc (.cells #[at0 (x.heap.size + 1 + 1 + 1)] 74)).alloc (.map #[] 0)).alloc (.cells #[at0 g.fb, .map (some (x.heap.size + 1))] 91)).alloc (.cells #[.slice none 0 0, .slice none 0 0, .slice none 0 0, .slice none 0 0, .string (B []), .string (B []), at0 (g.rb ri), at0 (x.heap.size + 1 + 1), .int .i64 (g.line : Int)] 103))).heap[_]? = _
    repeat (first | exact heapAt_eq (by simp) | refine (heapAt_lt (by simp <;> omega)).trans ?_)
theorem Six.ordB {w x : World} {g : Mem} {rn : Txt} {ri : Nat} {ad : Addr} (h : Six w x g rn ri ad) : Made w ((((x.alloc (.map #[] 0)).alloc (.cells #[at0 g.fb, .map (some (x.heap.size))] 91)).alloc (.cells #[at0 (x.heap.size + 1 + 1 + 1)] 74)).alloc (.cells #[.slice none 0 0, .slice none 0 0, .slice none 0 0, .slice none 0 0, .string (B []), .string (B []), at0 (g.rb ri), at0 (x.heap.size + 1), .int .i64 (g.line : Int)] 103)).drew g ri (x.heap.size) (x.heap.size + 1) (x.heap.size + 1 + 1 + 1) w.heap.size (x.heap.size + 1 + 1) (.slice none 0 0) (.slice none 0 0) (.slice none 0 0) (.slice none 0 0) := by
  have hs := h.below.size
  have hlt := lt_blk h.hp
  have hb : Below x.heap.size x ((((x.alloc (.map #[] 0)).alloc (.cells #[at0 g.fb, .map (some (x.heap.size))] 91)).alloc (.cells #[at0 (x.heap.size + 1 + 1 + 1)] 74)).alloc (.cells #[.slice none 0 0, .slice none 0 0, .slice none 0 0, .slice none 0 0, .string (B []), .string (B []), at0 (g.rb ri), at0 (x.heap.size + 1), .int .i64 (g.line : Int)] 103)).drew := by (repeat (first | exact Below.refl _ _ | refine Below.drew ?_ | refine Below.setCell ?_ (by simp <;> omega) _ | refine Below.alloc ?_ (by simp <;> omega) _))
  refine ⟨h.below.trans (hb.mono hs), by omega, by omega, by omega, by omega, by omega, ?_, ?_, ?_, (hb.block _ hlt).trans h.hp, ?_⟩
  all_goals
    show (((((x.alloc (.map #[] 0)).alloc (.cells #[at0 g.fb, .map (some (x.heap.size))] 91)).alloc (.cells #[at0 (x.heap.size + 1 + 1 + 1)] 74)).alloc (.cells #[.slice none 0 0, .slice none 0 0, .slice none 0 0, .slice none 0 0, .string (B []), .string (B []), at0 (g.rb ri), at0 (x.heap.size + 1), .int .i64 (g.line : Int)] 103))).heap[_]? = _
    repeat (first | exact heapAt_eq (by simp) | refine (heapAt_lt (by simp <;> omega)).trans ?_)
theorem Six.ordC {w x : World} {g : Mem} {rn : Txt} {ri : Nat} {ad : Addr} (h : Six w x g rn ri ad) : Made w ((((x.alloc (.map #[] 0)).alloc (.cells #[at0 g.fb, .map (some (x.heap.size))] 91)).alloc (.cells #[.slice none 0 0, .slice none 0 0, .slice none 0 0, .slice none 0 0, .string (B []), .string (B []), at0 (g.rb ri), at0 (x.heap.size + 1), .int .i64 (g.line : Int)] 103)).alloc (.cells #[at0 (x.heap.size + 1 + 1)] 74)).drew g ri (x.heap.size) (x.heap.size + 1) (x.heap.size + 1 + 1) w.heap.size (x.heap.size + 1 + 1 + 1) (.slice none 0 0) (.slice none 0 0) (.slice none 0 0) (.slice none 0 0) := by
  have hs := h.below.size
  have hlt := lt_blk h.hp
  have hb : Below x.heap.size x ((((x.alloc (.map #[] 0)).alloc (.cells #[at0 g.fb, .map (some (x.heap.size))] 91)).alloc (.cells #[.slice none 0 0, .slice none 0 0, .slice none 0 0, .slice none 0 0, .string (B []), .string (B []), at0 (g.rb ri), at0 (x.heap.size + 1), .int .i64 (g.line : Int)] 103)).alloc (.cells #[at0 (x.heap.size + 1 + 1)] 74)).drew := by (repeat (first | exact Below.refl _ _ | refine Below.drew ?_ | refine Below.setCell ?_ (by simp <;> omega) _ | refine Below.alloc ?_ (by simp <;> omega) _))
  refine ⟨h.below.trans (hb.mono hs), by omega, by omega, by omega, by omega, by omega, ?_, ?_, ?_, (hb.block _ hlt).trans h.hp, ?_⟩
  all_goals
    show (((((x.alloc (.map #[] 0)).alloc (.cells #[at0 g.fb, .map (some (x.heap.size))] 91)).alloc (.cells #[.slice none 0 0, .slice none 0 0, .slice none 0 0, .slice none 0 0, .string (B []), .string (B []), at0 (g.rb ri), at0 (x.heap.size + 1), .int .i64 (g.line : Int)] 103)).alloc (.cells #[at0 (x.heap.size + 1 + 1)] 74))).heap[_]? = _
    repeat (first | exact heapAt_eq (by simp) | refine (heapAt_lt (by simp <;> omega)).trans ?_)
theorem Inv.paths {B0 : Nat} {w w5 W : World} {g : Mem} {st : St} (hI : Inv B0 w g st) (h1 : Below w.heap.size w W) (h2 : Below w5.heap.size w5 W) (A : Option Addr) (c : Nat) (ws : List Txt) (n : Nat) (hn : ws.length = n)
    (hk : Kd.C Kd.string w5 A n (ws.map B)) (hl : n ≤ 20000) (hs : ∀ t ∈ ws, t.length ≤ 1000000) : Calls Tryz.prog 75 #[at0 g.r, .slice A n c] W (GivesL (pathsE g.line st.file [] ws) W) := by
  subst hn
  exact paths_any g.r g.line ⟨g.fb, g.fm, g.n, st.file⟩ (at0 g.fb) A c ws W (hI.below h1).rd hI.getL (Kd.C_below hk h2) (by omega) (fun t ht => Nat.lt_of_le_of_lt (hs t ht) (by decide))
theorem Made.s8 {B0 : Nat} {st : St} {w W W2 : World} {g : Mem} {ri mb sb eb p q : Nat} {v0 v1 v2 v3 : Value} (hM : Made w W g ri mb sb eb p q v0 v1 v2 v3) (h : Inv B0 w g st) (hb : Below W.heap.size W W2) :
    W2.cell? ⟨q, 0, none⟩ = some (at0 eb) ∧ W2.cell? ⟨p, 0, none⟩ = some (at0 g.r) ∧ W2.cell? ⟨g.r, 2, none⟩ = some g.ve :=
  ⟨(hM.more hb).box.1, (hM.more hb).box.2, (h.below (hM.more hb).below).cell 2⟩
theorem infoEdge : (Tryz.prog.info? 74).map (fun i => (i.zero, i.size, i.bytes)) = some (some (.pointer none), 1, 8) := by kernel_rfl
theorem own_row {w : World} {b n : Nat} {t : TypeId} {v : Value} {xs : List Value} (h : w.ownsRow b t 1 v n xs) : ∃ A c, v = .slice A n c := by
  rcases h.2 with ⟨e, e2⟩ | ⟨b, cap, _, e, _⟩
  · exact ⟨none, 0, by rw [e, e2]⟩
  · exact ⟨_, _, e⟩
end Go.Proofs.YtbjekebkgidhaaaGreatDoor.Mf
end
section
set_option linter.unusedSimpArgs false
set_option linter.unusedVariables false
namespace Go.Proofs.YtbjekebkgidhaaaGreatDoor.Mf
open Go.RowKit Go.Lib Go.Shelf Go.Maps Go.Proofs.YtbjekebkgidhaaaGreatDoorW.PrintWords Go.Proofs.YtbjekebkgidhaaaGreatDoor.U Go.Proofs.YtbjekebkgidhaaaGreatDoor.Sc Go.Proofs.YtbjekebkgidhaaaGreatDoor.P Go.Proofs.YtbjekebkgidhaaaGreatDoor.MapV
set_option maxRecDepth 100000 in
set_option maxHeartbeats 8000000 in
theorem build_many (B0 : Nat) (g : Mem) (st : St) (V : Value) (ws : List Txt) (w : World) (hI : Inv B0 w g st) (hm : 200 ≤ st.edges.length) :
    Calls Tryz.prog 44 #[at0 g.r, V] w (Steps B0 g (buildE st g.line ws) w) := by
  have hR : Hid (buildE st g.line ws = .error (g.line, 3)) := by show _ = _; rw [buildE, if_pos hm]
  have hB0 := hI.base
  have hg0 := hI.new g.r (by rw [hI.rr]; decide)
  have hBox := Lib.hid ((Below.refl w.heap.size w).alloc (Nat.le_refl _) (.cells #[at0 g.r] 62))
  have hCell : Hid ((w.alloc (.cells #[at0 g.r] 62)).heap[w.heap.size]? = some (.cells #[at0 g.r] 62 (0, 0))) := heap_alloc_new w _
  have hI0 := Lib.hid (hI.below hBox.out)
  obtain ⟨Ae, ce, hve⟩ : ∃ A c, g.ve = .slice A st.edges.length c := by
    rcases hI.oe.2 with ⟨e, e2⟩ | ⟨b, cap, _, e, _⟩
    · exact ⟨none, 0, by rw [e, e2]⟩
    · exact ⟨_, _, e⟩
  have hlt : decide ((st.edges.length : Int) < 200) = false := by rw [decide_eq_false_iff_not]; omega
  have hVe := Lib.hid hve
  clear hI hm
  go_enter Tryz.func44, Tryz.ntmps44
  go_wp2_with fail
  generalize w.alloc (.cells #[at0 g.r] 62) = w0 at *
  have hc0 := (cell_of_heap (j := 0) hCell.out).trans rfl
  have c2 : w0.cell? ⟨g.r, 2, none⟩ = some (.slice Ae st.edges.length ce) := hve ▸ hI0.out.cell 2
  clear hve hVe
  generalize st.edges.length = ne at *
  refine RegP.regionH (fun w' => w'.cell? ⟨w.heap.size, 0, none⟩ = some (at0 g.r) ∧ w'.cell? ⟨g.r, 2, none⟩ = some (.slice Ae ne ce)) [(1, 0), (1, 1), (0, 2), (0, 3), (1, 4), (0, 5), (0, 6), (2, 7)] (by kernel_rfl) (by kernel_rfl) (by rfl) (by kernel_rfl) (by exact ⟨hc0, c2⟩) ?_
  refine RegP.held1 (by (simp only [gA,gB,gC]); rfl) (by exact fun _ _ _ h => h) (by rfl) (by intro w' hS_; (try dsimp only at hS_); go_split_ands; go_simp; try with_reducible rfl) ?_
  try simp only [Act.put, pA,pB,pC]
  refine RegP.held1 (by (simp only [gA,gB,gC]); rfl) (by exact fun _ _ _ h => h) (by rfl) (by intro w' hS_; (try dsimp only at hS_); go_split_ands; go_simp; try with_reducible rfl) ?_
  try simp only [Act.put, pA,pB,pC]
  refine RegP.pure1 (by (simp only [gA,gB,gC]); rfl) (by exact fun _ _ _ h => h) (by rfl) (by intro w'; go_simp; try with_reducible rfl) ?_
  try simp only [Act.put, pA,pB,pC]
  refine RegP.pure1 (by (simp only [gA,gB,gC]); rfl) (by exact fun _ _ _ h => h) (by rfl) (by intro w'; go_simp; try with_reducible rfl) ?_
  try simp only [Act.put, pA,pB,pC]
  refine RegP.held1 (by (simp only [gA,gB,gC]); rfl) (by exact fun _ _ _ h => h) (by rfl) (by intro w' hS_; (try dsimp only at hS_); go_split_ands; go_simp; try with_reducible rfl) ?_
  try simp only [Act.put, pA,pB,pC]
  refine RegP.pure1 (by (simp only [gA,gB,gC]); rfl) (by exact fun _ _ _ h => h) (by rfl) (by intro w'; go_simp; try with_reducible rfl) ?_
  try simp only [Act.put, pA,pB,pC]
  refine RegP.pure1 (by (simp only [gA,gB,gC]); rfl) (by exact fun _ _ _ h => h) (by rfl) (by intro w'; go_simp; try with_reducible rfl) ?_
  try simp only [Act.put, pA,pB,pC]
  refine RegP.ev1 (by (simp only [gA,gB,gC]); rfl) (fun K hK => ?_)
  go_simp
  refine (need_no g.r g.line 3 _ (hI0.out.rd.below ((Below.refl w0.heap.size w0).drew)).c4).mono ?_
  rintro e w2 ⟨rfl, rfl⟩
  exact ⟨rfl, Steps.bad hR.out ((hBox.out.mono hB0).trans (((Below.refl w0.heap.size w0).drew).mono (Nat.le_trans hB0 hBox.out.size)))⟩
set_option maxRecDepth 100000 in
set_option maxHeartbeats 16000000 in
theorem build_few (B0 : Nat) (g : Mem) (st : St) (A : Option Addr) (c : Nat) (ws : List Txt) (w : World) (hI : Inv B0 w g st) (hin : st.inner = 0) (hW : Kd.C Kd.string w A ws.length (ws.map B)) (hc : ws.length ≤ c) (h1 : 1 ≤ ws.length)
    (hn : ws.length ≤ 20000) (hl : ∀ t ∈ ws, t.length ≤ 1000000) (hm : ¬ 200 ≤ st.edges.length) (hgn : g.n < 1000000) :
    Calls Tryz.prog 44 #[at0 g.r, .slice A ws.length c] w (Steps B0 g (buildE st g.line ws) w) := by
  have hB0 := hI.base
  have hg0 := hI.new g.r (by rw [hI.rr]; decide)
  have hBox := Lib.hid ((Below.refl w.heap.size w).alloc (Nat.le_refl _) (.cells #[at0 g.r] 62))
  have hCell : Hid ((w.alloc (.cells #[at0 g.r] 62)).heap[w.heap.size]? = some (.cells #[at0 g.r] 62 (0, 0))) := heap_alloc_new w _
  have hI0 := Lib.hid (hI.below hBox.out)
  obtain ⟨Ae, ce, hve⟩ : ∃ A c, g.ve = .slice A st.edges.length c := by
    rcases hI.oe.2 with ⟨e, e2⟩ | ⟨b, cap, _, e, _⟩
    · exact ⟨none, 0, by rw [e, e2]⟩
    · exact ⟨_, _, e⟩
  have hlt : decide ((st.edges.length : Int) < 200) = true := by rw [decide_eq_true_iff]; omega
  have hVe := Lib.hid hve
  obtain ⟨ad, hA, hq0⟩ := str_at hW 0 (by omega)
  subst hA
  clear hq0
  have hD := C_drop hW 1
  rw [List.drop_one] at hD
  have htl : ws.tail.length = ws.length - 1 := List.length_tail
  rw [← htl] at hD
  have hsub : ∀ t ∈ ws.tail, t.length ≤ 1000000 := fun t ht => hl t (List.mem_of_mem_tail ht)
  have hCut : Hid (∀ (A' : Option Addr) (c' n' : Nat) (W : World), n' = ws.tail.length → (0 < ws.tail.length → A' = some (ad.add 1)) → ws.tail.length ≤ c' → Below w.heap.size w W → Calls Tryz.prog 74 #[.slice A' n' c', .string ⟨#[58]⟩] W (CutAs (ahead [58] ws.tail) (behind [58] ws.tail) W)) := by
    intro A' c' n' W hn' hA hc' hb
    subst hn'
    refine mcut_any A' c' ws.tail [58] W ?_ hc' (by omega)
    by_cases h0 : 0 < ws.tail.length
    · rw [hA h0]; exact Kd.C_below hD hb
    · have : ws.tail = [] := List.length_eq_zero_iff.1 (by omega)
      rw [this]; exact C_nil _ _
  have hadd : Hid (∀ x : Option Addr, x = some ⟨ad.block, ad.off + 1, none⟩ → x = some (ad.add 1)) := by
    intro x hx; rw [hx]; rfl
  have hBE : buildE st g.line ws = (match ahead [58] ws.tail, behind [58] ws.tail with
      | _ :: _, rn :: r => match ruleAt st.rules rn with
        | none => .error (g.line, 10)
        | some ri => match pathsE g.line st.file [] (ahead [58] ws.tail) with
          | .error e => .error e
          | .ok o => match pathsE g.line st.file [] (ahead [124] (ahead [124, 124] r)) with
            | .error e => .error e
            | .ok i => match pathsE g.line st.file [] (behind [124] (ahead [124, 124] r)) with
              | .error e => .error e
              | .ok m => match pathsE g.line st.file [] (behind [124, 124] r) with
                | .error e => .error e
                | .ok d => .ok { st with edges := st.edges ++ [⟨o, i, m, d, ri, none0, g.line⟩], inner := 2 }
      | _, _ => .error (g.line, 10)) := by rw [buildE, if_neg hm]; rfl
  have hsO : ∀ t ∈ ahead [58] ws.tail, t.length ≤ 1000000 := fun t ht => hsub t ((List.takeWhile_sublist _).subset ht)
  have hsR : ∀ t ∈ behind [58] ws.tail, t.length ≤ 1000000 := fun t ht => hsub t ((List.dropWhile_sublist _).subset (List.mem_of_mem_tail ht))
  have hnO : (ahead [58] ws.tail).length ≤ 20000 := Nat.le_trans (ahead_len _ _) (by omega)
  have hnR : (behind [58] ws.tail).length ≤ 20000 := by rw [← behind_drop, List.length_drop]; omega
  have hBEH := Lib.hid hBE
  have hIH := Lib.hid hI
  have hsOH := Lib.hid hsO
  have hsRH := Lib.hid hsR
  have hi1 : (1 : Int) ≤ (ws.length : Int) := by omega
  have hi2 : (ws.length : Int) ≤ (c : Int) := by omega
  clear hBE hI hD hl hsub hW hsO hsR
  have htn : ws.length - 1 = ws.tail.length := htl.symm
  clear htl
  generalize ahead [58] ws.tail = O at *
  generalize behind [58] ws.tail = RR at *
  obtain ⟨nw, hNW⟩ : ∃ nw, ws.length = nw := ⟨_, rfl⟩
  rw [hNW] at hc h1 hn hi1 hi2 htn ⊢
  have hN1 : nw ≤ ws.length := by omega
  have hN2 : ws.length ≤ nw := by omega
  clear hNW
  go_enter Tryz.func44, Tryz.ntmps44
  go_wp2_with fail
  generalize w.alloc (.cells #[at0 g.r] 62) = w0 at *
  have hc0 := (cell_of_heap (j := 0) hCell.out).trans rfl
  have c2 : w0.cell? ⟨g.r, 2, none⟩ = some (.slice Ae st.edges.length ce) := hve ▸ hI0.out.cell 2
  clear hve hVe
  generalize hNE : st.edges.length = ne at *
  have hNEH := Lib.hid hNE
  clear hNE
  refine RegP.regionH (fun w' => w'.cell? ⟨w.heap.size, 0, none⟩ = some (at0 g.r) ∧ w'.cell? ⟨g.r, 2, none⟩ = some (.slice Ae ne ce)) [(1, 0), (1, 1), (0, 2), (0, 3), (1, 4), (0, 5), (0, 6), (2, 7)] (by kernel_rfl) (by kernel_rfl) (by rfl) (by kernel_rfl) (by exact ⟨hc0, c2⟩) ?_
  refine RegP.held1 (by (simp only [gA,gB,gC]); rfl) (by exact fun _ _ _ h => h) (by rfl) (by intro w' hS_; (try dsimp only at hS_); go_split_ands; go_simp; try with_reducible rfl) ?_
  try simp only [Act.put, pA,pB,pC]
  refine RegP.held1 (by (simp only [gA,gB,gC]); rfl) (by exact fun _ _ _ h => h) (by rfl) (by intro w' hS_; (try dsimp only at hS_); go_split_ands; go_simp; try with_reducible rfl) ?_
  try simp only [Act.put, pA,pB,pC]
  refine RegP.pure1 (by (simp only [gA,gB,gC]); rfl) (by exact fun _ _ _ h => h) (by rfl) (by intro w'; go_simp; try with_reducible rfl) ?_
  try simp only [Act.put, pA,pB,pC]
  refine RegP.pure1 (by (simp only [gA,gB,gC]); rfl) (by exact fun _ _ _ h => h) (by rfl) (by intro w'; go_simp; try with_reducible rfl) ?_
  try simp only [Act.put, pA,pB,pC]
  refine RegP.held1 (by (simp only [gA,gB,gC]); rfl) (by exact fun _ _ _ h => h) (by rfl) (by intro w' hS_; (try dsimp only at hS_); go_split_ands; go_simp; try with_reducible rfl) ?_
  try simp only [Act.put, pA,pB,pC]
  refine RegP.pure1 (by (simp only [gA,gB,gC]); rfl) (by exact fun _ _ _ h => h) (by rfl) (by intro w'; go_simp; try with_reducible rfl) ?_
  try simp only [Act.put, pA,pB,pC]
  refine RegP.pure1 (by (simp only [gA,gB,gC]); rfl) (by exact fun _ _ _ h => h) (by rfl) (by intro w'; go_simp; try with_reducible rfl) ?_
  try simp only [Act.put, pA,pB,pC]
  refine RegP.ev1 (by (simp only [gA,gB,gC]); rfl) (fun K hK => ?_)
  go_simp
  refine (need_ok _ _ _).mono ?_
  rintro e w2 ⟨rfl, rfl⟩
  refine hK.out _ _ ?_ (fun hHeld => ?_)
  · (try dsimp only); exact ⟨hc0, c2⟩
  clear hK K
  try simp only [Act.put, pA,pB,pC]
  refine RegP.done1 ?_
  clear hHeld
  try dsimp only
  go_upto_region 2 with (fail)
  go_cut [4, 5] (fun s4 s5 wx => ∃ A1 c1 A2 c2, s4 = .slice A1 O.length c1 ∧ s5 = .slice A2 RR.length c2 ∧ (O.length ≤ c1 ∧ Hid (Kd.C Kd.string wx A1 O.length (O.map B))) ∧ (RR.length ≤ c2 ∧ Hid (Kd.C Kd.string wx A2 RR.length (RR.map B))) ∧ Hid (Below w0.heap.size w0 wx))
  case first =>
    by_cases hc1 : c = 1
    · have hnw : nw = 1 := by omega
      subst hc1
      subst hnw
      go_wp2_with fail
      refine (hCut.out _ _ _ _ (by omega) (fun h => by omega) (by omega) (hBox.out.trans (((Below.refl w0.heap.size w0).drew).mono hBox.out.size))).mono ?_
      rintro e w2 ⟨A1, c1, A2, c2', rfl, ⟨l1, k1⟩, ⟨l2, k2⟩, hb⟩
      go_wp2_with fail
      go_meet
      exact ⟨A1, c1, A2, c2', rfl, rfl, ⟨l1, k1⟩, ⟨l2, k2⟩, ((Below.refl w0.heap.size w0).drew).trans hb⟩
    · go_wp2_with fail
      refine (hCut.out _ _ _ _ (by omega) (fun h => hadd.out _ rfl) (by omega) (hBox.out.trans (((Below.refl w0.heap.size w0).drew).mono hBox.out.size))).mono ?_
      rintro e w2 ⟨A1, c1, A2, c2', rfl, ⟨l1, k1⟩, ⟨l2, k2⟩, hb⟩
      go_wp2_with fail
      go_meet
      exact ⟨A1, c1, A2, c2', rfl, rfl, ⟨l1, k1⟩, ⟨l2, k2⟩, ((Below.refl w0.heap.size w0).drew).trans hb⟩
  case rest =>
    obtain ⟨A1, c1, A2, c2', rfl, rfl, ⟨l1, k1⟩, ⟨l2, k2⟩, hBc⟩ := hcut
    have hIc := Lib.hid (hI0.out.below hBc.out)
    have hBw := Lib.hid ((hBox.out.mono hB0).trans (hBc.out.mono (Nat.le_trans hB0 hBox.out.size)))
    have hq0 : wc.cell? ⟨w.heap.size, 0, none⟩ = some (at0 g.r) := (hBc.out.cell (World.block_lt_of_cell? w0 _ hc0)).trans hc0
    have hCe : Hid (wc.heap[w.heap.size]? = some (.cells #[at0 g.r] 62 (0, 0))) := (hBc.out.block _ (lt_blk hCell.out)).trans hCell.out
    have hB2 := Lib.hid (hBox.out.trans (hBc.out.mono hBox.out.size))
    clear c2 hc0 hCut hadd hBox hCell hI0 hBc hlt hi1 hi2 hc h1 hn htn hN1 hN2
    by_cases hO : O.length = 0
    · have hOn : O = [] := List.length_eq_zero_iff.1 hO
      have hR : Hid (buildE st g.line ws = .error (g.line, 10)) := by show _ = _; rw [hBEH.out, hOn]
      have hob : decide ((0 : Int) < (O.length : Int)) = false := by rw [decide_eq_false_iff_not]; omega
      have hobn : decide (0 < O.length) = false := by rw [decide_eq_false_iff_not]; omega
      clear hOn hO hBEH
      generalize O.length = lo at *
      generalize RR.length = lr at *
      go_wp2_with fail
      refine RegP.regionH (fun w' => w'.cell? ⟨w.heap.size, 0, none⟩ = some (at0 g.r)) [(1, 0), (0, 1), (0, 2), (0, 3), (0, 4), (4, 5), (4, 6), (4, 7), (0, 8), (0, 9), (4, 10), (4, 11), (4, 12), (4, 13), (4, 14), (4, 15), (4, 16), (4, 17), (4, 18), (0, 19), (2, 20)] (by kernel_rfl) (by kernel_rfl) (by rfl) (by kernel_rfl) (by exact hq0) ?_
      refine RegP.held1 (by (simp only [gA,gB,gC]); rfl) (by exact fun _ _ _ h => h) (by rfl) (by intro w' hS_; (try dsimp only at hS_); go_split_ands; go_simp; try with_reducible rfl) ?_
      try simp only [Act.put, pA,pB,pC]
      refine RegP.pure1 (by (simp only [gA,gB,gC]); rfl) (by exact fun _ _ _ h => h) (by rfl) (by intro w'; go_simp; try with_reducible rfl) ?_
      try simp only [Act.put, pA,pB,pC]
      refine RegP.pure1 (by (simp only [gA,gB,gC]); rfl) (by exact fun _ _ _ h => h) (by rfl) (by intro w'; go_simp; try with_reducible rfl) ?_
      try simp only [Act.put, pA,pB,pC]
      refine RegP.pure1 (by (simp only [gA,gB,gC]); rfl) (by exact fun _ _ _ h => h) (by rfl) (by intro w'; go_simp; try with_reducible rfl) ?_
      try simp only [Act.put, pA,pB,pC]
      refine RegP.pure1 (by (simp only [gA,gB,gC]); rfl) (by exact fun _ _ _ h => h) (by rfl) (by intro w'; go_simp; try with_reducible rfl) ?_
      try simp only [Act.put, pA,pB,pC]
      refine RegP.skip1 (by (simp only [gA,gB,gC]); rfl) (by exact fun _ _ _ h => h) (by rfl) ?_
      try simp only [Act.put, pA,pB,pC]
      refine RegP.skip1 (by (simp only [gA,gB,gC]); rfl) (by exact fun _ _ _ h => h) (by rfl) ?_
      try simp only [Act.put, pA,pB,pC]
      refine RegP.skip1 (by (simp only [gA,gB,gC]); rfl) (by exact fun _ _ _ h => h) (by rfl) ?_
      try simp only [Act.put, pA,pB,pC]
      refine RegP.pure1 (by (simp only [gA,gB,gC]); rfl) (by exact fun _ _ _ h => h) (by rfl) (by intro w'; go_simp; try with_reducible rfl) ?_
      try simp only [Act.put, pA,pB,pC]
      refine RegP.pure1 (by (simp only [gA,gB,gC]); rfl) (by exact fun _ _ _ h => h) (by rfl) (by intro w'; go_simp; try with_reducible rfl) ?_
      try simp only [Act.put, pA,pB,pC]
      refine RegP.skip1 (by (simp only [gA,gB,gC]); rfl) (by exact fun _ _ _ h => h) (by rfl) ?_
      try simp only [Act.put, pA,pB,pC]
      refine RegP.skip1 (by (simp only [gA,gB,gC]); rfl) (by exact fun _ _ _ h => h) (by rfl) ?_
      try simp only [Act.put, pA,pB,pC]
      refine RegP.skip1 (by (simp only [gA,gB,gC]); rfl) (by exact fun _ _ _ h => h) (by rfl) ?_
      try simp only [Act.put, pA,pB,pC]
      refine RegP.skip1 (by (simp only [gA,gB,gC]); rfl) (by exact fun _ _ _ h => h) (by rfl) ?_
      try simp only [Act.put, pA,pB,pC]
      refine RegP.skip1 (by (simp only [gA,gB,gC]); rfl) (by exact fun _ _ _ h => h) (by rfl) ?_
      try simp only [Act.put, pA,pB,pC]
      refine RegP.skip1 (by (simp only [gA,gB,gC]); rfl) (by exact fun _ _ _ h => h) (by rfl) ?_
      try simp only [Act.put, pA,pB,pC]
      refine RegP.skip1 (by (simp only [gA,gB,gC]); rfl) (by exact fun _ _ _ h => h) (by rfl) ?_
      try simp only [Act.put, pA,pB,pC]
      refine RegP.skip1 (by (simp only [gA,gB,gC]); rfl) (by exact fun _ _ _ h => h) (by rfl) ?_
      try simp only [Act.put, pA,pB,pC]
      refine RegP.skip1 (by (simp only [gA,gB,gC]); rfl) (by exact fun _ _ _ h => h) (by rfl) ?_
      try simp only [Act.put, pA,pB,pC]
      refine RegP.pure1 (by (simp only [gA,gB,gC]); rfl) (by exact fun _ _ _ h => h) (by rfl) (by intro w'; go_simp; try with_reducible rfl) ?_
      try simp only [Act.put, pA,pB,pC]
      refine RegP.ev1 (by (simp only [gA,gB,gC]); rfl) (fun K hK => ?_)
      go_simp
      refine (need_no g.r g.line 10 _ (hIc.out.rd.below (Below.refl _ _).drew).c4).mono ?_
      rintro e w2 ⟨rfl, rfl⟩
      exact ⟨rfl, Steps.bad hR.out (hBw.out.drew)⟩
    have hob : decide ((0 : Int) < (O.length : Int)) = true := by rw [decide_eq_true_iff]; omega
    have hobn : decide (0 < O.length) = true := by rw [decide_eq_true_iff]; omega
    by_cases hRR : RR.length = 0
    · have hRn : RR = [] := List.length_eq_zero_iff.1 hRR
      have hR : Hid (buildE st g.line ws = .error (g.line, 10)) := by
        show _ = _
        rw [hBEH.out, hRn]
        cases O <;> rfl
      have hrb : decide ((0 : Int) < (RR.length : Int)) = false := by rw [decide_eq_false_iff_not]; omega
      have hrbn : decide (0 < RR.length) = false := by rw [decide_eq_false_iff_not]; omega
      clear hRn hRR hBEH hO
      generalize O.length = lo at *
      generalize RR.length = lr at *
      go_wp2_with fail
      refine RegP.regionH (fun w' => w'.cell? ⟨w.heap.size, 0, none⟩ = some (at0 g.r)) [(1, 0), (0, 1), (0, 2), (0, 3), (0, 4), (0, 5), (0, 6), (0, 7), (0, 8), (0, 9), (4, 10), (4, 11), (4, 12), (4, 13), (4, 14), (4, 15), (4, 16), (4, 17), (4, 18), (0, 19), (2, 20)] (by kernel_rfl) (by kernel_rfl) (by rfl) (by kernel_rfl) (by exact hq0) ?_
      refine RegP.held1 (by (simp only [gA,gB,gC]); rfl) (by exact fun _ _ _ h => h) (by rfl) (by intro w' hS_; (try dsimp only at hS_); go_split_ands; go_simp; try with_reducible rfl) ?_
      try simp only [Act.put, pA,pB,pC]
      refine RegP.pure1 (by (simp only [gA,gB,gC]); rfl) (by exact fun _ _ _ h => h) (by rfl) (by intro w'; go_simp; try with_reducible rfl) ?_
      try simp only [Act.put, pA,pB,pC]
      refine RegP.pure1 (by (simp only [gA,gB,gC]); rfl) (by exact fun _ _ _ h => h) (by rfl) (by intro w'; go_simp; try with_reducible rfl) ?_
      try simp only [Act.put, pA,pB,pC]
      refine RegP.pure1 (by (simp only [gA,gB,gC]); rfl) (by exact fun _ _ _ h => h) (by rfl) (by intro w'; go_simp; try with_reducible rfl) ?_
      try simp only [Act.put, pA,pB,pC]
      refine RegP.pure1 (by (simp only [gA,gB,gC]); rfl) (by exact fun _ _ _ h => h) (by rfl) (by intro w'; go_simp; try with_reducible rfl) ?_
      try simp only [Act.put, pA,pB,pC]
      refine RegP.pure1 (by (simp only [gA,gB,gC]); rfl) (by exact fun _ _ _ h => h) (by rfl) (by intro w'; go_simp; try with_reducible rfl) ?_
      try simp only [Act.put, pA,pB,pC]
      refine RegP.pure1 (by (simp only [gA,gB,gC]); rfl) (by exact fun _ _ _ h => h) (by rfl) (by intro w'; go_simp; try with_reducible rfl) ?_
      try simp only [Act.put, pA,pB,pC]
      refine RegP.pure1 (by (simp only [gA,gB,gC]); rfl) (by exact fun _ _ _ h => h) (by rfl) (by intro w'; go_simp; try with_reducible rfl) ?_
      try simp only [Act.put, pA,pB,pC]
      refine RegP.pure1 (by (simp only [gA,gB,gC]); rfl) (by exact fun _ _ _ h => h) (by rfl) (by intro w'; go_simp; try with_reducible rfl) ?_
      try simp only [Act.put, pA,pB,pC]
      refine RegP.pure1 (by (simp only [gA,gB,gC]); rfl) (by exact fun _ _ _ h => h) (by rfl) (by intro w'; go_simp; try with_reducible rfl) ?_
      try simp only [Act.put, pA,pB,pC]
      refine RegP.skip1 (by (simp only [gA,gB,gC]); rfl) (by exact fun _ _ _ h => h) (by rfl) ?_
      try simp only [Act.put, pA,pB,pC]
      refine RegP.skip1 (by (simp only [gA,gB,gC]); rfl) (by exact fun _ _ _ h => h) (by rfl) ?_
      try simp only [Act.put, pA,pB,pC]
      refine RegP.skip1 (by (simp only [gA,gB,gC]); rfl) (by exact fun _ _ _ h => h) (by rfl) ?_
      try simp only [Act.put, pA,pB,pC]
      refine RegP.skip1 (by (simp only [gA,gB,gC]); rfl) (by exact fun _ _ _ h => h) (by rfl) ?_
      try simp only [Act.put, pA,pB,pC]
      refine RegP.skip1 (by (simp only [gA,gB,gC]); rfl) (by exact fun _ _ _ h => h) (by rfl) ?_
      try simp only [Act.put, pA,pB,pC]
      refine RegP.skip1 (by (simp only [gA,gB,gC]); rfl) (by exact fun _ _ _ h => h) (by rfl) ?_
      try simp only [Act.put, pA,pB,pC]
      refine RegP.skip1 (by (simp only [gA,gB,gC]); rfl) (by exact fun _ _ _ h => h) (by rfl) ?_
      try simp only [Act.put, pA,pB,pC]
      refine RegP.skip1 (by (simp only [gA,gB,gC]); rfl) (by exact fun _ _ _ h => h) (by rfl) ?_
      try simp only [Act.put, pA,pB,pC]
      refine RegP.skip1 (by (simp only [gA,gB,gC]); rfl) (by exact fun _ _ _ h => h) (by rfl) ?_
      try simp only [Act.put, pA,pB,pC]
      refine RegP.pure1 (by (simp only [gA,gB,gC]); rfl) (by exact fun _ _ _ h => h) (by rfl) (by intro w'; go_simp; try with_reducible rfl) ?_
      try simp only [Act.put, pA,pB,pC]
      refine RegP.ev1 (by (simp only [gA,gB,gC]); rfl) (fun K hK => ?_)
      go_simp
      refine (need_no g.r g.line 10 _ (hIc.out.rd.below (Below.refl _ _).drew).c4).mono ?_
      rintro e w2 ⟨rfl, rfl⟩
      exact ⟨rfl, Steps.bad hR.out (hBw.out.drew)⟩
    have hrb : decide ((0 : Int) < (RR.length : Int)) = true := by rw [decide_eq_true_iff]; omega
    have hrbn : decide (0 < RR.length) = true := by rw [decide_eq_true_iff]; omega
    have hrb1 : (0 : Int) < (RR.length : Int) := by omega
    have hrb2 : 0 < RR.length := by omega
    obtain ⟨rn, r, rfl⟩ : ∃ rn r, RR = rn :: r := by
      cases RR with
      | nil => simp at hRR
      | cons x y => exact ⟨x, y, rfl⟩
    obtain ⟨o0, os, hOe⟩ : ∃ x y, O = x :: y := by
      cases O with
      | nil => simp at hO
      | cons x y => exact ⟨x, y, rfl⟩
    obtain ⟨ad2, hA2, hq2⟩ := str_at k2.out 0 (by simp)
    subst hA2
    have hq2' : wc.cell? ad2 = some (.string (B rn)) := by
      have e : ad2.add 0 = ad2 := by simp [Addr.add]
      rw [e] at hq2; exact hq2
    have hz57 : ∀ w : World, (zeroValue 68).run Tryz.prog w = .ok (.pointer none) w := fun w => by kernel_rfl
    have hrnl := hsRH.out rn (by simp)
    have hLk : Hid (∀ W, Below wc.heap.size wc W → (Instr.lookup 65 (.map (some g.rm)) (.string (B rn)) false).run Tryz.prog W = .ok (((ruleAt st.rules rn).map fun i => at0 (g.rb i)).getD (.pointer none)) W) :=
      fun W hb => (hIc.out.below hb).mr.look Tryz.underlying65 (hz57 W) rn (by unfold maxLen; omega)
    have hq1 : wc.cell? ⟨g.r, 1, none⟩ = some (.map (some g.rm)) := hIc.out.cell 1
    have hd0 := Lib.hid ((Below.refl wc.heap.size wc).drew)
    cases hra : ruleAt st.rules rn with
    | none =>
      have hR : Hid (buildE st g.line ws = .error (g.line, 10)) := by
        show _ = _
        rw [hBEH.out, hOe]
        simp only [hra]
      rw [hra] at hLk
      have hlk := hLk.out wc.drew hd0.out
      have hlkH : Hid (∀ W, Below wc.heap.size wc W → (Instr.lookup 65 (.map (some g.rm)) (.string (B rn)) false).run Tryz.prog W = .ok (.pointer none) W) := hLk.out
      clear hBEH hO hRR hOe hra hLk hq2 hlk
      generalize O.length = lo at *
      generalize (rn :: r).length = lr at *
      go_wp2_with fail
      refine RegP.regionH (fun w' => w'.cell? ⟨w.heap.size, 0, none⟩ = some (at0 g.r) ∧ w'.cell? ⟨g.r, 1, none⟩ = some (.map (some g.rm)) ∧ w'.cell? ad2 = some (.string (B rn)) ∧ (Instr.lookup 65 (.map (some g.rm)) (.string (B rn)) false).run Tryz.prog w' = .ok (.pointer none) w') [(1, 0), (0, 1), (0, 2), (0, 3), (0, 4), (0, 5), (0, 6), (0, 7), (0, 8), (0, 9), (1, 10), (0, 11), (0, 12), (1, 13), (0, 14), (0, 15), (1, 16), (1, 17), (0, 18), (0, 19), (2, 20)] (by kernel_rfl) (by kernel_rfl) (by rfl) (by kernel_rfl) (by exact ⟨hq0, hq1, hq2', hlkH.out _ hd0.out⟩) ?_
      refine RegP.held1 (by (simp only [gA,gB,gC]); rfl) (by exact fun _ _ _ h => h) (by rfl) (by intro w' hS_; (try dsimp only at hS_); go_split_ands; go_simp; try with_reducible rfl) ?_
      try simp only [Act.put, pA,pB,pC]
      refine RegP.pure1 (by (simp only [gA,gB,gC]); rfl) (by exact fun _ _ _ h => h) (by rfl) (by intro w'; go_simp; try with_reducible rfl) ?_
      try simp only [Act.put, pA,pB,pC]
      refine RegP.pure1 (by (simp only [gA,gB,gC]); rfl) (by exact fun _ _ _ h => h) (by rfl) (by intro w'; go_simp; try with_reducible rfl) ?_
      try simp only [Act.put, pA,pB,pC]
      refine RegP.pure1 (by (simp only [gA,gB,gC]); rfl) (by exact fun _ _ _ h => h) (by rfl) (by intro w'; go_simp; try with_reducible rfl) ?_
      try simp only [Act.put, pA,pB,pC]
      refine RegP.pure1 (by (simp only [gA,gB,gC]); rfl) (by exact fun _ _ _ h => h) (by rfl) (by intro w'; go_simp; try with_reducible rfl) ?_
      try simp only [Act.put, pA,pB,pC]
      refine RegP.pure1 (by (simp only [gA,gB,gC]); rfl) (by exact fun _ _ _ h => h) (by rfl) (by intro w'; go_simp; try with_reducible rfl) ?_
      try simp only [Act.put, pA,pB,pC]
      refine RegP.pure1 (by (simp only [gA,gB,gC]); rfl) (by exact fun _ _ _ h => h) (by rfl) (by intro w'; go_simp; try with_reducible rfl) ?_
      try simp only [Act.put, pA,pB,pC]
      refine RegP.pure1 (by (simp only [gA,gB,gC]); rfl) (by exact fun _ _ _ h => h) (by rfl) (by intro w'; go_simp; try with_reducible rfl) ?_
      try simp only [Act.put, pA,pB,pC]
      refine RegP.pure1 (by (simp only [gA,gB,gC]); rfl) (by exact fun _ _ _ h => h) (by rfl) (by intro w'; go_simp; try with_reducible rfl) ?_
      try simp only [Act.put, pA,pB,pC]
      refine RegP.pure1 (by (simp only [gA,gB,gC]); rfl) (by exact fun _ _ _ h => h) (by rfl) (by intro w'; go_simp; try with_reducible rfl) ?_
      try simp only [Act.put, pA,pB,pC]
      refine RegP.held1 (by (simp only [gA,gB,gC]); rfl) (by exact fun _ _ _ h => h) (by rfl) (by intro w' hS_; (try dsimp only at hS_); go_split_ands; go_simp; try with_reducible rfl) ?_
      try simp only [Act.put, pA,pB,pC]
      refine RegP.pure1 (by (simp only [gA,gB,gC]); rfl) (by exact fun _ _ _ h => h) (by rfl) (by intro w'; go_simp; try with_reducible rfl) ?_
      try simp only [Act.put, pA,pB,pC]
      refine RegP.pure1 (by (simp only [gA,gB,gC]); rfl) (by exact fun _ _ _ h => h) (by rfl) (by intro w'; go_simp; try with_reducible rfl) ?_
      try simp only [Act.put, pA,pB,pC]
      refine RegP.held1 (by (simp only [gA,gB,gC]); rfl) (by exact fun _ _ _ h => h) (by rfl) (by intro w' hS_; (try dsimp only at hS_); go_split_ands; go_simp; try with_reducible rfl) ?_
      try simp only [Act.put, pA,pB,pC]
      refine RegP.pure1 (by (simp only [gA,gB,gC]); rfl) (by exact fun _ _ _ h => h) (by rfl) (by intro w'; go_simp; try with_reducible rfl) ?_
      try simp only [Act.put, pA,pB,pC]
      refine RegP.pure1 (by (simp only [gA,gB,gC]); rfl) (by exact fun _ _ _ h => h) (by rfl) (by intro w'; go_simp; try with_reducible rfl) ?_
      try simp only [Act.put, pA,pB,pC]
      refine RegP.held1 (by (simp only [gA,gB,gC]); rfl) (by exact fun _ _ _ h => h) (by rfl) (by intro w' hS_; (try dsimp only at hS_); go_split_ands; go_simp; try with_reducible rfl) ?_
      try simp only [Act.put, pA,pB,pC]
      refine RegP.held1 (by (simp only [gA,gB,gC]); rfl) (by exact fun _ _ _ h => h) (by rfl) (by intro w' hS_; (try dsimp only at hS_); go_split_ands; go_simp; try with_reducible rfl) ?_
      try simp only [Act.put, pA,pB,pC]
      refine RegP.pure1 (by (simp only [gA,gB,gC]); rfl) (by exact fun _ _ _ h => h) (by rfl) (by intro w'; go_simp; try with_reducible rfl) ?_
      try simp only [Act.put, pA,pB,pC]
      refine RegP.pure1 (by (simp only [gA,gB,gC]); rfl) (by exact fun _ _ _ h => h) (by rfl) (by intro w'; go_simp; try with_reducible rfl) ?_
      try simp only [Act.put, pA,pB,pC]
      refine RegP.ev1 (by (simp only [gA,gB,gC]); rfl) (fun K hK => ?_)
      go_simp
      refine (need_no g.r g.line 10 _ (hIc.out.rd.below (Below.refl _ _).drew).c4).mono ?_
      rintro e w2 ⟨rfl, rfl⟩
      exact ⟨rfl, Steps.bad hR.out (hBw.out.drew)⟩
    | some ri =>
      have hlkH : Hid (∀ W, Below wc.heap.size wc W → (Instr.lookup 65 (.map (some g.rm)) (.string (B rn)) false).run Tryz.prog W = .ok (at0 (g.rb ri)) W) := by
        have := hLk.out; rw [hra] at this; exact this
      have hnmr : nameL rn = true := by
        have h1 := ruleAt_lt hra
        have h2 := (hIH.out.rules ri h1).nm
        have h3 := (List.findIdx?_eq_some_iff_getElem.1 hra)
        obtain ⟨h4, h5, _⟩ := h3
        rw [show rn = st.rules[ri].name from (eq_of_beq h5).symm]; exact h2
      have hrn2 : rn ≠ [124, 124] := fun e => by rw [e] at hnmr; exact absurd hnmr (by decide)
      have hah : ahead [124, 124] (rn :: r) = rn :: ahead [124, 124] r := by
        have : (rn == [124, 124]) = false := beq_eq_false_iff_ne.2 hrn2
        simp [ahead, List.takeWhile_cons, this]
      have hbh : behind [124, 124] (rn :: r) = behind [124, 124] r := by
        have : (rn == [124, 124]) = false := beq_eq_false_iff_ne.2 hrn2
        simp [behind, List.dropWhile_cons, this]
      have hCut2 : Hid (∀ W, Below wc.heap.size wc W → Calls Tryz.prog 74 #[.slice (some ad2) (rn :: r).length c2', .string ⟨#[124, 124]⟩] W (CutAs (rn :: ahead [124, 124] r) (behind [124, 124] r) W)) := by
        intro W hb
        have := mcut_any (some ad2) c2' (rn :: r) [124, 124] W (Kd.C_below k2.out hb) l2 (by omega)
        unfold CutPost at this
        rw [hah, hbh] at this
        exact this
      have hnr : r.length ≤ 20000 := by simp only [List.length_cons] at hnR; omega
      have hlQ : (ahead [124, 124] r).length ≤ 20000 := Nat.le_trans (ahead_len _ _) hnr
      have hlD : (behind [124, 124] r).length ≤ 20000 := by rw [← behind_drop, List.length_drop]; omega
      have hsQ : Hid (∀ t ∈ ahead [124, 124] r, t.length ≤ 1000000) := fun t ht => hsRH.out t (List.mem_cons_of_mem _ ((List.takeWhile_sublist _).subset ht))
      have hsD : Hid (∀ t ∈ behind [124, 124] r, t.length ≤ 1000000) := fun t ht => hsRH.out t (List.mem_cons_of_mem _ ((List.dropWhile_sublist _).subset (List.mem_of_mem_tail ht)))
      have hri := ruleAt_lt hra
      have hBE4 : Hid (buildE st g.line ws = (match pathsE g.line st.file [] O with
            | .error e => .error e
            | .ok o => match pathsE g.line st.file [] (ahead [124] (ahead [124, 124] r)) with
              | .error e => .error e
              | .ok i => match pathsE g.line st.file [] (behind [124] (ahead [124, 124] r)) with
                | .error e => .error e
                | .ok m => match pathsE g.line st.file [] (behind [124, 124] r) with
                  | .error e => .error e
                  | .ok d => .ok { st with edges := st.edges ++ [⟨o, i, m, d, ri, none0, g.line⟩], inner := 2 })) := by
        show _ = _
        rw [hBEH.out, hOe]
        simp only [hra]
      clear hah hbh hrn2 hnmr hBEH
      generalize ahead [124, 124] r = Q at *
      generalize behind [124, 124] r = D at *
      have hRaH := Lib.hid hra
      have hOeH := Lib.hid hOe
      clear hO hRR hra hLk hq2 hOe
      generalize hlr : (rn :: r).length = lr at *
      have hLR := Lib.hid hlr
      clear hlr
      generalize hlo : O.length = lo at *
      have hLO := Lib.hid hlo
      clear hlo
      go_wp2_with fail
      refine RegP.regionH (fun w' => w'.cell? ⟨w.heap.size, 0, none⟩ = some (at0 g.r) ∧ w'.cell? ⟨g.r, 1, none⟩ = some (.map (some g.rm)) ∧ w'.cell? ad2 = some (.string (B rn)) ∧ (Instr.lookup 65 (.map (some g.rm)) (.string (B rn)) false).run Tryz.prog w' = .ok (at0 (g.rb ri)) w') [(1, 0), (0, 1), (0, 2), (0, 3), (0, 4), (0, 5), (0, 6), (0, 7), (0, 8), (0, 9), (1, 10), (0, 11), (0, 12), (1, 13), (0, 14), (0, 15), (1, 16), (1, 17), (0, 18), (0, 19), (2, 20)] (by kernel_rfl) (by kernel_rfl) (by rfl) (by kernel_rfl) (by exact ⟨hq0, hq1, hq2', hlkH.out _ hd0.out⟩) ?_
      refine RegP.held1 (by (simp only [gA,gB,gC]); rfl) (by exact fun _ _ _ h => h) (by rfl) (by intro w' hS_; (try dsimp only at hS_); go_split_ands; go_simp; try with_reducible rfl) ?_
      try simp only [Act.put, pA,pB,pC]
      refine RegP.pure1 (by (simp only [gA,gB,gC]); rfl) (by exact fun _ _ _ h => h) (by rfl) (by intro w'; go_simp; try with_reducible rfl) ?_
      try simp only [Act.put, pA,pB,pC]
      refine RegP.pure1 (by (simp only [gA,gB,gC]); rfl) (by exact fun _ _ _ h => h) (by rfl) (by intro w'; go_simp; try with_reducible rfl) ?_
      try simp only [Act.put, pA,pB,pC]
      refine RegP.pure1 (by (simp only [gA,gB,gC]); rfl) (by exact fun _ _ _ h => h) (by rfl) (by intro w'; go_simp; try with_reducible rfl) ?_
      try simp only [Act.put, pA,pB,pC]
      refine RegP.pure1 (by (simp only [gA,gB,gC]); rfl) (by exact fun _ _ _ h => h) (by rfl) (by intro w'; go_simp; try with_reducible rfl) ?_
      try simp only [Act.put, pA,pB,pC]
      refine RegP.pure1 (by (simp only [gA,gB,gC]); rfl) (by exact fun _ _ _ h => h) (by rfl) (by intro w'; go_simp; try with_reducible rfl) ?_
      try simp only [Act.put, pA,pB,pC]
      refine RegP.pure1 (by (simp only [gA,gB,gC]); rfl) (by exact fun _ _ _ h => h) (by rfl) (by intro w'; go_simp; try with_reducible rfl) ?_
      try simp only [Act.put, pA,pB,pC]
      refine RegP.pure1 (by (simp only [gA,gB,gC]); rfl) (by exact fun _ _ _ h => h) (by rfl) (by intro w'; go_simp; try with_reducible rfl) ?_
      try simp only [Act.put, pA,pB,pC]
      refine RegP.pure1 (by (simp only [gA,gB,gC]); rfl) (by exact fun _ _ _ h => h) (by rfl) (by intro w'; go_simp; try with_reducible rfl) ?_
      try simp only [Act.put, pA,pB,pC]
      refine RegP.pure1 (by (simp only [gA,gB,gC]); rfl) (by exact fun _ _ _ h => h) (by rfl) (by intro w'; go_simp; try with_reducible rfl) ?_
      try simp only [Act.put, pA,pB,pC]
      refine RegP.held1 (by (simp only [gA,gB,gC]); rfl) (by exact fun _ _ _ h => h) (by rfl) (by intro w' hS_; (try dsimp only at hS_); go_split_ands; go_simp; try with_reducible rfl) ?_
      try simp only [Act.put, pA,pB,pC]
      refine RegP.pure1 (by (simp only [gA,gB,gC]); rfl) (by exact fun _ _ _ h => h) (by rfl) (by intro w'; go_simp; try with_reducible rfl) ?_
      try simp only [Act.put, pA,pB,pC]
      refine RegP.pure1 (by (simp only [gA,gB,gC]); rfl) (by exact fun _ _ _ h => h) (by rfl) (by intro w'; go_simp; try with_reducible rfl) ?_
      try simp only [Act.put, pA,pB,pC]
      refine RegP.held1 (by (simp only [gA,gB,gC]); rfl) (by exact fun _ _ _ h => h) (by rfl) (by intro w' hS_; (try dsimp only at hS_); go_split_ands; go_simp; try with_reducible rfl) ?_
      try simp only [Act.put, pA,pB,pC]
      refine RegP.pure1 (by (simp only [gA,gB,gC]); rfl) (by exact fun _ _ _ h => h) (by rfl) (by intro w'; go_simp; try with_reducible rfl) ?_
      try simp only [Act.put, pA,pB,pC]
      refine RegP.pure1 (by (simp only [gA,gB,gC]); rfl) (by exact fun _ _ _ h => h) (by rfl) (by intro w'; go_simp; try with_reducible rfl) ?_
      try simp only [Act.put, pA,pB,pC]
      refine RegP.held1 (by (simp only [gA,gB,gC]); rfl) (by exact fun _ _ _ h => h) (by rfl) (by intro w' hS_; (try dsimp only at hS_); go_split_ands; go_simp; try with_reducible rfl) ?_
      try simp only [Act.put, pA,pB,pC]
      refine RegP.held1 (by (simp only [gA,gB,gC]); rfl) (by exact fun _ _ _ h => h) (by rfl) (by intro w' hS_; (try dsimp only at hS_); go_split_ands; go_simp; try with_reducible rfl) ?_
      try simp only [Act.put, pA,pB,pC]
      refine RegP.pure1 (by (simp only [gA,gB,gC]); rfl) (by exact fun _ _ _ h => h) (by rfl) (by intro w'; go_simp; try with_reducible rfl) ?_
      try simp only [Act.put, pA,pB,pC]
      refine RegP.pure1 (by (simp only [gA,gB,gC]); rfl) (by exact fun _ _ _ h => h) (by rfl) (by intro w'; go_simp; try with_reducible rfl) ?_
      try simp only [Act.put, pA,pB,pC]
      refine RegP.ev1 (by (simp only [gA,gB,gC]); rfl) (fun K hK => ?_)
      go_simp
      refine (need_ok _ _ _).mono ?_
      rintro e w2 ⟨rfl, rfl⟩
      refine hK.out _ _ ?_ (fun hHeld => ?_)
      · (try dsimp only); exact ⟨hq0, hq1, hq2', hlkH.out _ hd0.out⟩
      clear hK K
      try simp only [Act.put, pA,pB,pC]
      refine RegP.done1 ?_
      clear hHeld
      try dsimp only
      go_wp2_with fail
      refine (hCut2.out _ hd0.out).mono ?_
      rintro e w3 ⟨A3, c3, A4, c4, rfl, ⟨l3, k3⟩, ⟨l4, k4⟩, hb3⟩
      have hB3 := Lib.hid (hd0.out.trans hb3)
      obtain ⟨ad3, hA3, hq3⟩ := str_at k3 0 (by simp)
      subst hA3
      have hq3' : Hid (w3.cell? ad3 = some (.string (B rn))) := by
        have e : ad3.add 0 = ad3 := by simp [Addr.add]
        rw [e] at hq3; exact hq3
      have hD3 := C_drop k3 1
      have k4H := Lib.hid k4
      have hSix3 : Hid (Six w w3 g rn ri ad3) := Six.mk' hIH.out (hB2.out.trans (hB3.out.mono hB2.out.size)) ((hB3.out.block _ (lt_blk hCe.out)).trans hCe.out) hq3'.out (fun W hb => hlkH.out W (hB3.out.trans (hb.mono hB3.out.size)))
      have k1H : Hid (Kd.C Kd.string w3 A1 lo (O.map B)) := Kd.C_below k1.out hB3.out
      have hCut3 : Hid (∀ (A' : Option Addr) (c' n' : Nat) (W : World), n' = Q.length → (0 < Q.length → A' = some (ad3.add 1)) → Q.length ≤ c' → Below w3.heap.size w3 W → Calls Tryz.prog 74 #[.slice A' n' c', .string ⟨#[124]⟩] W (CutAs (ahead [124] Q) (behind [124] Q) W)) := by
        intro A' c' n' W hn' hA hc' hb
        subst hn'
        refine mcut_any A' c' Q [124] W ?_ hc' (by omega)
        by_cases h0 : 0 < Q.length
        · rw [hA h0]
          have := Kd.C_below hD3 hb
          simpa using this
        · have : Q = [] := List.length_eq_zero_iff.1 (by omega)
          rw [this]; exact C_nil _ _
      have hadd3 : Hid (∀ x : Option Addr, x = some ⟨ad3.block, ad3.off + 1, none⟩ → x = some (ad3.add 1)) := by
        intro x hx; rw [hx]; rfl
      have hlI : (ahead [124] Q).length ≤ 20000 := Nat.le_trans (ahead_len _ _) (by omega)
      have hlM : (behind [124] Q).length ≤ 20000 := by rw [← behind_drop, List.length_drop]; omega
      have hsI : Hid (∀ t ∈ ahead [124] Q, t.length ≤ 1000000) := fun t ht => hsQ.out t ((List.takeWhile_sublist _).subset ht)
      have hsM : Hid (∀ t ∈ behind [124] Q, t.length ≤ 1000000) := fun t ht => hsQ.out t ((List.dropWhile_sublist _).subset (List.mem_of_mem_tail ht))
      generalize ahead [124] Q = I at *
      generalize behind [124] Q = M at *
      obtain ⟨l31, hl31⟩ : ∃ l31, (rn :: Q).length = l31 := ⟨_, rfl⟩
      have hl32 : l31 = Q.length + 1 := by rw [← hl31]; rfl
      rw [hl31] at l3 ⊢
      have hl33 : l31 - 1 = Q.length := by omega
      have hl34 : (1 : Int) ≤ (l31 : Int) := by omega
      have hl35 : (l31 : Int) ≤ (c3 : Int) := by omega
      have hl36 : l31 ≤ Q.length + 1 := by omega
      have hl37 : Q.length + 1 ≤ l31 := by omega
      clear hl31 hl32 hd0 hb3 k3 hq3 hD3 k4
      go_upto_region 5 with (fail)
      go_cut [7, 8] (fun s7 s8 wx => ∃ A5 c5 A6 c6, s7 = .slice A5 I.length c5 ∧ s8 = .slice A6 M.length c6 ∧ (I.length ≤ c5 ∧ Hid (Kd.C Kd.string wx A5 I.length (I.map B))) ∧ (M.length ≤ c6 ∧ Hid (Kd.C Kd.string wx A6 M.length (M.map B))) ∧ Hid (Below w3.heap.size w3 wx))
      case first =>
        by_cases hc31 : c3 = 1
        · have hnw : l31 = 1 := by omega
          subst hc31
          subst hnw
          go_wp2_with fail
          refine (hCut3.out _ _ _ _ (by omega) (fun h => by omega) (by omega) (Below.refl _ _)).mono ?_
          rintro e w4 ⟨A5, c5, A6, c6, rfl, ⟨l5, k5⟩, ⟨l6, k6⟩, hb⟩
          go_wp2_with fail
          go_meet
          exact ⟨A5, c5, A6, c6, rfl, rfl, ⟨l5, k5⟩, ⟨l6, k6⟩, hb⟩
        · go_wp2_with fail
          refine (hCut3.out _ _ _ _ (by omega) (fun h => hadd3.out _ rfl) (by omega) (Below.refl _ _)).mono ?_
          rintro e w4 ⟨A5, c5, A6, c6, rfl, ⟨l5, k5⟩, ⟨l6, k6⟩, hb⟩
          go_wp2_with fail
          go_meet
          exact ⟨A5, c5, A6, c6, rfl, rfl, ⟨l5, k5⟩, ⟨l6, k6⟩, hb⟩
      case rest =>
        obtain ⟨A5, c5, A6, c6, rfl, rfl, ⟨l5, k5⟩, ⟨l6, k6⟩, hb5⟩ := hcut
        have hSix : Hid (Six w wc g rn ri ad3) := Six.mk' hIH.out (hSix3.out.below.trans (hb5.out.mono hSix3.out.below.size)) ((hb5.out.block _ (lt_blk hSix3.out.hp)).trans hSix3.out.hp) ((hb5.out.cell (World.block_lt_of_cell? w3 _ hq3'.out)).trans hq3'.out) (fun W hb => (hSix3.out.all W (hb5.out.trans (hb.mono hb5.out.size))).2.2.2.1)
        have j1 : Hid (Kd.C Kd.string wc A1 lo (O.map B)) := Kd.C_below k1H.out hb5.out
        have j4 := Lib.hid (Kd.C_below k4H.out hb5.out)
        have hl38 : (0 : Int) < (l31 : Int) := by omega
        have hl39 : 0 < l31 := by omega
        clear k1 k1H k4H hq3' hb5 hlkH hSix3 hB3 hadd3 hCut3 hCut2 hCe hB2 hq0 hq1 hq2' hBw hIc
        obtain ⟨w5, hw5⟩ : ∃ w5, w5 = wc := ⟨_, rfl⟩
        subst hw5
        go_upto_region 6 with (fail)
        go_cut [9] (fun s9 wx => ∃ mb sb eb q, s9 = at0 q ∧ Hid (Made w wx g ri mb sb eb w.heap.size q (.slice none 0 0) (.slice none 0 0) (.slice none 0 0) (.slice none 0 0)) ∧ Hid (Below w5.heap.size w5 wx))
        case first =>
          refine RegP.regionT (fun w' => w'.cell? ⟨w.heap.size, 0, none⟩ = some (at0 g.r) ∧ w'.cell? ⟨g.r, 1, none⟩ = some (.map (some g.rm)) ∧ w'.cell? ad3 = some (.string (B rn)) ∧ (Instr.lookup 65 (.map (some g.rm)) (.string (B rn)) false).run Tryz.prog w' = .ok (at0 (g.rb ri)) w' ∧ w'.cell? ⟨g.r, 0, none⟩ = some (at0 g.fb) ∧ w'.cell? ⟨g.r, 4, none⟩ = some (.int .i64 (g.line : Int))) (.cons 1 0 (.cons 0 1 (.cons 0 2 (.cons 1 3 (.cons 0 4 (.cons 0 5 (.cons 1 6 (.cons 1 7 (.cons 1 8 (.cons 0 9 (.cons 0 10 (.cons 1 11 (.cons 1 13 (.cons 0 14 (.cons 0 15 (.cons 1 16 (.fork 12 (.cons 0 17 (.fork 18 (.cons 2 19 (.cons 2 20 .nil)) 19 (.cons 2 18 (.cons 2 20 .nil)))) 19 (.cons 2 12 (.cons 0 17 (.cons 2 18 (.cons 2 20 .nil))))))))))))))))))))) (by kernel_rfl) (by kernel_rfl) (by kernel_rfl) (by exact hSix.out.all _ (Below.refl _ _).drew) ?_
          refine RegP.heldT (by (simp only [gA,gB,gC]); rfl) (by exact fun _ _ _ h => h) (by rfl) (by intro w' hS_; (try dsimp only at hS_); go_split_ands; go_simp; try with_reducible rfl) ?_
          try simp only [Act.put, pA,pB,pC]
          refine RegP.pureT (by (simp only [gA,gB,gC]); rfl) (by exact fun _ _ _ h => h) (by rfl) (by intro w'; go_simp; try with_reducible rfl) ?_
          try simp only [Act.put, pA,pB,pC]
          refine RegP.pureT (by (simp only [gA,gB,gC]); rfl) (by exact fun _ _ _ h => h) (by rfl) (by intro w'; go_simp; try with_reducible rfl) ?_
          try simp only [Act.put, pA,pB,pC]
          refine RegP.heldT (by (simp only [gA,gB,gC]); rfl) (by exact fun _ _ _ h => h) (by rfl) (by intro w' hS_; (try dsimp only at hS_); go_split_ands; go_simp; try with_reducible rfl) ?_
          try simp only [Act.put, pA,pB,pC]
          refine RegP.pureT (by (simp only [gA,gB,gC]); rfl) (by exact fun _ _ _ h => h) (by rfl) (by intro w'; go_simp; try with_reducible rfl) ?_
          try simp only [Act.put, pA,pB,pC]
          refine RegP.pureT (by (simp only [gA,gB,gC]); rfl) (by exact fun _ _ _ h => h) (by rfl) (by intro w'; go_simp; try with_reducible rfl) ?_
          try simp only [Act.put, pA,pB,pC]
          refine RegP.heldT (by (simp only [gA,gB,gC]); rfl) (by exact fun _ _ _ h => h) (by rfl) (by intro w' hS_; (try dsimp only at hS_); go_split_ands; go_simp; try with_reducible rfl) ?_
          try simp only [Act.put, pA,pB,pC]
          refine RegP.heldT (by (simp only [gA,gB,gC]); rfl) (by exact fun _ _ _ h => h) (by rfl) (by intro w' hS_; (try dsimp only at hS_); go_split_ands; go_simp; try with_reducible rfl) ?_
          try simp only [Act.put, pA,pB,pC]
          refine RegP.heldT (by (simp only [gA,gB,gC]); rfl) (by exact fun _ _ _ h => h) (by rfl) (by intro w' hS_; (try dsimp only at hS_); go_split_ands; go_simp; try with_reducible rfl) ?_
          try simp only [Act.put, pA,pB,pC]
          refine RegP.pureT (by (simp only [gA,gB,gC]); rfl) (by exact fun _ _ _ h => h) (by rfl) (by intro w'; go_simp; try with_reducible rfl) ?_
          try simp only [Act.put, pA,pB,pC]
          refine RegP.pureT (by (simp only [gA,gB,gC]); rfl) (by exact fun _ _ _ h => h) (by rfl) (by intro w'; go_simp; try with_reducible rfl) ?_
          try simp only [Act.put, pA,pB,pC]
          refine RegP.heldT (by (simp only [gA,gB,gC]); rfl) (by exact fun _ _ _ h => h) (by rfl) (by intro w' hS_; (try dsimp only at hS_); go_split_ands; go_simp; try with_reducible rfl) ?_
          try simp only [Act.put, pA,pB,pC]
          refine RegP.heldT (by (simp only [gA,gB,gC]); rfl) (by exact fun _ _ _ h => h) (by rfl) (by intro w' hS_; (try dsimp only at hS_); go_split_ands; go_simp; try with_reducible rfl) ?_
          try simp only [Act.put, pA,pB,pC]
          refine RegP.pureT (by (simp only [gA,gB,gC]); rfl) (by exact fun _ _ _ h => h) (by rfl) (by intro w'; go_simp; try with_reducible rfl) ?_
          try simp only [Act.put, pA,pB,pC]
          refine RegP.pureT (by (simp only [gA,gB,gC]); rfl) (by exact fun _ _ _ h => h) (by rfl) (by intro w'; go_simp; try with_reducible rfl) ?_
          try simp only [Act.put, pA,pB,pC]
          refine RegP.heldT (by (simp only [gA,gB,gC]); rfl) (by exact fun _ _ _ h => h) (by rfl) (by intro w' hS_; (try dsimp only at hS_); go_split_ands; go_simp; try with_reducible rfl) ?_
          try simp only [Act.put, pA,pB,pC]
          refine RegP.forkT (by (simp only [gA,gB,gC]); rfl) (by (simp only [gA,gB,gC]); rfl) (fun K hK => ?_) (fun K hK => ?_)
          · go_simp
            refine (New_any _ _).mono ?_
            rintro e w6 ⟨rfl, rfl⟩
            refine hK.out _ _ ?_ (fun hHeld => ?_)
            · (try dsimp only); exact hSix.out.all _ (by (repeat (first | exact Below.refl _ _ | refine Below.drew ?_ | refine Below.setCell ?_ (by simp <;> omega) _ | refine Below.alloc ?_ (by simp <;> omega) _)))
            clear hK K
            try simp only [Act.put, pA,pB,pC]
            refine RegP.pureT (by (simp only [gA,gB,gC]); rfl) (by exact fun _ _ _ h => h) (by rfl) (by intro w'; go_simp; try with_reducible rfl) ?_
            try simp only [Act.put, pA,pB,pC]
            refine RegP.forkT (by (simp only [gA,gB,gC]); rfl) (by (simp only [gA,gB,gC]); rfl) (fun K hK => ?_) (fun K hK => ?_)
            · go_simp
              refine hK.out _ _ ?_ (fun hHeld => ?_)
              · (try dsimp only); exact hSix.out.all _ (by (repeat (first | exact Below.refl _ _ | refine Below.drew ?_ | refine Below.setCell ?_ (by simp <;> omega) _ | refine Below.alloc ?_ (by simp <;> omega) _)))
              clear hK K
              try simp only [Act.put, pA,pB,pC]
              refine RegP.evT (by (simp only [gA,gB,gC]); rfl) (fun K hK => ?_)
              go_simp
              refine hK.out _ _ ?_ (fun hHeld => ?_)
              · (try dsimp only); exact hSix.out.all _ (by (repeat (first | exact Below.refl _ _ | refine Below.drew ?_ | refine Below.setCell ?_ (by simp <;> omega) _ | refine Below.alloc ?_ (by simp <;> omega) _)))
              clear hK K
              try simp only [Act.put, pA,pB,pC]
              refine RegP.evT (by (simp only [gA,gB,gC]); rfl) (fun K hK => ?_)
              go_simp
              refine hK.out _ _ ?_ (fun hHeld => ?_)
              · (try dsimp only); exact hSix.out.all _ (by (repeat (first | exact Below.refl _ _ | refine Below.drew ?_ | refine Below.setCell ?_ (by simp <;> omega) _ | refine Below.alloc ?_ (by simp <;> omega) _)))
              clear hK K
              try simp only [Act.put, pA,pB,pC]
              refine RegP.doneT ?_
              clear hHeld
              try dsimp only
              go_wp2_with fail
              go_meet
              exact ⟨_, _, _, _, rfl, hSix.out.ordC, by (repeat (first | exact Below.refl _ _ | refine Below.drew ?_ | refine Below.setCell ?_ (by simp <;> omega) _ | refine Below.alloc ?_ (by simp <;> omega) _))⟩
            · go_simp
              refine hK.out _ _ ?_ (fun hHeld => ?_)
              · (try dsimp only); exact hSix.out.all _ (by (repeat (first | exact Below.refl _ _ | refine Below.drew ?_ | refine Below.setCell ?_ (by simp <;> omega) _ | refine Below.alloc ?_ (by simp <;> omega) _)))
              clear hK K
              try simp only [Act.put, pA,pB,pC]
              refine RegP.evT (by (simp only [gA,gB,gC]); rfl) (fun K hK => ?_)
              go_simp
              refine hK.out _ _ ?_ (fun hHeld => ?_)
              · (try dsimp only); exact hSix.out.all _ (by (repeat (first | exact Below.refl _ _ | refine Below.drew ?_ | refine Below.setCell ?_ (by simp <;> omega) _ | refine Below.alloc ?_ (by simp <;> omega) _)))
              clear hK K
              try simp only [Act.put, pA,pB,pC]
              refine RegP.evT (by (simp only [gA,gB,gC]); rfl) (fun K hK => ?_)
              go_simp
              refine hK.out _ _ ?_ (fun hHeld => ?_)
              · (try dsimp only); exact hSix.out.all _ (by (repeat (first | exact Below.refl _ _ | refine Below.drew ?_ | refine Below.setCell ?_ (by simp <;> omega) _ | refine Below.alloc ?_ (by simp <;> omega) _)))
              clear hK K
              try simp only [Act.put, pA,pB,pC]
              refine RegP.doneT ?_
              clear hHeld
              try dsimp only
              go_wp2_with fail
              go_meet
              exact ⟨_, _, _, _, rfl, hSix.out.ordB, by (repeat (first | exact Below.refl _ _ | refine Below.drew ?_ | refine Below.setCell ?_ (by simp <;> omega) _ | refine Below.alloc ?_ (by simp <;> omega) _))⟩
          · go_simp
            refine hK.out _ _ ?_ (fun hHeld => ?_)
            · (try dsimp only); exact hSix.out.all _ (by (repeat (first | exact Below.refl _ _ | refine Below.drew ?_ | refine Below.setCell ?_ (by simp <;> omega) _ | refine Below.alloc ?_ (by simp <;> omega) _)))
            clear hK K
            try simp only [Act.put, pA,pB,pC]
            refine RegP.evT (by (simp only [gA,gB,gC]); rfl) (fun K hK => ?_)
            go_simp
            refine (New_any _ _).mono ?_
            rintro e w6 ⟨rfl, rfl⟩
            refine hK.out _ _ ?_ (fun hHeld => ?_)
            · (try dsimp only); exact hSix.out.all _ (by (repeat (first | exact Below.refl _ _ | refine Below.drew ?_ | refine Below.setCell ?_ (by simp <;> omega) _ | refine Below.alloc ?_ (by simp <;> omega) _)))
            clear hK K
            try simp only [Act.put, pA,pB,pC]
            refine RegP.pureT (by (simp only [gA,gB,gC]); rfl) (by exact fun _ _ _ h => h) (by rfl) (by intro w'; go_simp; try with_reducible rfl) ?_
            try simp only [Act.put, pA,pB,pC]
            refine RegP.evT (by (simp only [gA,gB,gC]); rfl) (fun K hK => ?_)
            go_simp
            refine hK.out _ _ ?_ (fun hHeld => ?_)
            · (try dsimp only); exact hSix.out.all _ (by (repeat (first | exact Below.refl _ _ | refine Below.drew ?_ | refine Below.setCell ?_ (by simp <;> omega) _ | refine Below.alloc ?_ (by simp <;> omega) _)))
            clear hK K
            try simp only [Act.put, pA,pB,pC]
            refine RegP.evT (by (simp only [gA,gB,gC]); rfl) (fun K hK => ?_)
            go_simp
            refine hK.out _ _ ?_ (fun hHeld => ?_)
            · (try dsimp only); exact hSix.out.all _ (by (repeat (first | exact Below.refl _ _ | refine Below.drew ?_ | refine Below.setCell ?_ (by simp <;> omega) _ | refine Below.alloc ?_ (by simp <;> omega) _)))
            clear hK K
            try simp only [Act.put, pA,pB,pC]
            refine RegP.doneT ?_
            clear hHeld
            try dsimp only
            go_wp2_with fail
            go_meet
            exact ⟨_, _, _, _, rfl, hSix.out.ordA, by (repeat (first | exact Below.refl _ _ | refine Below.drew ?_ | refine Below.setCell ?_ (by simp <;> omega) _ | refine Below.alloc ?_ (by simp <;> omega) _))⟩
        case rest =>
          obtain ⟨mb, sb, eb, q, rfl, hM, hD⟩ := hcut
          have hM0 : Hid (Made w wc.drew g ri mb sb eb w.heap.size q (.slice none 0 0) (.slice none 0 0) (.slice none 0 0) (.slice none 0 0)) := hM.out.more (by (repeat (first | exact Below.refl _ _ | refine Below.drew ?_ | refine Below.setCell ?_ (by simp <;> omega) _ | refine Below.alloc ?_ (by simp <;> omega) _)))
          have hD0 : Hid (Below w5.heap.size w5 wc.drew) := hD.out.drew
          clear hM hD hSix
          go_wp2_with fail
          refine RegP.regionH (fun w' => w'.cell? ⟨q, 0, none⟩ = some (at0 eb) ∧ w'.cell? ⟨w.heap.size, 0, none⟩ = some (at0 g.r)) [(1, 0), (1, 1), (1, 2), (1, 3), (1, 4), (0, 5), (1, 7), (0, 8), (1, 10), (0, 11), (1, 13), (0, 14), (2, 6), (2, 9), (2, 12), (2, 15), (0, 16), (0, 17), (0, 18), (2, 19), (0, 20), (0, 21), (0, 22), (2, 23), (0, 24), (0, 25), (0, 26), (2, 27), (0, 28), (0, 29), (0, 30), (2, 31)] (by kernel_rfl) (by kernel_rfl) (by rfl) (by kernel_rfl) (by exact hM0.out.box) ?_
          refine RegP.held1 (by (simp only [gA,gB,gC]); rfl) (by exact fun _ _ _ h => h) (by rfl) (by intro w' hS_; (try dsimp only at hS_); go_split_ands; go_simp; try with_reducible rfl) ?_
          try simp only [Act.put, pA,pB,pC]
          refine RegP.held1 (by (simp only [gA,gB,gC]); rfl) (by exact fun _ _ _ h => h) (by rfl) (by intro w' hS_; (try dsimp only at hS_); go_split_ands; go_simp; try with_reducible rfl) ?_
          try simp only [Act.put, pA,pB,pC]
          refine RegP.held1 (by (simp only [gA,gB,gC]); rfl) (by exact fun _ _ _ h => h) (by rfl) (by intro w' hS_; (try dsimp only at hS_); go_split_ands; go_simp; try with_reducible rfl) ?_
          try simp only [Act.put, pA,pB,pC]
          refine RegP.held1 (by (simp only [gA,gB,gC]); rfl) (by exact fun _ _ _ h => h) (by rfl) (by intro w' hS_; (try dsimp only at hS_); go_split_ands; go_simp; try with_reducible rfl) ?_
          try simp only [Act.put, pA,pB,pC]
          refine RegP.held1 (by (simp only [gA,gB,gC]); rfl) (by exact fun _ _ _ h => h) (by rfl) (by intro w' hS_; (try dsimp only at hS_); go_split_ands; go_simp; try with_reducible rfl) ?_
          try simp only [Act.put, pA,pB,pC]
          refine RegP.pure1 (by (simp only [gA,gB,gC]); rfl) (by exact fun _ _ _ h => h) (by rfl) (by intro w'; go_simp; try with_reducible rfl) ?_
          try simp only [Act.put, pA,pB,pC]
          refine RegP.held1 (by (simp only [gA,gB,gC]); rfl) (by exact fun _ _ _ h => h) (by rfl) (by intro w' hS_; (try dsimp only at hS_); go_split_ands; go_simp; try with_reducible rfl) ?_
          try simp only [Act.put, pA,pB,pC]
          refine RegP.pure1 (by (simp only [gA,gB,gC]); rfl) (by exact fun _ _ _ h => h) (by rfl) (by intro w'; go_simp; try with_reducible rfl) ?_
          try simp only [Act.put, pA,pB,pC]
          refine RegP.held1 (by (simp only [gA,gB,gC]); rfl) (by exact fun _ _ _ h => h) (by rfl) (by intro w' hS_; (try dsimp only at hS_); go_split_ands; go_simp; try with_reducible rfl) ?_
          try simp only [Act.put, pA,pB,pC]
          refine RegP.pure1 (by (simp only [gA,gB,gC]); rfl) (by exact fun _ _ _ h => h) (by rfl) (by intro w'; go_simp; try with_reducible rfl) ?_
          try simp only [Act.put, pA,pB,pC]
          refine RegP.held1 (by (simp only [gA,gB,gC]); rfl) (by exact fun _ _ _ h => h) (by rfl) (by intro w' hS_; (try dsimp only at hS_); go_split_ands; go_simp; try with_reducible rfl) ?_
          try simp only [Act.put, pA,pB,pC]
          refine RegP.pure1 (by (simp only [gA,gB,gC]); rfl) (by exact fun _ _ _ h => h) (by rfl) (by intro w'; go_simp; try with_reducible rfl) ?_
          try simp only [Act.put, pA,pB,pC]
          refine RegP.ev1 (by (simp only [gA,gB,gC]); rfl) (fun K hK => ?_)
          rcases hp0 : pathsE g.line st.file [] O with ⟨l1, e1⟩ | oo
          · have hR : Hid (buildE st g.line ws = .error (l1, e1)) := by show _ = _; rw [hBE4.out]; simp only [hp0]
            go_simp
            have hP := hIH.out.paths hM0.out.below hD0.out A1 c1 O _ hLO.out j1.out hnO hsOH.out
            rw [hp0] at hP
            refine hP.mono ?_
            rintro e w2 ⟨rfl, hb⟩
            exact ⟨rfl, Steps.bad hR.out ((hM0.out.below.mono hIH.out.base).trans (hb.mono (Nat.le_trans hIH.out.base hM0.out.below.size)))⟩
          go_simp
          have hP := hIH.out.paths hM0.out.below hD0.out A1 c1 O _ hLO.out j1.out hnO hsOH.out
          rw [hp0] at hP
          refine hP.mono ?_
          rintro e x1 ⟨v1, rfl, ho, hb⟩
          clear hP
          obtain ⟨E1, d1, rfl, hl19, _⟩ := own_slice ho
          have hM1 := Lib.hid (hM0.out.more hb)
          have hD1 := Lib.hid (hD0.out.trans (hb.mono hD0.out.size))
          have hO11 := Lib.hid (own_lower ho hM0.out.below.size)
          clear ho hb hl19
          refine hK.out _ _ ?_ (fun hHeld => ?_)
          · (try dsimp only); exact hM1.out.box
          clear hK K
          try simp only [Act.put, pA,pB,pC]
          refine RegP.ev1 (by (simp only [gA,gB,gC]); rfl) (fun K hK => ?_)
          rcases hp1 : pathsE g.line st.file [] I with ⟨l1, e1⟩ | ii
          · have hR : Hid (buildE st g.line ws = .error (l1, e1)) := by show _ = _; rw [hBE4.out]; simp only [hp0, hp1]
            go_simp
            have hP := hIH.out.paths hM1.out.below hD1.out A5 c5 I _ rfl k5.out hlI hsI.out
            rw [hp1] at hP
            refine hP.mono ?_
            rintro e w2 ⟨rfl, hb⟩
            exact ⟨rfl, Steps.bad hR.out ((hM1.out.below.mono hIH.out.base).trans (hb.mono (Nat.le_trans hIH.out.base hM1.out.below.size)))⟩
          go_simp
          have hP := hIH.out.paths hM1.out.below hD1.out A5 c5 I _ rfl k5.out hlI hsI.out
          rw [hp1] at hP
          refine hP.mono ?_
          rintro e x2 ⟨v2, rfl, ho, hb⟩
          clear hP
          obtain ⟨E2, d2, rfl, hl29, _⟩ := own_slice ho
          have hM2 := Lib.hid (hM1.out.more hb)
          have hD2 := Lib.hid (hD1.out.trans (hb.mono hD1.out.size))
          have hO12 := Lib.hid (row_more hO11.out hb)
          have hO22 := Lib.hid (own_lower ho hM1.out.below.size)
          clear ho hb hl29
          refine hK.out _ _ ?_ (fun hHeld => ?_)
          · (try dsimp only); exact hM2.out.box
          clear hK K
          try simp only [Act.put, pA,pB,pC]
          refine RegP.ev1 (by (simp only [gA,gB,gC]); rfl) (fun K hK => ?_)
          rcases hp2 : pathsE g.line st.file [] M with ⟨l1, e1⟩ | mm
          · have hR : Hid (buildE st g.line ws = .error (l1, e1)) := by show _ = _; rw [hBE4.out]; simp only [hp0, hp1, hp2]
            go_simp
            have hP := hIH.out.paths hM2.out.below hD2.out A6 c6 M _ rfl k6.out hlM hsM.out
            rw [hp2] at hP
            refine hP.mono ?_
            rintro e w2 ⟨rfl, hb⟩
            exact ⟨rfl, Steps.bad hR.out ((hM2.out.below.mono hIH.out.base).trans (hb.mono (Nat.le_trans hIH.out.base hM2.out.below.size)))⟩
          go_simp
          have hP := hIH.out.paths hM2.out.below hD2.out A6 c6 M _ rfl k6.out hlM hsM.out
          rw [hp2] at hP
          refine hP.mono ?_
          rintro e x3 ⟨v3, rfl, ho, hb⟩
          clear hP
          obtain ⟨E3, d3, rfl, hl39, _⟩ := own_slice ho
          have hM3 := Lib.hid (hM2.out.more hb)
          have hD3 := Lib.hid (hD2.out.trans (hb.mono hD2.out.size))
          have hO13 := Lib.hid (row_more hO12.out hb)
          have hO23 := Lib.hid (row_more hO22.out hb)
          have hO33 := Lib.hid (own_lower ho hM2.out.below.size)
          clear ho hb hl39
          refine hK.out _ _ ?_ (fun hHeld => ?_)
          · (try dsimp only); exact hM3.out.box
          clear hK K
          try simp only [Act.put, pA,pB,pC]
          refine RegP.ev1 (by (simp only [gA,gB,gC]); rfl) (fun K hK => ?_)
          rcases hp3 : pathsE g.line st.file [] D with ⟨l1, e1⟩ | dd
          · have hR : Hid (buildE st g.line ws = .error (l1, e1)) := by show _ = _; rw [hBE4.out]; simp only [hp0, hp1, hp2, hp3]
            go_simp
            have hP := hIH.out.paths hM3.out.below hD3.out A4 c4 D _ rfl j4.out hlD hsD.out
            rw [hp3] at hP
            refine hP.mono ?_
            rintro e w2 ⟨rfl, hb⟩
            exact ⟨rfl, Steps.bad hR.out ((hM3.out.below.mono hIH.out.base).trans (hb.mono (Nat.le_trans hIH.out.base hM3.out.below.size)))⟩
          go_simp
          have hP := hIH.out.paths hM3.out.below hD3.out A4 c4 D _ rfl j4.out hlD hsD.out
          rw [hp3] at hP
          refine hP.mono ?_
          rintro e x4 ⟨v4, rfl, ho, hb⟩
          clear hP
          obtain ⟨E4, d4, rfl, hl49, _⟩ := own_slice ho
          have hM4 := Lib.hid (hM3.out.more hb)
          have hD4 := Lib.hid (hD3.out.trans (hb.mono hD3.out.size))
          have hO14 := Lib.hid (row_more hO13.out hb)
          have hO24 := Lib.hid (row_more hO23.out hb)
          have hO34 := Lib.hid (row_more hO33.out hb)
          have hO44 := Lib.hid (own_lower ho hM3.out.below.size)
          clear ho hb hl49
          refine hK.out _ _ ?_ (fun hHeld => ?_)
          · (try dsimp only); exact hM4.out.box
          clear hK K
          try simp only [Act.put, pA,pB,pC]
          refine RegP.pure1 (by (simp only [gA,gB,gC]); rfl) (by exact fun _ _ _ h => h) (by rfl) (by intro w'; go_simp; try with_reducible rfl) ?_
          try simp only [Act.put, pA,pB,pC]
          refine RegP.pure1 (by (simp only [gA,gB,gC]); rfl) (by exact fun _ _ _ h => h) (by rfl) (by intro w'; go_simp; try with_reducible rfl) ?_
          try simp only [Act.put, pA,pB,pC]
          refine RegP.pure1 (by (simp only [gA,gB,gC]); rfl) (by exact fun _ _ _ h => h) (by rfl) (by intro w'; go_simp; try with_reducible rfl) ?_
          try simp only [Act.put, pA,pB,pC]
          refine RegP.ev1 (by (simp only [gA,gB,gC]); rfl) (fun K hK => ?_)
          have c19 := (cell_of_heap (j := 0) hM4.out.he).trans rfl
          have f19 := frozen_of_heap hM4.out.he 0
          go_simp
          have hM5 : Hid (Made w (x4.setCell ⟨eb, 0, none⟩ (.slice E1 oo.length d1)) g ri mb sb eb w.heap.size q (.slice E1 oo.length d1) (.slice none 0 0) (.slice none 0 0) (.slice none 0 0)) := hM4.out.set 0 _ _ _ _ _ rfl
          have hO15 := Lib.hid (hM4.out.row hO14.out 0 (.slice E1 oo.length d1))
          have hO25 := Lib.hid (hM4.out.row hO24.out 0 (.slice E1 oo.length d1))
          have hO35 := Lib.hid (hM4.out.row hO34.out 0 (.slice E1 oo.length d1))
          have hO45 := Lib.hid (hM4.out.row hO44.out 0 (.slice E1 oo.length d1))
          clear c19 f19
          generalize x4.setCell ⟨eb, 0, none⟩ (.slice E1 oo.length d1) = x5 at *
          refine hK.out _ _ ?_ (fun hHeld => ?_)
          · (try dsimp only); exact hM5.out.box
          clear hK K
          try simp only [Act.put, pA,pB,pC]
          refine RegP.pure1 (by (simp only [gA,gB,gC]); rfl) (by exact fun _ _ _ h => h) (by rfl) (by intro w'; go_simp; try with_reducible rfl) ?_
          try simp only [Act.put, pA,pB,pC]
          refine RegP.pure1 (by (simp only [gA,gB,gC]); rfl) (by exact fun _ _ _ h => h) (by rfl) (by intro w'; go_simp; try with_reducible rfl) ?_
          try simp only [Act.put, pA,pB,pC]
          refine RegP.pure1 (by (simp only [gA,gB,gC]); rfl) (by exact fun _ _ _ h => h) (by rfl) (by intro w'; go_simp; try with_reducible rfl) ?_
          try simp only [Act.put, pA,pB,pC]
          refine RegP.ev1 (by (simp only [gA,gB,gC]); rfl) (fun K hK => ?_)
          have c19 := (cell_of_heap (j := 1) hM5.out.he).trans rfl
          have f19 := frozen_of_heap hM5.out.he 1
          go_simp
          have hM6 : Hid (Made w (x5.setCell ⟨eb, 1, none⟩ (.slice E2 ii.length d2)) g ri mb sb eb w.heap.size q (.slice E1 oo.length d1) (.slice E2 ii.length d2) (.slice none 0 0) (.slice none 0 0)) := hM5.out.set 1 _ _ _ _ _ rfl
          have hO16 := Lib.hid (hM5.out.row hO15.out 1 (.slice E2 ii.length d2))
          have hO26 := Lib.hid (hM5.out.row hO25.out 1 (.slice E2 ii.length d2))
          have hO36 := Lib.hid (hM5.out.row hO35.out 1 (.slice E2 ii.length d2))
          have hO46 := Lib.hid (hM5.out.row hO45.out 1 (.slice E2 ii.length d2))
          clear c19 f19
          generalize x5.setCell ⟨eb, 1, none⟩ (.slice E2 ii.length d2) = x6 at *
          refine hK.out _ _ ?_ (fun hHeld => ?_)
          · (try dsimp only); exact hM6.out.box
          clear hK K
          try simp only [Act.put, pA,pB,pC]
          refine RegP.pure1 (by (simp only [gA,gB,gC]); rfl) (by exact fun _ _ _ h => h) (by rfl) (by intro w'; go_simp; try with_reducible rfl) ?_
          try simp only [Act.put, pA,pB,pC]
          refine RegP.pure1 (by (simp only [gA,gB,gC]); rfl) (by exact fun _ _ _ h => h) (by rfl) (by intro w'; go_simp; try with_reducible rfl) ?_
          try simp only [Act.put, pA,pB,pC]
          refine RegP.pure1 (by (simp only [gA,gB,gC]); rfl) (by exact fun _ _ _ h => h) (by rfl) (by intro w'; go_simp; try with_reducible rfl) ?_
          try simp only [Act.put, pA,pB,pC]
          refine RegP.ev1 (by (simp only [gA,gB,gC]); rfl) (fun K hK => ?_)
          have c19 := (cell_of_heap (j := 2) hM6.out.he).trans rfl
          have f19 := frozen_of_heap hM6.out.he 2
          go_simp
          have hM7 : Hid (Made w (x6.setCell ⟨eb, 2, none⟩ (.slice E3 mm.length d3)) g ri mb sb eb w.heap.size q (.slice E1 oo.length d1) (.slice E2 ii.length d2) (.slice E3 mm.length d3) (.slice none 0 0)) := hM6.out.set 2 _ _ _ _ _ rfl
          have hO17 := Lib.hid (hM6.out.row hO16.out 2 (.slice E3 mm.length d3))
          have hO27 := Lib.hid (hM6.out.row hO26.out 2 (.slice E3 mm.length d3))
          have hO37 := Lib.hid (hM6.out.row hO36.out 2 (.slice E3 mm.length d3))
          have hO47 := Lib.hid (hM6.out.row hO46.out 2 (.slice E3 mm.length d3))
          clear c19 f19
          generalize x6.setCell ⟨eb, 2, none⟩ (.slice E3 mm.length d3) = x7 at *
          refine hK.out _ _ ?_ (fun hHeld => ?_)
          · (try dsimp only); exact hM7.out.box
          clear hK K
          try simp only [Act.put, pA,pB,pC]
          refine RegP.pure1 (by (simp only [gA,gB,gC]); rfl) (by exact fun _ _ _ h => h) (by rfl) (by intro w'; go_simp; try with_reducible rfl) ?_
          try simp only [Act.put, pA,pB,pC]
          refine RegP.pure1 (by (simp only [gA,gB,gC]); rfl) (by exact fun _ _ _ h => h) (by rfl) (by intro w'; go_simp; try with_reducible rfl) ?_
          try simp only [Act.put, pA,pB,pC]
          refine RegP.pure1 (by (simp only [gA,gB,gC]); rfl) (by exact fun _ _ _ h => h) (by rfl) (by intro w'; go_simp; try with_reducible rfl) ?_
          try simp only [Act.put, pA,pB,pC]
          refine RegP.ev1 (by (simp only [gA,gB,gC]); rfl) (fun K hK => ?_)
          have c19 := (cell_of_heap (j := 3) hM7.out.he).trans rfl
          have f19 := frozen_of_heap hM7.out.he 3
          go_simp
          have hM8 : Hid (Made w (x7.setCell ⟨eb, 3, none⟩ (.slice E4 dd.length d4)) g ri mb sb eb w.heap.size q (.slice E1 oo.length d1) (.slice E2 ii.length d2) (.slice E3 mm.length d3) (.slice E4 dd.length d4)) := hM7.out.set 3 _ _ _ _ _ rfl
          have hO18 := Lib.hid (hM7.out.row hO17.out 3 (.slice E4 dd.length d4))
          have hO28 := Lib.hid (hM7.out.row hO27.out 3 (.slice E4 dd.length d4))
          have hO38 := Lib.hid (hM7.out.row hO37.out 3 (.slice E4 dd.length d4))
          have hO48 := Lib.hid (hM7.out.row hO47.out 3 (.slice E4 dd.length d4))
          clear c19 f19
          generalize x7.setCell ⟨eb, 3, none⟩ (.slice E4 dd.length d4) = x8 at *
          refine hK.out _ _ ?_ (fun hHeld => ?_)
          · (try dsimp only); exact hM8.out.box
          clear hK K
          try simp only [Act.put, pA,pB,pC]
          refine RegP.done1 ?_
          clear hHeld
          have hM9 : Hid (Made w x8.drew g ri mb sb eb w.heap.size q (.slice E1 oo.length d1) (.slice E2 ii.length d2) (.slice E3 mm.length d3) (.slice E4 dd.length d4)) := hM8.out.more (by (repeat (first | exact Below.refl _ _ | refine Below.drew ?_ | refine Below.setCell ?_ (by simp <;> omega) _ | refine Below.alloc ?_ (by simp <;> omega) _)))
          have hI8 : Hid (Inv B0 x8.drew g st) := hIH.out.below (hM9.out.below)
          have hF0 := Lib.hid (pathsE_few0 hp0 (by rw [hLO.out]; omega))
          have hF1 := Lib.hid (pathsE_few0 hp1 (by omega))
          have hR : Hid (buildE st g.line ws = .ok { st with edges := st.edges ++ [⟨oo, ii, mm, dd, ri, none0, g.line⟩], inner := 2 }) := by show _ = _; rw [hBE4.out]; simp only [hp0, hp1, hp2, hp3]
          have hmf : ∀ (fn : Fn) (first cap : Array Value) (w : World), (Instr.makeFunc fn first cap).run Tryz.prog w = .ok (.func fn first cap) w := fun _ _ _ _ => rfl
          try dsimp only
          go_wp2_with fail
          refine RegP.region (fun w' => w'.cell? ⟨q, 0, none⟩ = some (at0 eb) ∧ w'.cell? ⟨w.heap.size, 0, none⟩ = some (at0 g.r) ∧ w'.cell? ⟨g.r, 2, none⟩ = some g.ve) 10 [(1, 0), (1, 1), (0, 2), (0, 3), (1, 4), (1, 5), (2, 6), (2, 7), (0, 8), (0, 9), (3, 10)] (by kernel_rfl) (by kernel_rfl) (by rfl) (by kernel_rfl) (by exact hM8.out.s8 hIH.out (by (repeat (first | exact Below.refl _ _ | refine Below.drew ?_ | refine Below.setCell ?_ (by simp <;> omega) _ | refine Below.alloc ?_ (by simp <;> omega) _)))) ?_
          refine RegP.held1 (by (simp only [gA,gB,gC]); rfl) (by exact fun _ _ _ h => h) (by rfl) (by intro w' hS_; (try dsimp only at hS_); go_split_ands; go_simp; try with_reducible rfl) ?_
          try simp only [Act.put, pA,pB,pC]
          refine RegP.held1 (by (simp only [gA,gB,gC]); rfl) (by exact fun _ _ _ h => h) (by rfl) (by intro w' hS_; (try dsimp only at hS_); go_split_ands; go_simp; try with_reducible rfl) ?_
          try simp only [Act.put, pA,pB,pC]
          refine RegP.pure1 (by (simp only [gA,gB,gC]); rfl) (by exact fun _ _ _ h => h) (by rfl) (by intro w'; go_simp; try with_reducible rfl) ?_
          try simp only [Act.put, pA,pB,pC]
          refine RegP.pure1 (by (simp only [gA,gB,gC]); rfl) (by exact fun _ _ _ h => h) (by rfl) (by intro w'; go_simp; try with_reducible rfl) ?_
          try simp only [Act.put, pA,pB,pC]
          refine RegP.held1 (by (simp only [gA,gB,gC]); rfl) (by exact fun _ _ _ h => h) (by rfl) (by intro w' hS_; (try dsimp only at hS_); go_split_ands; go_simp; try with_reducible rfl) ?_
          try simp only [Act.put, pA,pB,pC]
          refine RegP.held1 (by (simp only [gA,gB,gC]); rfl) (by exact fun _ _ _ h => h) (by rfl) (by intro w' hS_; (try dsimp only at hS_); go_split_ands; go_simp; try with_reducible rfl) ?_
          try simp only [Act.put, pA,pB,pC]
          refine RegP.ev1 (by (simp only [gA,gB,gC]); rfl) (fun K hK => ?_)
          go_simp
          refine hK.out _ _ ?_ (fun hHeld => ?_)
          · (try dsimp only); exact hM8.out.s8 hIH.out (by (repeat (first | exact Below.refl _ _ | refine Below.drew ?_ | refine Below.setCell ?_ (by simp <;> omega) _ | refine Below.alloc ?_ (by simp <;> omega) _)))
          clear hK K
          try simp only [Act.put, pA,pB,pC]
          refine RegP.ev1 (by (simp only [gA,gB,gC]); rfl) (fun K hK => ?_)
          refine step_append_cells (w0 := w) (W := x8.drew) B0 rfl _ _ 66 74 (.pointer none) 1 8 rfl Tryz.underlying66 infoEdge rfl (by decide) (by decide) g.ve st.edges.length _ [at0 eb] rfl rfl rfl (by intro u hu; rw [List.mem_singleton.1 hu]; rfl) hI8.out.oe (hM8.out.below.drew.mono hIH.out.base) hI8.out.base (by rw [hNEH.out]; omega) ?_
          intro v9 w9 ho hb hg ha
          obtain ⟨A9, c9, rfl⟩ := own_row ho
          have hfin := hIH.out.edgeNew hin ri mb sb eb w.heap.size q _ _ _ _ _ oo ii mm dd hM9.out hri hO18.out hO28.out hO38.out hO48.out hF0.out hF1.out (by rw [hNEH.out]; omega) ho hg ha
          obtain ⟨g', q1, q2, q3, q4, q5, q6, q7⟩ := hfin
          have hq1 := Lib.hid q1
          have hb9 := Lib.hid hb
          have hs9 := Lib.hid (hM9.out.grown hIH.out hg)
          rw [hNEH.out] at hq1 q6 q7 ⊢
          clear q1 ho hb hg ha
          refine hK.out _ _ ?_ (fun hHeld => ?_)
          · (try dsimp only); exact hs9.out
          clear hK K
          try simp only [Act.put, pA,pB,pC]
          refine RegP.pure1 (by (simp only [gA,gB,gC]); rfl) (by exact fun _ _ _ h => h) (by rfl) (by intro w'; go_simp; try with_reducible rfl) ?_
          try simp only [Act.put, pA,pB,pC]
          refine RegP.pure1 (by (simp only [gA,gB,gC]); rfl) (by exact fun _ _ _ h => h) (by rfl) (by intro w'; go_simp; try with_reducible rfl) ?_
          try simp only [Act.put, pA,pB,pC]
          refine RegP.last1 (by (simp only [gA,gB,gC]); rfl) (fun K hK => ?_)
          go_simp
          refine hK.out _ _ ?_
          clear hK K
          try simp only [Act.put, pA,pB,pC]
          refine RegP.done1 ?_
          try dsimp only
          go_wp2_with fail
          go_end0
          exact Steps.fin hR.out hq1.out q2 (by omega) ((hb9.out.setCell hg0 _).setCell hg0 _)
end Go.Proofs.YtbjekebkgidhaaaGreatDoor.Mf
end
section
set_option linter.unusedSimpArgs false
set_option linter.unusedVariables false
namespace Go.Proofs.YtbjekebkgidhaaaGreatDoor.Mf
open Go.RowKit Go.Lib Go.Shelf Go.Maps Go.Proofs.YtbjekebkgidhaaaGreatDoorW.PrintWords Go.Proofs.YtbjekebkgidhaaaGreatDoor.U Go.Proofs.YtbjekebkgidhaaaGreatDoor.Sc Go.Proofs.YtbjekebkgidhaaaGreatDoor.P Go.Proofs.YtbjekebkgidhaaaGreatDoor.MapV
theorem expE_len {line : Nat} {ms : List MapL} {t x : Txt} (h : expE line ms t = .ok x) : x.length ≤ 16384 := by
  unfold expE at h
  split at h
  · injection h with h; rw [← h]; exact expF_len _ _
  · cases h
section
variable {B0 : Nat} {w w' : World} {g : Mem} {st : St}
theorem Inv.expanded (h : Inv B0 w g st) (text : Txt) (hl : text.length ≤ 1000000) :
    Calls Tryz.prog 47 #[at0 g.r, at0 g.fb, .string (B text)] w (Gives (expE g.line [st.file] text) (fun x => .string (B x)) w) :=
  expanded_any g.r g.line [⟨g.fb, g.fm, g.n, st.file⟩] (at0 g.fb) text w (h.cell 4) (lt_blk h.hr) (by omega) h.getL h.fchain
theorem _root_.Go.Proofs.YtbjekebkgidhaaaGreatDoor.Sc.Stored.keep {s : Lev} {k t : Txt} (hs : Stored w w' s k t) (b : Nat) (hb : b < w.heap.size) (hne : b ≠ s.bm) : w'.heap[b]? = w.heap[b]? := by
  obtain ⟨w1, g1, g2, _⟩ := hs
  exact (g2.block b (Nat.lt_of_lt_of_le hb g1.size) (fun e => hne (by injection e))).trans (g1.block b hb)
theorem _root_.Go.Proofs.YtbjekebkgidhaaaGreatDoor.Sc.Stored.size {s : Lev} {k t : Txt} (hs : Stored w w' s k t) : w.heap.size ≤ w'.heap.size := by
  obtain ⟨w1, g1, g2, _⟩ := hs
  exact Nat.le_trans g1.size g2.size
theorem _root_.Go.Proofs.YtbjekebkgidhaaaGreatDoor.Sc.Stored.own {s : Lev} {k t : Txt} (hs : Stored w w' s k t) : OwnsM w' s.bm (s.n + 1) (upd s.m k t) := by
  obtain ⟨w1, g1, g2, h⟩ := hs
  exact h
theorem _root_.Go.Proofs.YtbjekebkgidhaaaGreatDoor.Sc.Stored.below {s : Lev} {k t : Txt} (hs : Stored w w' s k t) (hb : B0 ≤ w.heap.size) (hm : B0 ≤ s.bm) : Below B0 w w' := by
  obtain ⟨w1, g1, g2, _⟩ := hs
  exact (g1.mono hb).grown g2 (Nat.le_trans hb g1.size) (fun k hk => by injection hk with hk; subst hk; exact hm)
theorem Inv.edgeSet (h : Inv B0 w g st) (j0 : Nat) (hj0 : j0 + 1 = st.edges.length) (k t : Txt) (ht : t.length ≤ 16384)
    (hs : Stored w w' ⟨g.sb j0, g.mb j0, g.n, (st.edges[j0]'(by omega)).own⟩ k t) :
    Inv B0 w' { g with n := g.n + 1 } { st with edges := onLast (fun e => { e with own := upd e.own k t }) st.edges } := by
  have hru := h.edges j0 (by omega)
  have hlen : (onLast (fun e : EdgeS => { e with own := upd e.own k t }) st.edges).length = st.edges.length := onLast_len _ _
  have K : Grow st.rules.length st.edges.length (fun r => r = .omap j0) w w' g { g with n := g.n + 1 } := by
    refine ⟨hs.size, fun b hb hx => hs.keep b hb (fun e => hx ?_), fun _ _ => rfl, rfl, fun _ _ => ⟨rfl, rfl⟩, fun _ _ => ⟨rfl, rfl, rfl, rfl, rfl, rfl, rfl⟩, Nat.le_succ _⟩
    rw [show b = g.mb j0 from e]; exact hru.rm
  refine ⟨Nat.le_trans h.base K.size, h.new, h.rr, K.blk h.hr h.rr (by simp), h.rf, K.blk h.hf h.rf (by simp), h.rfm, (K.mapM h.mf h.rfm (by simp)).mono (Nat.le_succ _), h.sf, h.rrm, (K.mapV h.mr h.rrm (by simp)).mono (Nat.le_succ _), ?_, ?_, by rw [hlen]; exact h.ne, ?_, h.roe, K.row h.od h.rod (by simp), h.rod, h.nd, ?_⟩
  · intro i hi
    exact (h.rules i hi).grow K hi (by simp) (by simp)
  · intro j hj
    have hj' : j < st.edges.length := by rw [← hlen]; exact hj
    have hej := h.edges j hj'
    show EdgeAt B0 w' _ _ j (onLast _ st.edges)[j]
    rw [onLast_at _ _ j hj hj']
    by_cases e : j + 1 = st.edges.length
    · obtain rfl : j = j0 := by omega
      rw [if_pos e]
      exact ⟨hej.re, hej.rs, hej.rm, K.blk hej.he hej.re (by simp), K.blk hej.hs hej.rs (by simp), hs.own, hej.lt, hej.s0.grow K (by simp), hej.s1.grow K (by simp), hej.s2.grow K (by simp), hej.s3.grow K (by simp), hej.sh.upd ht, hej.f0, hej.f1⟩
    · rw [if_neg e]
      exact hej.grow K hj' (Nat.le_refl _) (by simp) (by simp; omega) (by simp)
  · show w'.ownsRow B0 _ 1 g.ve (onLast _ st.edges).length ((List.range (onLast _ st.edges).length).map _)
    rw [hlen]; exact K.row h.oe h.roe (by simp)
  · have h0 := h.inn.grow K (by simp) rfl rfl rfl
    unfold InnAt at h0 ⊢
    simp only [hlen]
    exact h0
end
set_option maxRecDepth 100000 in
set_option maxHeartbeats 8000000 in
theorem buildIn_any (B0 : Nat) (g : Mem) (st : St) (nm text : Txt) (p q : Nat) (w : World) (hI : Inv B0 w g st) (hin : st.inner = 2) (hvi : g.vi = .func (.func 76) #[] #[at0 p, at0 q])
    (hnm : nameL nm = true) (hnl : nm.length ≤ 1000000) (htl : text.length ≤ 1000000) (hgn : g.n < 1000000) :
    Calls Tryz.prog 76 #[.string (B nm), .string (B text), at0 p, at0 q] w
      (Inner B0 g st (match expE g.line [st.file] text with | .error e => .error e | .ok x => .ok { st with edges := onLast (fun e => { e with own := upd e.own nm x }) st.edges }) w) := by
  obtain ⟨RR, hRR⟩ : ∃ RR, (match expE g.line [st.file] text with | .error e => .error e | .ok x => .ok { st with edges := onLast (fun e => { e with own := upd e.own nm x }) st.edges } : Except Er St) = RR := ⟨_, rfl⟩
  rw [hRR]
  obtain ⟨hlp, hpr, hqr, hp, hq⟩ : 0 < st.edges.length ∧ g.role p = .still ∧ g.role q = .still ∧ w.heap[p]? = some (.cells #[at0 (g.eb (st.edges.length - 1))] 74 (0, 0)) ∧ w.heap[q]? = some (.cells #[at0 g.r] 62 (0, 0)) := by
    rcases hI.inn with ⟨a, _⟩ | ⟨a, _⟩ | ⟨a, b, _, p', q', c, d, e, f, k⟩
    · omega
    · omega
    · rw [hvi] at c
      injection c with c1 c2 c3
      have h1 : p = p' := by have := congrArg (fun x => x[0]?) c3; simpa [at0] using this
      have h2 : q = q' := by have := congrArg (fun x => x[1]?) c3; simpa [at0] using this
      subst h1 h2
      exact ⟨b, d, e, f, k⟩
  have hB0 := hI.base
  obtain ⟨j, hj⟩ : ∃ j, j + 1 = st.edges.length := ⟨st.edges.length - 1, by omega⟩
  have hltE : j < st.edges.length := by omega
  have hje : st.edges.length - 1 = j := by omega
  rw [hje] at hp
  have hE : EdgeAt B0 w g st.rules.length j (st.edges[j]'hltE) := hI.edges j hltE
  have hRH : Hid ((match expE g.line [st.file] text with | .error e => .error e | .ok x => .ok { st with edges := onLast (fun e => { e with own := upd e.own nm x }) st.edges } : Except Er St) = RR) := hRR
  have hS0 : Hid (∀ W, Below w.heap.size w W → W.cell? ⟨p, 0, none⟩ = some (at0 (g.eb j)) ∧ W.cell? ⟨g.eb j, 7, none⟩ = some (at0 (g.sb j)) ∧ W.cell? ⟨q, 0, none⟩ = some (at0 g.r) ∧ W.cell? ⟨g.r, 0, none⟩ = some (at0 g.fb)) := by
    intro W hb
    exact ⟨(hb.cell (p := ⟨p, 0, none⟩) (lt_blk hp)).trans ((cell_of_heap (j := 0) hp).trans rfl), (hb.cell (p := ⟨g.eb j, 7, none⟩) (lt_blk hE.he)).trans ((cell_of_heap (j := 7) hE.he).trans rfl), (hb.cell (p := ⟨q, 0, none⟩) (lt_blk hq)).trans ((cell_of_heap (j := 0) hq).trans rfl), (hI.below hb).cell 0⟩
  have hIH := Lib.hid hI
  have hJ := Lib.hid hj
  clear hj
  have hpH := Lib.hid hp
  have hqH := Lib.hid hq
  clear hp hq
  have hEH := Lib.hid hE
  have hmb := Lib.hid (hI.new (g.mb j) (by rw [hE.rm]; simp))
  have hrmb : Hid (g.r ≠ g.mb j) := by
    intro e
    have h1 := hI.rr; rw [e, hE.rm] at h1; cases h1
  clear hRR hI hvi hE hje
  go_enter Tryz.func76, Tryz.ntmps76
  go_wp2_with fail
  refine RegP.regionH (fun w' => w'.cell? ⟨p, 0, none⟩ = some (at0 (g.eb j)) ∧ w'.cell? ⟨g.eb j, 7, none⟩ = some (at0 (g.sb j)) ∧ w'.cell? ⟨q, 0, none⟩ = some (at0 g.r) ∧ w'.cell? ⟨g.r, 0, none⟩ = some (at0 g.fb)) [(1, 0), (0, 1), (0, 2), (1, 3), (0, 4), (1, 5), (1, 6), (0, 7), (0, 8), (1, 9), (0, 10), (2, 11), (2, 12)] (by kernel_rfl) (by kernel_rfl) (by rfl) (by kernel_rfl) (by exact hS0.out _ (Below.refl _ _).drew) ?_
  refine RegP.held1 (by (simp only [gA,gB,gC]); rfl) (by exact fun _ _ _ h => h) (by rfl) (by intro w' hS_; (try dsimp only at hS_); go_split_ands; go_simp; try with_reducible rfl) ?_
  try simp only [Act.put, pA,pB,pC]
  refine RegP.pure1 (by (simp only [gA,gB,gC]); rfl) (by exact fun _ _ _ h => h) (by rfl) (by intro w'; go_simp; try with_reducible rfl) ?_
  try simp only [Act.put, pA,pB,pC]
  refine RegP.pure1 (by (simp only [gA,gB,gC]); rfl) (by exact fun _ _ _ h => h) (by rfl) (by intro w'; go_simp; try with_reducible rfl) ?_
  try simp only [Act.put, pA,pB,pC]
  refine RegP.held1 (by (simp only [gA,gB,gC]); rfl) (by exact fun _ _ _ h => h) (by rfl) (by intro w' hS_; (try dsimp only at hS_); go_split_ands; go_simp; try with_reducible rfl) ?_
  try simp only [Act.put, pA,pB,pC]
  refine RegP.pure1 (by (simp only [gA,gB,gC]); rfl) (by exact fun _ _ _ h => h) (by rfl) (by intro w'; go_simp; try with_reducible rfl) ?_
  try simp only [Act.put, pA,pB,pC]
  refine RegP.held1 (by (simp only [gA,gB,gC]); rfl) (by exact fun _ _ _ h => h) (by rfl) (by intro w' hS_; (try dsimp only at hS_); go_split_ands; go_simp; try with_reducible rfl) ?_
  try simp only [Act.put, pA,pB,pC]
  refine RegP.held1 (by (simp only [gA,gB,gC]); rfl) (by exact fun _ _ _ h => h) (by rfl) (by intro w' hS_; (try dsimp only at hS_); go_split_ands; go_simp; try with_reducible rfl) ?_
  try simp only [Act.put, pA,pB,pC]
  refine RegP.pure1 (by (simp only [gA,gB,gC]); rfl) (by exact fun _ _ _ h => h) (by rfl) (by intro w'; go_simp; try with_reducible rfl) ?_
  try simp only [Act.put, pA,pB,pC]
  refine RegP.pure1 (by (simp only [gA,gB,gC]); rfl) (by exact fun _ _ _ h => h) (by rfl) (by intro w'; go_simp; try with_reducible rfl) ?_
  try simp only [Act.put, pA,pB,pC]
  refine RegP.held1 (by (simp only [gA,gB,gC]); rfl) (by exact fun _ _ _ h => h) (by rfl) (by intro w' hS_; (try dsimp only at hS_); go_split_ands; go_simp; try with_reducible rfl) ?_
  try simp only [Act.put, pA,pB,pC]
  refine RegP.pure1 (by (simp only [gA,gB,gC]); rfl) (by exact fun _ _ _ h => h) (by rfl) (by intro w'; go_simp; try with_reducible rfl) ?_
  try simp only [Act.put, pA,pB,pC]
  refine RegP.ev1 (by (simp only [gA,gB,gC]); rfl) (fun K hK => ?_)
  rcases he : expE g.line [st.file] text with ⟨l1, e1⟩ | x
  · have hR : Hid (RR = .error (l1, e1)) := by show RR = _; rw [← hRH.out]; simp only [he]
    go_simp
    have hP := (hIH.out.below ((Below.refl w.heap.size w).drew)).expanded text htl
    rw [he] at hP
    refine hP.mono ?_
    rintro e w2 ⟨rfl, hb⟩
    exact ⟨rfl, Inner.bad hR.out ((((Below.refl w.heap.size w).drew).trans hb).mono hB0)⟩
  have hR : Hid (RR = .ok { st with edges := onLast (fun e => { e with own := upd e.own nm x }) st.edges }) := by show RR = _; rw [← hRH.out]; simp only [he]
  have hxl := expE_len he
  go_simp
  have hP := (hIH.out.below ((Below.refl w.heap.size w).drew)).expanded text htl
  rw [he] at hP
  refine hP.mono ?_
  rintro e w2 ⟨rfl, hb⟩
  clear hP he hRH
  have hB2 := Lib.hid (((Below.refl w.heap.size w).drew).trans hb)
  have hI2 := Lib.hid (hIH.out.below hB2.out)
  have hE2 : Hid (EdgeAt B0 w2 g st.rules.length j (st.edges[j]'hltE)) := hI2.out.edges j hltE
  clear hb
  refine hK.out _ _ ?_ (fun hHeld => ?_)
  · (try dsimp only); exact hS0.out _ hB2.out
  clear hK K
  try simp only [Act.put, pA,pB,pC]
  refine RegP.ev1 (by (simp only [gA,gB,gC]); rfl) (fun K hK => ?_)
  go_simp
  refine (Set_ok ⟨g.sb j, g.mb j, g.n, ((st.edges[j]'hltE)).own⟩ [⟨g.fb, g.fm, g.n, st.file⟩] (at0 (g.sb j)) nm x hnm (by unfold maxLen; omega) (by unfold maxLen; omega) hgn _ ⟨rfl, _, hE2.out.hs, hE2.out.hm, hI2.out.fchain⟩).mono ?_
  rintro e w3 ⟨rfl, hst⟩
  have hfin : Hid (Inv B0 w3 { g with n := g.n + 1 } { st with edges := onLast (fun e => { e with own := upd e.own nm x }) st.edges }) := hI2.out.edgeSet j hJ.out nm x hxl hst
  have hbf : Hid (Below B0 w w3) := (hB2.out.mono hB0).trans (hst.below (Nat.le_trans hB0 hB2.out.size) hmb.out)
  have hrf : Hid (∀ b, b < w.heap.size → (∀ i, i < st.rules.length → b ≠ g.tb i) → (∀ j, j < st.edges.length → b ≠ g.mb j) → w3.heap[b]? = w.heap[b]?) := fun b hb h1 h2 => (hst.keep b (Nat.lt_of_lt_of_le hb hB2.out.size) (h2 j hltE)).trans (hB2.out.block _ hb)
  have hS3 : Hid (w3.cell? ⟨p, 0, none⟩ = some (at0 (g.eb j)) ∧ w3.cell? ⟨g.eb j, 7, none⟩ = some (at0 (g.sb j)) ∧ w3.cell? ⟨q, 0, none⟩ = some (at0 g.r) ∧ w3.cell? ⟨g.r, 0, none⟩ = some (at0 g.fb)) := by
    have hne : ∀ b, g.role b ≠ .omap j → b ≠ g.mb j := fun b hb e => hb (by rw [e]; exact hEH.out.rm)
    have h2 := hS0.out _ hB2.out
    refine ⟨(World.cell?_of_block (a := ⟨p, 0, none⟩) (hst.keep p (World.block_lt_of_cell? w2 _ h2.1) (hne p (by rw [hpr]; simp)))).trans h2.1, (World.cell?_of_block (a := ⟨g.eb j, 7, none⟩) (hst.keep _ (World.block_lt_of_cell? w2 _ h2.2.1) (hne _ (by rw [hEH.out.re]; simp)))).trans h2.2.1, (World.cell?_of_block (a := ⟨q, 0, none⟩) (hst.keep q (World.block_lt_of_cell? w2 _ h2.2.2.1) (hne q (by rw [hqr]; simp)))).trans h2.2.2.1, (World.cell?_of_block (a := ⟨g.r, 0, none⟩) (hst.keep _ (World.block_lt_of_cell? w2 _ h2.2.2.2) (hne _ (by rw [hIH.out.rr]; simp)))).trans h2.2.2.2⟩
  clear hst
  refine hK.out _ _ ?_ (fun hHeld => ?_)
  · (try dsimp only); exact hS3.out
  clear hK K
  try simp only [Act.put, pA,pB,pC]
  refine RegP.done1 ?_
  clear hHeld
  try dsimp only
  go_wp2_with fail
  go_end0
  exact Inner.fin hR.out hfin.out rfl (Nat.le_refl _) hbf.out hrf.out
end Go.Proofs.YtbjekebkgidhaaaGreatDoor.Mf
end
section
namespace Go.Proofs.YtbjekebkgidhaaaGreatDoor.P
open Go.RowKit Go.Proofs.YtbjekebkgidhaaaGreatDoorW.PrintWords Go.Proofs.YtbjekebkgidhaaaGreatDoorW.PrintLast Go.Proofs.YtbjekebkgidhaaaGreatDoorW.PrintMore
attribute [local go_sem] max2_int min2_int max_two min_two max_three min_three max_four min_four
set_option linter.unusedVariables false
set_option linter.unusedSimpArgs false
def stringslite_HasPrefix.f (a0 : ByteArray) (a1 : ByteArray) : Option (Bool) := if (a0.size : Int) ≥ (a1.size : Int) then (if 0 ≤ (a1.size : Int) then (if (a1.size : Int) ≤ (a0.size : Int) then (some ((a0.extract 0 ((a1.size : Int) : Int).toNat).toList == a1.toList)) else (none)) else (none)) else (some false)
set_option maxHeartbeats 8000000 in
set_option maxRecDepth 100000 in
theorem stringslite_HasPrefix.calls (a0 : ByteArray) (a1 : ByteArray) (r : Bool) (w : World) (h : stringslite_HasPrefix.f a0 a1 = some r) :
    Calls Tryz.prog 120 #[.string a0, .string a1] w fun e w' => e = .returned (.bool r) ∧ Drawn0 w w' := by
  have H : (if (a0.size : Int) ≥ (a1.size : Int) then (if 0 ≤ (a1.size : Int) then (if (a1.size : Int) ≤ (a0.size : Int) then (some ((a0.extract 0 ((a1.size : Int) : Int).toNat).toList == a1.toList)) else (none)) else (none)) else (some false)) = some r := h
  clear h
  by_cases c3 : (a0.size : Int) ≥ (a1.size : Int)
  · rw [if_pos c3] at H
    have c3b0 : decide ((a1.size : Int) ≤ (a0.size : Int)) = true := decide_eq_true c3
    have c3b1 : decide (a1.size ≤ a0.size) = true := decide_eq_true (Int.ofNat_le.mp c3)
    clear c3
    by_cases c4 : 0 ≤ (a1.size : Int)
    · rw [if_pos c4] at H
      have c4b0 := eq_true c4
      have c4b1 : decide (0 ≤ (a1.size : Int)) = true := decide_eq_true c4
      clear c4
      by_cases c5 : (a1.size : Int) ≤ (a0.size : Int)
      · rw [if_pos c5] at H
        have c5b0 := eq_true c5
        have c5b1 : decide ((a1.size : Int) ≤ (a0.size : Int)) = true := decide_eq_true c5
        clear c5
        obtain rfl := Option.some.inj H
        go_enter Tryz.func120, Tryz.ntmps120
        go_wp2
        go_ret
        exact ⟨by first | rfl | (simp; done) | (simp [*]; done), by repeat (first | exact Drawn0.refl _ | apply Drawn0.step)⟩
      · rw [if_neg c5] at H
        exact absurd H (by simp)
    · rw [if_neg c4] at H
      exact absurd H (by simp)
  · rw [if_neg c3] at H
    have c3b0 : decide ((a1.size : Int) ≤ (a0.size : Int)) = false := decide_eq_false c3
    have c3b1 : decide (a1.size ≤ a0.size) = false := decide_eq_false (fun h => c3 (Int.ofNat_le.mpr h))
    clear c3
    obtain rfl := Option.some.inj H
    go_enter Tryz.func120, Tryz.ntmps120
    go_wp2
    go_ret
    exact ⟨by first | rfl | (simp; done) | (simp [*]; done), by repeat (first | exact Drawn0.refl _ | apply Drawn0.step)⟩
end Go.Proofs.YtbjekebkgidhaaaGreatDoor.P
end
section
namespace Go.Proofs.YtbjekebkgidhaaaGreatDoor.P
open Go.RowKit Go.Proofs.YtbjekebkgidhaaaGreatDoorW.PrintWords Go.Proofs.YtbjekebkgidhaaaGreatDoorW.PrintLast Go.Proofs.YtbjekebkgidhaaaGreatDoorW.PrintMore
attribute [local go_sem] max2_int min2_int max_two min_two max_three min_three max_four min_four
set_option linter.unusedVariables false
set_option linter.unusedSimpArgs false
def strings_HasPrefix.f (a0 : ByteArray) (a1 : ByteArray) : Option (Bool) := (stringslite_HasPrefix.f a0 a1).bind fun t144 => (some t144)
set_option maxHeartbeats 8000000 in
set_option maxRecDepth 100000 in
theorem strings_HasPrefix.calls (a0 : ByteArray) (a1 : ByteArray) (r : Bool) (w : World) (h : strings_HasPrefix.f a0 a1 = some r) :
    Calls Tryz.prog 99 #[.string a0, .string a1] w fun e w' => e = .returned (.bool r) ∧ Drawn0 w w' := by
  have H : ((stringslite_HasPrefix.f a0 a1).bind fun t144 => (some t144)) = some r := h
  clear h
  replace H := Option.bind_eq_some_iff.mp H
  obtain ⟨t144, A30, H⟩ := H
  replace H : (some t144) = some r := H
  have A3 := Aside0.mk A30
  clear A30
  obtain rfl := Option.some.inj H
  go_enter Tryz.func99, Tryz.ntmps99
  go_wp2_with (first | ((with_reducible refine gate_callee (f := 120) rfl ?_); refine goesL_ (some 7) rfl rfl Tryz.func120 (by kernel_rfl) rfl #[.string a0, .string a1] rfl (by (try simp only [List.map_toArray, List.map_cons, List.map_nil]); first | done | rfl | (simp only [List.length_drop, List.length_take]; rfl)) ?_; (with_reducible refine (stringslite_HasPrefix.calls a0 a1 t144 _ A3.out).mono ?_); rintro e w' ⟨rfl, ⟨nd, rfl⟩⟩; refine ⟨_, rfl, ?_⟩))
  go_ret
  exact ⟨by first | rfl | (simp; done) | (simp [*]; done), by repeat (first | exact Drawn0.refl _ | apply Drawn0.step)⟩
end Go.Proofs.YtbjekebkgidhaaaGreatDoor.P
end
section
namespace Go.Proofs.YtbjekebkgidhaaaGreatDoor.P
open Go.RowKit Go.Proofs.YtbjekebkgidhaaaGreatDoorW.PrintWords Go.Proofs.YtbjekebkgidhaaaGreatDoorW.PrintLast Go.Proofs.YtbjekebkgidhaaaGreatDoorW.PrintMore
attribute [local go_sem] max2_int min2_int max_two min_two max_three min_three max_four min_four
set_option linter.unusedVariables false
set_option linter.unusedSimpArgs false
def lex_sign.l0 : Nat → ByteArray → List ByteArray → Int → Int → Option (ByteArray)
  | 0, _, _, _, _ => none
  | k + 1, x0, x5, x6, x7 => if x7 < x6 then (if 0 ≤ x7 then (if x7 < (x5.length : Int) then ((strings_HasPrefix.f x0 (rdOf ByteArray.empty x5 x7)).bind fun t175 => (if t175 = true then (some (rdOf ByteArray.empty x5 x7)) else (lex_sign.l0 k x0 x5 x6 (wrap64 (x7 + 1))))) else (none)) else (none)) else (some (⟨#[]⟩ : ByteArray))
def lex_sign.f (k : Nat) (a0 : ByteArray) : Option (ByteArray) := (some (([(⟨#[124, 124]⟩ : ByteArray), (⟨#[124]⟩ : ByteArray), (⟨#[58]⟩ : ByteArray)] : List ByteArray) : List ByteArray)).bind fun y171 => (lex_sign.l0 k a0 y171 (y171.length : Int) 0)
theorem lex_sign.mono_l : ∀ k, (∀ y0 y1 y2 y3, LeO (lex_sign.l0 k y0 y1 y2 y3) (lex_sign.l0 (k + 1) y0 y1 y2 y3))
  | 0 => fun _ _ _ _ r h => by simp [lex_sign.l0] at h
  | k + 1 => by
    have ih0 := lex_sign.mono_l k
    · intro y0 y1 y2 y3
      unfold lex_sign.l0
      repeat' first
      | (with_reducible exact ih0 _ _ _ _)
      | (with_reducible exact LeO.refl _)
      | (with_reducible exact LeO.none _)
      | (with_reducible refine LeO.ite ?_ ?_)
      | (with_reducible refine LeO.bind ?_ (fun _ => ?_))
      | exact ih0 _ _ _ _
      | exact LeO.none _
      | refine LeO.ite ?_ ?_
      | refine LeO.bind ?_ (fun _ => ?_)
theorem lex_sign.mono : ∀ a0 k, LeO (lex_sign.f k a0) (lex_sign.f (k + 1) a0) := by
  intro a0 k
  have ih0 := lex_sign.mono_l k
  unfold lex_sign.f
  repeat' first
      | (with_reducible exact ih0 _ _ _ _)
      | (with_reducible exact LeO.refl _)
      | (with_reducible exact LeO.none _)
      | (with_reducible refine LeO.ite ?_ ?_)
      | (with_reducible refine LeO.bind ?_ (fun _ => ?_))
      | exact ih0 _ _ _ _
      | exact LeO.none _
      | refine LeO.ite ?_ ?_
      | refine LeO.bind ?_ (fun _ => ?_)
set_option maxHeartbeats 8000000 in
set_option maxRecDepth 100000 in
theorem lex_sign.calls (k : Nat) (a0 : ByteArray) (r : ByteArray) (w : World) (h : lex_sign.f k a0 = some r) :
    Calls Tryz.prog 71 #[.string a0] w fun e w' => e = .returned (.string r) ∧ Below w.heap.size w w' := by
  have HB := Aside0.mk (Below.refl w.heap.size w)
  have H : ((some (([(⟨#[124, 124]⟩ : ByteArray), (⟨#[124]⟩ : ByteArray), (⟨#[58]⟩ : ByteArray)] : List ByteArray) : List ByteArray)).bind fun y171 => (lex_sign.l0 k a0 y171 (y171.length : Int) 0)) = some r := h
  clear h
  obtain ⟨y171, hy171⟩ : ∃ y_ : List ByteArray, y_ = (([(⟨#[124, 124]⟩ : ByteArray), (⟨#[124]⟩ : ByteArray), (⟨#[58]⟩ : ByteArray)] : List ByteArray)) := ⟨_, rfl⟩
  replace H : (lex_sign.l0 k a0 y171 (y171.length : Int) 0) = some r := by first | (rw [hy171]; with_reducible exact H) | (have H2_ := (Option.bind_some _ _).symm.trans H; rw [hy171]; with_reducible exact H2_) | (have H2_ := (Option.bind_some _ _).symm.trans H; with_reducible exact H2_) | with_reducible exact H | (rw [hy171]; exact H) | exact H
  have Ny171 := Aside0.mk hy171
  clear hy171
  have H' := Aside0.mk H
  clear H
  go_enter Tryz.func71, Tryz.ntmps71
  go_wp2_with (first | ((with_reducible refine gate_dst (N := 5) rfl ?_); refine Kd.R_lit Kd.string _ 9 ?hg (N := 5) ?hd (xs := ([(⟨#[124, 124]⟩ : ByteArray), (⟨#[124]⟩ : ByteArray), (⟨#[58]⟩ : ByteArray)] : List ByteArray)) (inner := [.string (⟨#[124, 124]⟩ : ByteArray), .string (⟨#[124]⟩ : ByteArray), .string (⟨#[58]⟩ : ByteArray)]) (ok := fun _ => True) (okp := fun _ => True) ?hr ?hp (fun _ hk => hk) trivial (Below.refl _ _) (Nat.le_refl _) (by simp) ?_; (case hd => rfl); (case hg => rfl); (case hr => first | (go_simp; done) | (go_simp; rfl)); (case hp => exact (Reps.one (show Kd.M Kd.string _ _ _ (⟨#[124, 124]⟩ : ByteArray) [.string (⟨#[124, 124]⟩ : ByteArray)] from rfl) (Reps.one (show Kd.M Kd.string _ _ _ (⟨#[124]⟩ : ByteArray) [.string (⟨#[124]⟩ : ByteArray)] from rfl) (Reps.one (show Kd.M Kd.string _ _ _ (⟨#[58]⟩ : ByteArray) [.string (⟨#[58]⟩ : ByteArray)] from rfl) (Reps.none _ _))))); intro v172 w2 ho3 hb hg_ hnew_; clear hg_ hnew_; (first | rw [← Ny171.out] at ho3 | (simp only [Int.reduceToNat] at ho3; rw [← Ny171.out] at ho3)); have n0_ := Aside0.mk (Kd.R_lower ho3 (below_size (by repeat (first | (with_reducible first | exact HB.out | apply below_alloc | apply pw_below_drewN | apply below_drew1) | exact HB.out)))); have n1_ := Aside0.mk (below_step (by repeat (first | (with_reducible first | exact HB.out | apply below_alloc | apply pw_below_drewN | apply below_drew1) | exact HB.out)) hb); clear HB; have HO173 := n0_; have HB := n1_; clear n0_ n1_; clear hb ho3; obtain ⟨Ao4, co4, eo4⟩ := Kd.R_slice HO173.out; subst eo4))
  go_loopg [7] k (fun kq v7 w' => ∃ (x7_1 : Int), v7 = .int .i64 x7_1 ∧ Aside0 (lex_sign.l0 kq a0 y171 (y171.length : Int) x7_1 = some r) ∧ Aside0 (kq ≤ k) ∧ Aside0 (Kd.R Kd.string 9 w' w.heap.size (fun _ => True) (.slice Ao4 y171.length co4) y171) ∧ Aside0 (Below w.heap.size w w'))
  case atStart => exact ⟨(0), (by first | rfl | (simp; done) | (simp [*]; done)), H', ⟨Nat.le_refl _⟩, ⟨by (with_reducible repeat (first | apply Kd.R_alloc | apply Kd.R_drewN | apply Kd.R_drew)); exact HO173.out⟩, ⟨by repeat (first | (with_reducible first | exact HB.out | apply below_alloc | apply pw_below_drewN | apply below_drew1) | exact HB.out)⟩⟩
  case round =>
    clear H'
    try clear p2
    obtain ⟨x7_1, rfl, HA, HK1, HO_5, HB⟩ := hrel
    cases gk with
    | zero => exact absurd HA.out (by simp [lex_sign.l0])
    | succ k1 =>
      have H := HA.out
      clear HA
      simp only [lex_sign.l0] at H
      by_cases c5 : x7_1 < (y171.length : Int)
      · rw [if_pos c5] at H
        have c5b0 : decide (x7_1 < (y171.length : Int)) = true := decide_eq_true c5
        clear c5
        by_cases c6 : 0 ≤ x7_1
        · rw [if_pos c6] at H
          have c6b0 : decide (0 ≤ x7_1) = true := decide_eq_true c6
          clear c6
          by_cases c7 : x7_1 < (y171.length : Int)
          · rw [if_pos c7] at H
            have c7b0 : decide (x7_1 < (y171.length : Int)) = true := decide_eq_true c7
            clear c7
            replace H := Option.bind_eq_some_iff.mp H
            obtain ⟨t175, A80, H⟩ := H
            replace H : (if t175 = true then (some (rdOf ByteArray.empty y171 x7_1)) else (lex_sign.l0 k1 a0 y171 (y171.length : Int) (wrap64 (x7_1 + 1)))) = some r := H
            have A8 := Aside0.mk A80
            clear A80
            by_cases c9 : t175 = true
            · subst c9
              have H1 : (some (rdOf ByteArray.empty y171 x7_1)) = some r := by rw [if_pos rfl] at H; exact H
              clear H
              have H := H1
              clear H1
              obtain rfl := Option.some.inj H
              have p174 : 0 ≤ (x7_1 : Int) := of_decide_eq_true (by first | (with_reducible assumption) | assumption)
              have q174 : x7_1 < (y171.length : Int) := of_decide_eq_true (by first | (with_reducible assumption) | assumption)
              obtain ⟨ad174, e174, hx174_0⟩ := Kd.at_string (Kd.R_reads' HO_5.out).2.2 x7_1 p174 q174
              cases e174
              replace p174 := eq_true p174
              replace q174 := eq_true q174
              go_wp2_with (first | ((with_reducible refine gate_callee (f := 99) rfl ?_); refine goesL_ (some 13) rfl rfl Tryz.func99 (by kernel_rfl) rfl #[.string a0, .string (rdOf ByteArray.empty y171 x7_1)] rfl (by (try simp only [List.map_toArray, List.map_cons, List.map_nil]); first | done | rfl | (simp only [List.length_drop, List.length_take]; rfl)) ?_; (with_reducible refine (strings_HasPrefix.calls a0 (rdOf ByteArray.empty y171 x7_1) true _ A8.out).mono ?_); rintro e w' ⟨rfl, ⟨nd, rfl⟩⟩; refine ⟨_, rfl, ?_⟩))
              go_ret
              exact ⟨by first | rfl | (simp [errW_none, errW_some] <;> rfl) | (simp [*, errW_none, errW_some] <;> rfl), by repeat (first | (with_reducible first | exact HB.out | apply below_alloc | apply pw_below_drewN | apply below_drew1) | exact HB.out)⟩
            · replace c9 := Bool.eq_false_iff.mpr c9
              subst c9
              have H1 : (lex_sign.l0 k1 a0 y171 (y171.length : Int) (wrap64 (x7_1 + 1))) = some r := by rw [if_neg (show ¬ (false = true) by decide)] at H; exact H
              clear H
              have H := H1
              clear H1
              have H' := Aside0.mk H
              clear H
              have p174 : 0 ≤ (x7_1 : Int) := of_decide_eq_true (by first | (with_reducible assumption) | assumption)
              have q174 : x7_1 < (y171.length : Int) := of_decide_eq_true (by first | (with_reducible assumption) | assumption)
              obtain ⟨ad174, e174, hx174_0⟩ := Kd.at_string (Kd.R_reads' HO_5.out).2.2 x7_1 p174 q174
              cases e174
              replace p174 := eq_true p174
              replace q174 := eq_true q174
              go_wp2_with (first | ((with_reducible refine gate_callee (f := 99) rfl ?_); refine goesL_ (some 13) rfl rfl Tryz.func99 (by kernel_rfl) rfl #[.string a0, .string (rdOf ByteArray.empty y171 x7_1)] rfl (by (try simp only [List.map_toArray, List.map_cons, List.map_nil]); first | done | rfl | (simp only [List.length_drop, List.length_take]; rfl)) ?_; (with_reducible refine (strings_HasPrefix.calls a0 (rdOf ByteArray.empty y171 x7_1) false _ A8.out).mono ?_); rintro e w' ⟨rfl, ⟨nd, rfl⟩⟩; refine ⟨_, rfl, ?_⟩))
              go_roundg k1
              case measure => have := HK1.out; omega
              case rel => exact ⟨(wrap64 (x7_1 + 1)), (by first | rfl | (simp; done) | (simp [*]; done)), H', ⟨by have := HK1.out; omega⟩, ⟨by (with_reducible repeat (first | apply Kd.R_alloc | apply Kd.R_drewN | apply Kd.R_drew)); exact HO_5.out⟩, ⟨by repeat (first | (with_reducible first | exact HB.out | apply below_alloc | apply pw_below_drewN | apply below_drew1) | exact HB.out)⟩⟩
          · rw [if_neg c7] at H
            exact absurd H (by simp)
        · rw [if_neg c6] at H
          exact absurd H (by simp)
      · rw [if_neg c5] at H
        have c5b0 : decide (x7_1 < (y171.length : Int)) = false := decide_eq_false c5
        clear c5
        obtain rfl := Option.some.inj H
        go_wp2
        go_ret
        exact ⟨by first | rfl | (simp [errW_none, errW_some] <;> rfl) | (simp [*, errW_none, errW_some] <;> rfl), by repeat (first | (with_reducible first | exact HB.out | apply below_alloc | apply pw_below_drewN | apply below_drew1) | exact HB.out)⟩
end Go.Proofs.YtbjekebkgidhaaaGreatDoor.P
end
section
set_option linter.unusedSimpArgs false
set_option linter.unusedVariables false
namespace Go.Proofs.YtbjekebkgidhaaaGreatDoor.P
open Go.RowKit Go.Proofs.YtbjekebkgidhaaaGreatDoorW.PrintWords Go.Proofs.YtbjekebkgidhaaaGreatDoorW.PrintLast Go.Proofs.YtbjekebkgidhaaaGreatDoorW.PrintMore Go.Proofs.YtbjekebkgidhaaaGreatDoor.U Go.Proofs.YtbjekebkgidhaaaGreatDoor.Lex
theorem hasPrefix_B (a b : List UInt8) : strings_HasPrefix.f (B a) (B b) = some (decide (b <+: a)) := by
  unfold strings_HasPrefix.f stringslite_HasPrefix.f
  rw [size_B, size_B]
  by_cases h : b.length ≤ a.length
  · rw [if_pos (by omega), if_pos (by omega), if_pos (by omega)]
    simp only [Option.bind_some, Int.toNat_natCast, Option.some.injEq]
    rw [extract_B, toList_B, toList_B, List.drop_zero, Bool.eq_iff_iff, beq_iff_eq, decide_eq_true_iff, List.prefix_iff_eq_take]
    exact eq_comm
  · rw [if_neg (by omega)]
    simp only [Option.bind_some, Option.some.injEq]
    have : ¬ b <+: a := fun hp => h hp.length_le
    simp [this]
theorem sign_B (l : List UInt8) : lex_sign.f 4 (B l) = some (B (signL l)) := by
  have e1 : (⟨#[124, 124]⟩ : ByteArray) = B [124, 124] := rfl
  have e2 : (⟨#[124]⟩ : ByteArray) = B [124] := rfl
  have e3 : (⟨#[58]⟩ : ByteArray) = B [58] := rfl
  have e4 : (⟨#[]⟩ : ByteArray) = B [] := rfl
  have w1 : wrap64 (0 + 1) = 1 := wrap_id _ (by omega) (by omega)
  have w2 : wrap64 (1 + 1) = 2 := wrap_id _ (by omega) (by omega)
  have w3 : wrap64 (2 + 1) = 3 := wrap_id _ (by omega) (by omega)
  simp only [lex_sign.f, lex_sign.l0, e1, e2, e3, e4, Option.bind_some, List.length_cons, List.length_nil, rdOf, hasPrefix_B, w1, w2, w3]
  simp only [Int.toNat_zero, Int.toNat_one, List.getD_cons_zero, List.getD_cons_succ, show (2 : Int).toNat = 2 from rfl, hasPrefix_B, Option.bind_some]
  match l with
  | [] => simp [signL]
  | [c] => simp [signL, List.cons_prefix_cons]; by_cases h1 : c = 124
           · subst h1; simp
           · by_cases h2 : c = 58
             · subst h2; simp
             · simp [h1, h2, Ne.symm h1, Ne.symm h2, eq_comm]
  | c :: d :: r =>
    simp [signL, List.cons_prefix_cons]
    by_cases h1 : c = 124
    · subst h1
      by_cases h3 : d = 124
      · subst h3; simp
      · simp [h3, Ne.symm h3]
    · by_cases h2 : c = 58
      · subst h2; simp
      · simp [h1, h2, Ne.symm h1, Ne.symm h2]
end Go.Proofs.YtbjekebkgidhaaaGreatDoor.P
end
section
set_option linter.unusedSimpArgs false
set_option linter.unusedVariables false
namespace Go.Proofs.YtbjekebkgidhaaaGreatDoor.P
open Go.RowKit Go.Proofs.YtbjekebkgidhaaaGreatDoorW.PrintWords Go.Proofs.YtbjekebkgidhaaaGreatDoorW.PrintLast Go.Proofs.YtbjekebkgidhaaaGreatDoorW.PrintMore Go.Proofs.YtbjekebkgidhaaaGreatDoor.U Go.Proofs.YtbjekebkgidhaaaGreatDoor.Lex
structure WInv (b : Nat) (wd : List UInt8) (xs : List (List UInt8)) (w : World) : Prop where
  out : ∃ v, w.heap[b]? = some (.cells #[v] 23 (0, 0)) ∧ w.ownsRow (b + 2) 9 1 v xs.length (xs.map fun x => Value.string (B x))
  word : w.heap[b + 1]? = some (.cells #[.string (B wd)] 9 (0, 0))
theorem infoS : (Tryz.prog.info? 9).map (fun i => (i.zero, i.size, i.bytes)) = some (some (.string ⟨#[]⟩), 1, 16) := by kernel_rfl
theorem WInv.push {b : Nat} {wd : List UInt8} {xs : List (List UInt8)} {w w1 : World} {v v' : Value} (x : List UInt8) (o : Obj)
    (hv : w.heap[b]? = some (.cells #[v] 23 (0, 0))) (hown : w.ownsRow (b + 2) 9 1 v xs.length (xs.map fun x => Value.string (B x)))
    (hw : w.heap[b + 1]? = some (.cells #[.string (B wd)] 9 (0, 0)))
    (hown' : w1.ownsRow (b + 2) 9 1 v' (xs.length + 1) ((xs.map fun x => Value.string (B x)) ++ [.string (B x)])) (hg : (w.alloc o).grownBy w1 v.ownBlock) :
    w1.cell? ⟨b, 0, none⟩ = some v ∧ w1.frozen? ⟨b, 0, none⟩ = false ∧ (∃ g c, v' = .slice (some ⟨g, 0, none⟩) (xs.length + 1) c) ∧ Below b w w1 ∧ WInv b wd (xs ++ [x]) (w1.setCell ⟨b, 0, none⟩ v') ∧ Below b w (w1.setCell ⟨b, 0, none⟩ v') := by
  have hlt := lt_of_block hw
  have hne : ∀ k, k < b + 2 → some k ≠ v.ownBlock := fun k hk e => by
    have := own_base hown k e.symm; omega
  have keep : ∀ k, k < b + 2 → w1.heap[k]? = w.heap[k]? := fun k hk => (hg.block k (by simp; omega) (hne k hk)).trans (Below.heap_alloc _ _ _ (by omega))
  have hv1 := (keep b (by omega)).trans hv
  have hw1 := (keep (b + 1) (by omega)).trans hw
  have hb : Below b w w1 := ((Below.refl b w).alloc (by omega) o).grown hg (by simp; omega) (fun k hk => by have := own_base hown k hk; omega)
  refine ⟨cell_of_one hv1, free_of_one hv1, ?_, hb, ⟨⟨v', one_setCell hv1, ?_⟩, ?_⟩, hb.setCell (Nat.le_refl _) _⟩
  · rcases hown'.2 with ⟨_, h0⟩ | ⟨g, cap, _, h, _⟩
    · omega
    · exact ⟨g, cap, h⟩
  · have := ownsRow_setCell_below hown' (a := ⟨b, 0, none⟩) (by show b < b + 2; omega) v'
    simpa using this
  · exact (Below.heap_setCell _ _ _ _ (by show b + 1 ≠ b; omega)).trans hw1
theorem grown_undrew {w w1 : World} {r : Option Nat} (h : w.drew.grownBy w1 r) : w.grownBy w1 r := ⟨h.os, h.tape, h.output, h.size, h.block⟩
theorem WInv.word_set {b : Nat} {wd : List UInt8} {xs : List (List UInt8)} {w : World} (h : WInv b wd xs w) (y : List UInt8) :
    WInv b y xs (w.setCell ⟨b + 1, 0, none⟩ (.string (B y))) := by
  obtain ⟨⟨v, hv, hown⟩, hw⟩ := h
  exact ⟨⟨v, (Below.heap_setCell _ _ _ _ (by show b ≠ b + 1; omega)).trans hv, ownsRow_setCell_below hown (a := ⟨b + 1, 0, none⟩) (by show b + 1 < b + 2; omega) _⟩, one_setCell hw⟩
theorem WInv.drawn {b : Nat} {wd : List UInt8} {xs : List (List UInt8)} {w : World} (h : WInv b wd xs w) : WInv b wd xs w.drew := ⟨h.out, h.word⟩
theorem WInv.alloc {b : Nat} {wd : List UInt8} {xs : List (List UInt8)} {w : World} (h : WInv b wd xs w) (o : Obj) : WInv b wd xs (w.alloc o) := by
  obtain ⟨⟨v, hv, hown⟩, hw⟩ := h
  exact ⟨⟨v, (Below.heap_alloc _ _ _ (lt_of_block hv)).trans hv, hown.alloc _⟩, (Below.heap_alloc _ _ _ (lt_of_block hw)).trans hw⟩
theorem WInv.below {b : Nat} {wd : List UInt8} {xs : List (List UInt8)} {w w1 : World} (h : WInv b wd xs w) (hb : Below w.heap.size w w1) : WInv b wd xs w1 := by
  obtain ⟨⟨v, hv, hown⟩, hw⟩ := h
  exact ⟨⟨v, (hb.block _ (lt_of_block hv)).trans hv, pw_own_below hown hb⟩, (hb.block _ (lt_of_block hw)).trans hw⟩
theorem WInv.lt {b : Nat} {wd : List UInt8} {xs : List (List UInt8)} {w : World} (h : WInv b wd xs w) : b + 2 ≤ w.heap.size := lt_of_block h.word
set_option maxRecDepth 100000 in
set_option maxHeartbeats 1000000 in
theorem end_any (b : Nat) (wd : List UInt8) (xs : List (List UInt8)) (w : World) (h : WInv b wd xs w) (hn : xs.length < 1000000000) :
    Calls Tryz.prog 70 #[.pointer (some ⟨b + 1, 0, none⟩), .pointer (some ⟨b, 0, none⟩)] w fun e w' => e = .returned (.tuple #[]) ∧ WInv b [] (xs ++ flushL wd) w' ∧ Below b w w' := by
  have h0 := Lib.hid h
  have hlt := h.lt
  obtain ⟨⟨v, hv, hown⟩, hw⟩ := h
  obtain ⟨i0, hi, hz0, hz1, hz2⟩ := info_parts infoS
  have cO := cell_of_one hv
  have fO := free_of_one hv
  have cW := cell_of_one hw
  have fW := free_of_one hw
  by_cases hwd : wd = []
  · subst hwd
    go_enter Tryz.func70, Tryz.ntmps70
    go_wp2
    go_end0
    refine ⟨rfl, ?_, (Below.refl _ _).setCell (Nat.le_succ _) _⟩
    simpa [flushL] using h0.out.word_set []
  · have hem : wd.isEmpty = false := by simpa using hwd
    go_enter Tryz.func70, Tryz.ntmps70
    go_wp2_with (at_builtin; refine wpList_append_own _ rfl _ _ 23 rfl (b + 2) 9 i0 (.string ⟨#[]⟩) 1 16 Tryz.underlying23 hi hz0 hz1 hz2 rfl (by decide) _ _ _ rfl (hown.alloc _) ⟨w.heap.size, 0, none⟩ 1 1 [.string (B wd)] rfl rfl (cell_one_new _ _ _) (by simp [Value.oneCell']) (by unfold maxLen; omega) (by omega) (by simp; omega) ?_)
    intro v' w1 hown' hg _
    obtain ⟨c1, f1, ⟨g, c, rfl⟩, hb1, hinv, hb2⟩ := WInv.push wd _ hv hown hw hown' hg
    have c2 : (w1.setCell ⟨b, 0, none⟩ (.slice (some ⟨g, 0, none⟩) (xs.length + 1) c)).cell? ⟨b + 1, 0, none⟩ = some (.string (B wd)) := cell_of_one hinv.word
    have f2 : (w1.setCell ⟨b, 0, none⟩ (.slice (some ⟨g, 0, none⟩) (xs.length + 1) c)).frozen? ⟨b + 1, 0, none⟩ = false := free_of_one hinv.word
    clear hown' hg hown cO cW fO fW hv hw
    go_wp2
    go_end0
    refine ⟨rfl, ?_, hb2.setCell (Nat.le_succ _) _⟩
    rw [flushL, if_neg hwd]
    exact hinv.word_set []
def lex_Words.f (a0 : ByteArray) : Option (List ByteArray) := if a0.size ≤ 1048576 then some ((words a0.data.toList).map B) else none
set_option maxRecDepth 100000 in
set_option maxHeartbeats 4000000 in
theorem lex_Words.calls (a0 : ByteArray) (r : List ByteArray) (w : World) (h : lex_Words.f a0 = some r) :
    Calls Tryz.prog 42 #[.string a0] w fun e w' => ∃ v0_ : Value, e = .returned (v0_) ∧ Kd.R Kd.string 9 w' w.heap.size (fun _ => True) v0_ r ∧ Below w.heap.size w w' := by
  unfold lex_Words.f at h
  split at h
  case isFalse => cases h
  rename_i hsz
  obtain rfl := Option.some.inj h
  clear h
  go_enter Tryz.func42, Tryz.ntmps42
  go_wp2
  go_step3
  go_wp2
  go_step3
  go_wp2
  go_loopg [0, 6] a0.size (fun gk s0 s6 wr => ∃ (s wd : List UInt8) (xs : List (List UInt8)), s0 = .string (B s) ∧ s.length ≤ gk ∧ xs.length + s.length + wd.length ≤ 1048576 ∧
      Hid (xs ++ wordsGo s wd = words a0.data.toList) ∧ Hid (WInv w.heap.size wd xs wr) ∧ Hid (Below w.heap.size w wr))
  case atStart =>
    refine ⟨a0.data.toList, [], [], ?_, ?_, ?_, rfl, ?_, ?_⟩
    · rw [← B_of]
    · simp
    · simp; exact hsz
    · refine ⟨⟨.slice none 0 0, ?_, ?_⟩, ?_⟩
      · exact (Below.heap_alloc _ _ _ (by simp)).trans (heap_alloc_new _ _)
      · exact own_nil _ _ _ _
      · have := heap_alloc_new (w.alloc (.cells #[.slice none 0 0] 23)) (.cells #[.string (B [])] 9)
        simpa using this
    · exact ((Below.refl _ w).alloc (Nat.le_refl _) _).alloc (by simp) _
  case round =>
    obtain ⟨s, wd, xs, rfl, hk, hn, hW, hI, hB⟩ := hrel
    have cW := cell_of_one hI.out.word
    have fW := free_of_one hI.out.word
    obtain ⟨v, hv, hown⟩ := hI.out.out
    have cO := cell_of_one hv
    have fO := free_of_one hv
    have hlt := hI.out.lt
    cases s with
    | nil =>
      simp only [List.length_nil] at hn hk
      go_wp2_with (go_at_call 70; refine (end_any w.heap.size wd xs _ hI.out (by omega)).mono ?_; rintro e w2 ⟨rfl, hI2, hB2⟩; obtain ⟨v2, hv2, hown2⟩ := hI2.out; have cO2 := cell_of_one hv2)
      rw [Exit.noGoto_ret]
      go_ret
      rename_i hv2 hown2 cO2
      refine ⟨v2, rfl, ?_, ?_⟩
      · have hfin : (words a0.data.toList).map B = (xs ++ flushL wd).map B := by rw [← hW.out, wordsGo]
        rw [hfin]
        refine Kd.R_lower (Kd.R_of_own (enc := Value.string) (by simpa [encs, Function.comp_def] using hown2) (fun _ _ => trivial)) (Nat.le_add_right _ 2)
      · exact hB.out.trans ‹_›
    | cons c s =>
      simp only [List.length_cons] at hn hk
      cases gk with
      | zero => omega
      | succ gk =>
      have h0 : ∀ h : 0 < (B (c :: s)).size, (((B (c :: s))[0]'h).toNat : Int) = (c.toNat : Int) := fun h => rfl
      have hsB : (B (c :: s)).size = s.length + 1 := by rw [size_B]; rfl
      have hcr := c.toNat_lt
      by_cases hA : c = 36 ∧ s ≠ []
      · obtain ⟨rfl, hs⟩ := hA
        obtain ⟨d, s, rfl⟩ : ∃ d s', s = d :: s' := by cases s with | nil => exact absurd rfl hs | cons d s => exact ⟨d, s, rfl⟩
        simp only [List.length_cons] at hn hk hsB
        have e1 : (B (36 :: d :: s)).extract 2 (s.length + 1 + 1) = B s := by rw [extract_B]; simp
        have e2 : B wd ++ (B (36 :: d :: s)).extract 0 2 = B (wd ++ [36, d]) := by rw [extract_B, B_append]; simp
        have E1 := Lib.hid e1
        have E2 := Lib.hid e2
        clear e1 e2
        go_wp2_with fail
        go_region
        all_goals go_wp2
        all_goals go_roundg gk
        case measure => omega
        case rel =>
          rw [E1.out, E2.out]
          refine ⟨s, wd ++ [36, d], xs, rfl, by omega, by simp; omega, ?_, (hI.out.word_set _).drawn, ?_⟩
          · have := hW.out; rw [go_pair] at this; exact this
          · exact (hB.out.setCell (Nat.le_succ _) _).drew
      · have HSG := Lib.hid (sign_B (c :: s))
        by_cases hne : signL (c :: s) = []
        · have hno := sign_none c s hne
          rw [hne] at HSG
          have h36 : c ≠ 36 ∨ s = [] := by
            by_cases h1 : c = 36
            · exact .inr (Classical.byContradiction fun h2 => hA ⟨h1, h2⟩)
            · exact .inl h1
          clear hA hne
          by_cases h32 : c = 32
          · subst h32
            go_wp2_with fail
            refine (lex_sign.calls 4 _ _ _ HSG.out).mono ?_
            rintro e w2 ⟨rfl, hB2⟩
            have hI2 := Lib.hid (hI.out.below hB2)
            clear cW fW cO fO hv hown
            go_wp2_with fail
            refine (end_any w.heap.size wd xs _ hI2.out (by omega)).mono ?_
            rintro e w3 ⟨rfl, hI3, hB3⟩
            have HI3 := Lib.hid hI3
            clear hI3
            have e1 : (B (32 :: s)).extract 1 (s.length + 1) = B s := by rw [extract_B]; simp
            have E1 := Lib.hid e1
            clear e1
            go_wp2
            all_goals go_roundg gk
            case measure => omega
            case rel =>
              rw [E1.out]
              refine ⟨s, [], xs ++ flushL wd, rfl, by omega, by have := flush_len wd; simp; omega, ?_, HI3.out, (hB.out.trans (hB2.mono (by omega))).trans hB3⟩
              have := hW.out; rw [go_blank] at this; rw [List.append_assoc]; exact this
          · have q32 : ((c.toNat : Int) == 32) = false := by
              rw [beq_eq_false_iff_ne]; intro e; exact h32 ((toNat_eq c 32 (by omega)).1 e)
            have e1 : (B (c :: s)).extract 1 (s.length + 1) = B s := by rw [extract_B]; simp
            have e2 : B wd ++ (B (c :: s)).extract 0 1 = B (wd ++ [c]) := by rw [extract_B, B_append]; simp
            have E1 := Lib.hid e1
            have E2 := Lib.hid e2
            have hgo := Lib.hid (go_plain c s wd h36 hno.1 hno.2 h32)
            clear e1 e2 h32 hno
            have q36 : (((c.toNat : Int) == 36) = false) ∨ (c = 36 ∧ s = []) := by
              by_cases h1 : c = 36
              · rcases h36 with h | h
                · exact absurd h1 h
                · exact .inr ⟨h1, h⟩
              · exact .inl (by rw [beq_eq_false_iff_ne]; intro e; exact h1 ((toNat_eq c 36 (by omega)).1 e))
            clear h36
            rcases q36 with q36 | ⟨rfl, rfl⟩
            all_goals
              go_wp2_with fail
              refine (lex_sign.calls 4 _ _ _ HSG.out).mono ?_
              rintro e w2 ⟨rfl, hB2⟩
              have hI2 := Lib.hid (hI.out.below hB2)
              have cW2 := cell_of_one hI2.out.word
              have fW2 := free_of_one hI2.out.word
              clear cW fW cO fO hv hown
              go_wp2_with fail
              go_region
              all_goals go_wp2
              all_goals go_roundg gk
              case measure => omega
              case rel =>
                rw [E2.out]
                first
                  | rw [E1.out]
                  | rw [show ByteArray.empty = B [] from rfl]
                refine ⟨_, wd ++ [_], xs, rfl, by simp at hk ⊢; try omega, by simp at hn ⊢; omega, ?_, (hI2.out.word_set _).drawn, ?_⟩
                · have := hW.out; rw [hgo.out] at this; exact this
                · exact ((hB.out.trans (hB2.mono (by omega))).setCell (Nat.le_succ _) _).drew
        · obtain ⟨rest, hcs, hgo, h36⟩ := sign_step c s wd hne
          obtain ⟨sg, hsg⟩ : ∃ sg, sg = signL (c :: s) := ⟨_, rfl⟩
          rw [← hsg] at HSG hne hcs hgo
          have q36 : ((c.toNat : Int) == 36) = false := by
            rw [beq_eq_false_iff_ne]; intro e; exact h36 ((toNat_eq c 36 (by omega)).1 e)
          have hsge : sg.isEmpty = false := by simpa using hne
          have hlen : sg.length + rest.length = s.length + 1 := by have := congrArg List.length hcs; simp at this; omega
          have hpos : 0 < sg.length := List.length_pos_iff.2 hne
          have e1 : (B (c :: s)).extract sg.length (s.length + 1) = B rest := by rw [extract_B, hcs, List.take_of_length_le (by simp; omega)]; simp
          have E1 := Lib.hid e1
          have HGO := Lib.hid hgo
          have hl1 : (sg.length : Int) ≤ (s.length : Int) + 1 := by omega
          have HLEN := Lib.hid hlen
          clear e1 hgo hcs hsg hA hne h36 hlen
          go_wp2_with fail
          refine (lex_sign.calls 4 _ _ _ HSG.out).mono ?_
          rintro e w2 ⟨rfl, hB2⟩
          have hI2 := Lib.hid (hI.out.below hB2)
          clear cW fW cO fO hv hown
          go_wp2_with fail
          refine (end_any w.heap.size wd xs _ hI2.out (by omega)).mono ?_
          rintro e w3 ⟨rfl, hI3, hB3⟩
          have HI3 := Lib.hid hI3
          obtain ⟨v3, hv3, hown3⟩ := hI3.out
          have cO3 := cell_of_one hv3
          have fO3 := free_of_one hv3
          have hlt3 := hI3.lt
          have hfl := flush_len wd
          have hn3 : (xs ++ flushL wd).length ≤ 1048576 := by simp; omega
          clear hI3
          obtain ⟨i0, hi, hz0, hz1, hz2⟩ := info_parts infoS
          have cO3a : (w3.alloc (.cells #[.string (B sg)] 9)).cell? ⟨w.heap.size, 0, none⟩ = some v3 := cell_of_one ((Below.heap_alloc _ _ _ (lt_of_block hv3)).trans hv3)
          go_wp2_with fail
          go_region_law (refine step_append_lies _ (by rfl) _ _ _ (by rfl) (w.heap.size + 2) 9 i0 _ 1 16 Tryz.underlying23 hi hz0 hz1 hz2 rfl (by omega) v3 (xs ++ flushL wd).length ((xs ++ flushL wd).map fun x => Value.string (B x)) (by rfl) ((hown3.alloc _).drew) ⟨w3.heap.size, 0, none⟩ 1 1 [.string (B sg)] (by rfl) (by rfl) (World.news_of_block (cs := #[.string (B sg)]) (t := 9) (fr := (0, 0)) (heap_alloc_new w3 _)) (by simp [Value.oneCell']) (by omega) (by unfold maxLen; omega) (by omega) (by simp; omega) (w3.heap.size + 1) (by simp) ?_; intro gg cap w4 hown4 hgrow hat hlt4; have HP := WInv.push sg _ hv3 hown3 HI3.out.word hown4 (grown_undrew hgrow); have cO4 := HP.1; have fO4 := HP.2.1)
          all_goals go_wp2
          all_goals go_roundg gk
          case measure => omega
          case rel =>
            rw [E1.out]
            simp only [List.length_append] at HP
            have hL := HLEN.out
            refine ⟨rest, [], xs ++ flushL wd ++ [sg], rfl, by omega, by simp; omega, ?_, HP.2.2.2.2.1, ((hB.out.trans (hB2.mono (by omega))).trans hB3).trans HP.2.2.2.2.2⟩
            have := hW.out; rw [HGO.out] at this; rw [List.append_assoc, List.append_assoc]; exact this
          case measure => omega
          case rel =>
            rw [E1.out]
            simp only [List.length_append] at HP
            have hL := HLEN.out
            refine ⟨rest, [], xs ++ flushL wd ++ [sg], rfl, by omega, by simp; omega, ?_, HP.2.2.2.2.1, ((hB.out.trans (hB2.mono (by omega))).trans hB3).trans HP.2.2.2.2.2⟩
            have := hW.out; rw [HGO.out] at this; rw [List.append_assoc, List.append_assoc]; exact this
end Go.Proofs.YtbjekebkgidhaaaGreatDoor.P
end
section
set_option linter.unusedSimpArgs false
set_option linter.unusedVariables false
namespace Go.Proofs.YtbjekebkgidhaaaGreatDoor.Mf
open Go.RowKit Go.Lib Go.Shelf Go.Maps Go.Proofs.YtbjekebkgidhaaaGreatDoorW.PrintWords Go.Proofs.YtbjekebkgidhaaaGreatDoor.U Go.Proofs.YtbjekebkgidhaaaGreatDoor.Sc Go.Proofs.YtbjekebkgidhaaaGreatDoor.P Go.Proofs.YtbjekebkgidhaaaGreatDoor.MapV
def Closes (B0 : Nat) (g : Mem) (r : Except Er St) (w : World) (e : Ending) (w' : World) : Prop :=
  match r with
  | .ok st => e = .returned (.tuple #[]) ∧ (∃ g', Inv B0 w' g' st ∧ g'.r = g.r ∧ g'.n = g.n ∧ g'.line = g.line ∧ st.inner = 0) ∧ Below B0 w w' ∧ (∀ b, b ≠ g.r → w'.heap[b]? = w.heap[b]?) ∧ w.heap.size ≤ w'.heap.size
  | .error x => e = wr x.1 x.2 ∧ Below B0 w w'
theorem Closes.fin {B0 : Nat} {g g' : Mem} {r : Except Er St} {w w' : World} {st : St} (h : r = .ok st) (hi : Inv B0 w' g' st) (hr : g'.r = g.r) (hn : g'.n = g.n) (hl : g'.line = g.line) (h0 : st.inner = 0) (hb : Below B0 w w') (he : ∀ b, b ≠ g.r → w'.heap[b]? = w.heap[b]?) (hs : w.heap.size ≤ w'.heap.size) : Closes B0 g r w (.returned (.tuple #[])) w' := by
  subst h; exact ⟨rfl, ⟨g', hi, hr, hn, hl, h0⟩, hb, he, hs⟩
theorem Closes.bad {B0 : Nat} {g : Mem} {r : Except Er St} {w w' : World} {l : Nat} {c : Int} (h : r = .error (l, c)) (hb : Below B0 w w') : Closes B0 g r w (wr l c) w' := by
  subst h; exact ⟨rfl, hb⟩
set_option maxRecDepth 100000 in
set_option maxHeartbeats 4000000 in
theorem close_far (B0 : Nat) (g : Mem) (st : St) (w : World) (hI : Inv B0 w g st) :
    Calls Tryz.prog 22 #[at0 g.r] w (Closes B0 g (closeE st) w) := by
  have c6 := hI.cell 6
  have c5 : w.cell? ⟨g.r, 5, none⟩ = some g.vi := hI.cell 5
  have f5 := hI.free 5
  have f6 := hI.free 6
  have hg0 := hI.new g.r (by rw [hI.rr]; decide)
  by_cases hin : st.inner = 1
  · rcases hI.inn with ⟨a1, _⟩ | ⟨a1, a2, a3, p, q, a4, a5, a6, a7, a8⟩ | ⟨a1, _⟩
    · omega
    · have hru := hI.rules (st.rules.length - 1) (by omega)
      have hcl : closeE st = if (st.rules[st.rules.length - 1].texts kCommand).getD [] = [] then .error (st.rules[st.rules.length - 1].line, 10) else .ok { st with inner := 0 } := by
        rw [closeE, if_pos hin, last_get _ a2]
      generalize st.rules[st.rules.length - 1] = ru at *
      have d0 := (cell_of_heap (j := 0) hru.hb).trans rfl
      have d1 := (cell_of_heap (j := 1) hru.hb).trans rfl
      have hlk : (Instr.lookup 89 (.map (some (g.tb (st.rules.length - 1)))) (.string ⟨#[99, 111, 109, 109, 97, 110, 100]⟩) false).run Tryz.prog w = .ok (.string (B ((ru.texts kCommand).getD []))) w := look0 hru.ht kCommand (by decide)
      rw [show (#[at0 g.fb, Value.map (some g.rm), g.ve, g.vd, .int .i64 (g.line : Int), g.vi, g.vo][6]? : Option Value) = some g.vo from rfl, a3] at c6
      have hH := Lib.hid hI
      have hClH := Lib.hid hcl
      clear hcl hru a1 a2 a3 a4 a5 a6 a7 a8 hI hin
      generalize g.rb (st.rules.length - 1) = rbl at *
      generalize g.tb (st.rules.length - 1) = tbl at *
      by_cases he : (ru.texts kCommand).getD [] = []
      · have hC2 : Hid (closeE st = .error (ru.line, 10)) := by show _ = _; rw [hClH.out, if_pos he]
        rw [he] at hlk
        clear he hClH
        go_enter Tryz.func22, Tryz.ntmps22
        go_wp2
        exact ⟨rfl, Closes.bad hC2.out (Below.refl _ _)⟩
      · have hC2 : Hid (closeE st = .ok { st with inner := 0 }) := by show _ = _; rw [hClH.out, if_neg he]
        generalize (ru.texts kCommand).getD [] = cm at *
        have hcm : (cm == []) = false := beq_eq_false_iff_ne.2 he
        have hcm2 : cm.isEmpty = false := by cases cm with | nil => exact absurd rfl he | cons _ _ => rfl
        clear hClH
        go_enter Tryz.func22, Tryz.ntmps22
        go_wp2
        go_end0
        exact Closes.fin hC2.out hH.out.shut rfl rfl rfl rfl (below_set2 hg0) (fun b hb => by rw [Below.heap_setCell _ _ _ b hb, Below.heap_setCell _ _ _ b hb]) (by simp)
    · omega
  · have ho : g.vo = .pointer none := by
      rcases hI.inn with ⟨_, _, a3⟩ | ⟨a1, _⟩ | ⟨_, _, a3, _⟩
      · exact a3
      · exact absurd a1 hin
      · exact a3
    have hC2 : Hid (closeE st = .ok { st with inner := 0 }) := by show _ = _; rw [closeE, if_neg hin]
    rw [show (#[at0 g.fb, Value.map (some g.rm), g.ve, g.vd, .int .i64 (g.line : Int), g.vi, g.vo][6]? : Option Value) = some g.vo from rfl, ho] at c6
    have hH := Lib.hid hI
    clear ho hin hI
    go_enter Tryz.func22, Tryz.ntmps22
    go_wp2
    go_end0
    exact Closes.fin hC2.out hH.out.shut rfl rfl rfl rfl (below_set2 hg0) (fun b hb => by rw [Below.heap_setCell _ _ _ b hb, Below.heap_setCell _ _ _ b hb]) (by simp)
theorem trimB_le (l : Txt) : (trimB l 32).length ≤ l.length := by
  unfold trimB trimLeftB
  refine Nat.le_trans (List.dropWhile_sublist _).length_le ?_
  unfold trimRightB
  rw [List.length_reverse]
  have := (List.dropWhile_sublist (l := l.reverse) (· == 32)).length_le
  rw [List.length_reverse] at this
  exact this
theorem setE_ok {line : Nat} {text nm v : Txt} (h : setE line text = .ok (nm, v)) : nameL nm = true ∧ nm.length ≤ text.length ∧ v.length ≤ text.length := by
  unfold setE at h
  have hc := cutL_len 61 text
  split at h
  · rename_i hk
    injection h with h
    injection h with h1 h2
    subst h1 h2
    exact ⟨hk.2, Nat.le_trans (trimB_le _) hc.1, Nat.le_trans (List.dropWhile_sublist _).length_le hc.2⟩
  · cases h
section
variable {B0 : Nat} {w w' : World} {g : Mem} {st : St}
theorem Inv.lineSet (h : Inv B0 w g st) (n : Nat) : Inv B0 (w.setCell ⟨g.r, 4, none⟩ (.int .i64 (n : Int))) { g with line := n } st := by
  have h1 := blk_put h.hr 4 (.int .i64 (n : Int)) rfl
  refine h.reader (by simp) (fun b _ hb => Below.heap_setCell _ _ _ b hb) g.vi g.vo n st.inner h1 ?_
  have k : Grow st.rules.length st.edges.length (fun r => r = .reader) w (w.setCell ⟨g.r, 4, none⟩ (.int .i64 (n : Int))) g { g with line := n, vi := g.vi, vo := g.vo } :=
    ⟨by simp, fun b hb hx => Below.heap_setCell _ _ _ b (fun e => hx (by rw [e]; exact h.rr)), fun _ _ => rfl, rfl, fun _ _ => ⟨rfl, rfl⟩, fun _ _ => ⟨rfl, rfl, rfl, rfl, rfl, rfl, rfl⟩, Nat.le_refl _⟩
  exact h.inn.grow k (by simp) rfl rfl rfl
theorem Inv.fileSet (h : Inv B0 w g st) (k t : Txt) (ht : t.length ≤ 16384) (hs : Stored w w' ⟨g.fb, g.fm, g.n, st.file⟩ k t) :
    Inv B0 w' { g with n := g.n + 1 } { st with file := upd st.file k t } := by
  have K : Grow st.rules.length st.edges.length (fun r => r = .fmap) w w' g { g with n := g.n + 1 } := by
    refine ⟨hs.size, fun b hb hx => hs.keep b hb (fun e => hx ?_), fun _ _ => rfl, rfl, fun _ _ => ⟨rfl, rfl⟩, fun _ _ => ⟨rfl, rfl, rfl, rfl, rfl, rfl, rfl⟩, Nat.le_succ _⟩
    rw [show b = g.fm from e]; exact h.rfm
  refine ⟨Nat.le_trans h.base K.size, h.new, h.rr, K.blk h.hr h.rr (by simp), h.rf, K.blk h.hf h.rf (by simp), h.rfm, hs.own, h.sf.upd ht, h.rrm, (K.mapV h.mr h.rrm (by simp)).mono (Nat.le_succ _), ?_, ?_, h.ne, K.row h.oe h.roe (by simp), h.roe, K.row h.od h.rod (by simp), h.rod, h.nd, h.inn.grow K (by simp) rfl rfl rfl⟩
  · intro i hi
    exact (h.rules i hi).grow K hi (by simp) (by simp)
  · intro j hj
    exact (h.edges j hj).grow K hj (Nat.le_refl _) (by simp) (by simp) (by simp)
end
theorem words_C (text : Txt) (hl : text.length ≤ 1000000) (w : World) : Calls Tryz.prog 42 #[.string (B text)] w fun e w' => ∃ A c, e = .returned (.slice A (Lex.words text).length c) ∧ (Lex.words text).length ≤ c ∧ Kd.C Kd.string w' A (Lex.words text).length ((Lex.words text).map B) ∧ Below w.heap.size w w' := by
  have hf : lex_Words.f (B text) = some ((Lex.words text).map B) := by
    unfold lex_Words.f
    rw [if_pos (by rw [size_B]; omega)]
  refine (lex_Words.calls (B text) _ w hf).mono ?_
  rintro e w' ⟨v, rfl, hR, hb⟩
  obtain ⟨A, c, rfl⟩ := Kd.R_slice hR
  have h1 := Kd.R_reads' hR
  rw [List.length_map] at h1 ⊢
  exact ⟨A, c, rfl, h1.2.1, h1.2.2, hb⟩
theorem words_short (text : Txt) (h : text.length ≤ 1000000) : ∀ t ∈ Lex.words text, t.length ≤ 1000000 := by
  intro t ht
  have h1 := Lex.words_total text
  have h2 : ∀ (l : List Txt), t ∈ l → t.length ≤ Lex.total l := by
    intro l
    induction l with
    | nil => intro h; cases h
    | cons x r ih =>
      intro h
      rcases List.mem_cons.1 h with rfl | h
      · simp [Lex.total]
      · have := ih h; simp [Lex.total] at this ⊢; omega
  have := h2 _ ht; omega
theorem build_any (B0 : Nat) (g : Mem) (st : St) (A : Option Addr) (c : Nat) (ws : List Txt) (w : World) (hI : Inv B0 w g st) (hin : st.inner = 0) (hW : Kd.C Kd.string w A ws.length (ws.map B)) (hc : ws.length ≤ c) (h1 : 1 ≤ ws.length)
    (hn : ws.length ≤ 20000) (hl : ∀ t ∈ ws, t.length ≤ 1000000) (hgn : g.n < 1000000) :
    Calls Tryz.prog 44 #[at0 g.r, .slice A ws.length c] w (Steps B0 g (buildE st g.line ws) w) := by
  by_cases hm : 200 ≤ st.edges.length
  · exact build_many B0 g st _ ws w hI hm
  · exact build_few B0 g st A c ws w hI hin hW hc h1 hn hl hm hgn
theorem neq_none (w : World) : (binOp .neq 67 .nilFunc .nilFunc).run Tryz.prog w = .ok (.bool false) w := by kernel_rfl
theorem neq_some (f : Fn) (a c : Array Value) (w : World) : (binOp .neq 67 (.func f a c) .nilFunc).run Tryz.prog w = .ok (.bool true) w := by kernel_rfl
theorem neq_none2 (w : World) : (binOp .neq 96 .nilFunc .nilFunc).run Tryz.prog w = .ok (.bool false) w := by kernel_rfl
theorem neq_some2 (f : Fn) (a c : Array Value) (w : World) : (binOp .neq 96 (.func f a c) .nilFunc).run Tryz.prog w = .ok (.bool true) w := by kernel_rfl
def inR (st : St) (line : Nat) (nm v : Txt) : Except Er St :=
  if nm = kCommand ∨ nm = kDepfile ∨ nm = kDescription then .ok { st with rules := onLast (fun r => { r with texts := upd r.texts nm v }) st.rules } else .error (line, 10)
def inB (st : St) (line : Nat) (nm v : Txt) : Except Er St :=
  match expE line [st.file] v with | .error e => .error e | .ok x => .ok { st with edges := onLast (fun e => { e with own := upd e.own nm x }) st.edges }
theorem innerE_0 {st : St} {line : Nat} {text : Txt} (h : st.inner = 0) : innerE st line text = .error (line, 10) := by rw [innerE, if_pos h]
theorem innerE_bad {st : St} {line : Nat} {text : Txt} {e : Er} (h : st.inner ≠ 0) (hs : setE line text = .error e) : innerE st line text = .error e := by rw [innerE, if_neg h, hs]
theorem innerE_1 {st : St} {line : Nat} {text nm v : Txt} (h : st.inner = 1) (hs : setE line text = .ok (nm, v)) : innerE st line text = inR st line nm v := by
  rw [innerE, if_neg (by omega), hs]
  simp only [if_pos h]; rfl
theorem innerE_2 {st : St} {line : Nat} {text nm v : Txt} (h : st.inner = 2) (hs : setE line text = .ok (nm, v)) : innerE st line text = inB st line nm v := by
  rw [innerE, if_neg (by omega), hs]
  have h1 : ¬ st.inner = 1 := by omega
  simp only [if_neg h1]; rfl
theorem Inv.apart {B0 : Nat} {w : World} {g : Mem} {st : St} (h : Inv B0 w g st) (b : Nat) (hb : w.heap.size ≤ b ∨ b = g.r) : (∀ i, i < st.rules.length → b ≠ g.tb i) ∧ (∀ j, j < st.edges.length → b ≠ g.mb j) := by
  refine ⟨fun i hi e => ?_, fun j hj e => ?_⟩
  · have h1 := h.rules i hi
    rcases hb with hb | hb
    · have := h1.ht.lt; omega
    · have h2 := h.rr; rw [← hb, e, h1.rt] at h2; cases h2
  · have h1 := h.edges j hj
    rcases hb with hb | hb
    · have := h1.hm.lt; omega
    · have h2 := h.rr; rw [← hb, e, h1.rm] at h2; cases h2
end Go.Proofs.YtbjekebkgidhaaaGreatDoor.Mf
end
