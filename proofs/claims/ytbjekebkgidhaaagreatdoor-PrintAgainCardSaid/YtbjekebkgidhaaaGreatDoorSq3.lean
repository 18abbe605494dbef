/- Laid together by wip/tools/shake.py from texts of this claim: MfBackC, MfBackD, MfOk, MfExp, MapV, MfRead, P0, MfPaths, MfSet, MfCut, MfInv, MfClose, RegG, RegP, MfTargets, MfRule, MfIn, MfBuildA, RegT, MfBuildB. -/
import Derived.Test.YtbjekebkgidhaaaGreatDoorSq2
import Derived.WideKeyEntry
import Derived.WalkLawsBesides
import Derived.Test.YtbjekebkgidhaaaGreatDoorProg
import Derived.Below
import Derived.Deep.Draws
import Derived.Deep.AppendLies
import Derived.Maps.AppendAt
import Derived.OwnWalk
import Derived.Laws.BytesArg
import Derived.Laws.MakeOwn
import Derived.Laws.OwnMore
import Derived.Deep.OwnRows
import Derived.Tactics
import Derived.Lib.ConvBytes
import Derived.Laws.Slices
import Derived.WalkKit
import Derived.KernelRfl
import Derived.RowKit3
import Derived.Deep.LoopGhost
import Derived.Deep.QuietTactic
import Derived.BigQuiet
import Derived.WideLaws
import Derived.Deep.DeepCutAuto
import Derived.Deep.CutBlock
import Derived.Deep.RegionHeld3
import Derived.Laws.Rows
import Derived.Lib.AppendStr
import Derived.ArgAppend
import Derived.Laws.IdiomCopy
import Derived.OrdersHeld
import Derived.Laws.BitsLemmas
import Derived.RowKit
import Derived.Laws.EntriesVeiled
import Derived.Deep.RegionLaw
import Derived.Maps.OwnOps
section
set_option linter.unusedSimpArgs false
set_option linter.unusedVariables false
namespace Go.Proofs.YtbjekebkgidhaaaGreatDoor.Mf
open Go.RowKit Go.Lib Go.Shelf Go.Proofs.YtbjekebkgidhaaaGreatDoor.U Go.Proofs.YtbjekebkgidhaaaGreatDoor.Sc Go.Proofs.YtbjekebkgidhaaaGreatDoor.P
open Go.Proofs.YtbjekebkgidhaaaGreatDoor.Ln hiding Txt
theorem cut_none {c : UInt8} {l : Txt} (h : c ∉ l) : cutL c l = (l, [], false) := Sc.cutL_none c l h
theorem cut_at {c : UInt8} : ∀ (a b : Txt), c ∉ a → cutL c (a ++ c :: b) = (a, b, true)
  | [], b, _ => by simp [cutL]
  | x :: a, b, h => by
    have hx : x ≠ c := fun e => h (by simp [e])
    have := cut_at a b (fun hh => h (List.mem_cons_of_mem _ hh))
    rw [List.cons_append, cutL, if_neg hx, this]
theorem exp_plain {line : Nat} {ms : List MapL} {t : Txt} (h : (36 : UInt8) ∉ t) (hl : t.length ≤ 16384) : expE line ms t = .ok t := by
  have : expF ms t = (t, 0) := by
    unfold expF expandL
    rw [expGo, cut_none h, if_pos rfl]
    show finL (some ([] ++ t, false)) = _
    rw [List.nil_append, finL, if_neg (by simp; omega)]
  unfold expE
  rw [this, if_pos rfl]
theorem exp_esc {line : Nat} {ms : List MapL} {t : Txt} (hl : t.length ≤ 16384) : expE line ms (escL t) = .ok t := by
  have : expF ms (escL t) = (t, 0) := by
    unfold expF
    rw [expandL_E, E_esc _ t [] (by simpa using hl)]
    show finL (some ([] ++ t, false)) = _
    rw [List.nil_append, finL, if_neg (by simp; omega)]
  unfold expE
  rw [this, if_pos rfl]
theorem NameP.no36 {p : Txt} (h : NameP p) : (36 : UInt8) ∉ p := fun hh => (h.calm 36 hh).1 rfl
theorem path_clean {line : Nat} {p : Txt} (h : CleanN p) : pathE line none0 p = .ok p := by
  obtain ⟨s1, s2, s3⟩ := h.toNameP.not_sign
  have e1 : isSign p = false := by
    unfold isSign
    rw [beq_eq_false_iff_ne.2 s1, beq_eq_false_iff_ne.2 s2, beq_eq_false_iff_ne.2 s3]; rfl
  unfold pathE
  rw [e1, if_neg (by decide), exp_plain h.toNameP.no36 (by have := h.len; omega)]
  show cleanE line p = _
  unfold cleanE
  rw [h.clean, if_pos rfl]
theorem paths_clean {line : Nat} : ∀ (l acc : List Txt), (∀ p ∈ l, CleanN p) → pathsE line none0 acc l = .ok (acc ++ l)
  | [], acc, _ => by rw [pathsE, List.append_nil]
  | p :: l, acc, h => by
    rw [pathsE, path_clean (h p (by simp))]
    show pathsE line none0 (acc ++ [p]) l = _
    rw [paths_clean l _ (fun q hq => h q (List.mem_cons_of_mem _ hq)), List.append_assoc]; rfl
theorem ahead_at {s : Txt} : ∀ (a b : List Txt), s ∉ a → ahead s (a ++ s :: b) = a ∧ behind s (a ++ s :: b) = b
  | [], b, _ => by simp [ahead, behind, List.takeWhile_cons, List.dropWhile_cons]
  | x :: a, b, h => by
    have hx : (x == s) = false := beq_eq_false_iff_ne.2 fun e => h (by simp [e])
    obtain ⟨h1, h2⟩ := ahead_at a b (fun hh => h (List.mem_cons_of_mem _ hh))
    unfold ahead behind at *
    simp only [List.cons_append, List.takeWhile_cons, List.dropWhile_cons, hx, Bool.not_false, if_true]
    exact ⟨by rw [h1], h2⟩
theorem ahead_none {s : Txt} : ∀ (a : List Txt), s ∉ a → ahead s a = a ∧ behind s a = []
  | [], _ => ⟨rfl, rfl⟩
  | x :: a, h => by
    have hx : (x == s) = false := beq_eq_false_iff_ne.2 fun e => h (by simp [e])
    obtain ⟨h1, h2⟩ := ahead_none a (fun hh => h (List.mem_cons_of_mem _ hh))
    unfold ahead behind at *
    simp only [List.takeWhile_cons, List.dropWhile_cons, hx, Bool.not_false, if_true]
    exact ⟨by rw [h1], h2⟩
theorem ahead_opt {s : Txt} (a l : List Txt) (ha : s ∉ a) : ahead s (a ++ optW s l) = a ∧ behind s (a ++ optW s l) = l := by
  unfold optW
  split
  · rename_i h; rw [List.append_nil, h]; exact ahead_none a ha
  · exact ahead_at a l ha
theorem not_mem_names {s : Txt} {l : List Txt} (h : ∀ p ∈ l, NameP p) (hs : s = [58] ∨ s = [124] ∨ s = [124, 124]) : s ∉ l := by
  intro hm
  obtain ⟨a, b, c⟩ := (h s hm).not_sign
  rcases hs with e | e | e
  · exact a e
  · exact b e
  · exact c e
theorem not_mem_opt {s t : Txt} {l : List Txt} (h : ∀ p ∈ l, NameP p) (hs : s = [58] ∨ s = [124] ∨ s = [124, 124]) (ht : s ≠ t) : s ∉ optW t l := by
  unfold optW
  split
  · simp
  · intro hm
    rcases List.mem_cons.1 hm with e | e
    · exact ht e
    · exact not_mem_names h hs e
theorem rule_new {R : List RuleS} {i : Nat} (h : ∀ r ∈ R, ∃ q, q < i ∧ r.name = ownN q) : ruleAt R (ownN i) = none := by
  unfold ruleAt
  rw [List.findIdx?_eq_none_iff]
  intro r hr
  obtain ⟨q, hq, e⟩ := h r hr
  rw [beq_eq_false_iff_ne, e]
  intro h2
  have := ownN_inj h2
  omega
theorem rule_found {R : List RuleS} {i : Nat} (h : ∀ r ∈ R, ∃ q, q < i ∧ r.name = ownN q) {r : RuleS} (hr : r.name = ownN i) : ruleAt (R ++ [r]) (ownN i) = some R.length := by
  have := rule_new h
  unfold ruleAt at *
  rw [List.findIdx?_append, this]
  have e : (r.name == ownN i) = true := by rw [beq_iff_eq]; exact hr
  simp [List.findIdx?_cons, e]
theorem own_nameL (i : Nat) : nameL (ownN i) = true := by
  unfold nameL
  rw [Bool.and_eq_true]
  refine ⟨rfl, List.all_eq_true.2 fun b hb => ?_⟩
  rcases List.mem_cons.1 hb with rfl | hb
  · decide
  · obtain ⟨h1, h2⟩ := digits_all i b hb
    unfold nameB nameR shortR
    simp [h1, h2]
theorem close_ok {R : List RuleS} {E : List EdgeS} {ds : List Txt} {inn : Nat} (h : inn = 0 ∨ inn = 2) : closeE ⟨none0, R, E, ds, inn⟩ = .ok ⟨none0, R, E, ds, 0⟩ := by
  unfold closeE
  have hn : ¬ inn = 1 := by omega
  rw [if_neg (show ¬ (⟨none0, R, E, ds, inn⟩ : St).inner = 1 from hn)]
theorem takes_h {R : List RuleS} {E : List EdgeS} {inn i n : Nat} (h : inn = 0 ∨ inn = 2) (hR : ∀ r ∈ R, ∃ q, q < i ∧ r.name = ownN q) : takesE ⟨none0, R, E, [], inn⟩ (mkLine (hLine i) n) = .ok ⟨none0, R ++ [⟨ownN i, none0, n⟩], E, [], 1⟩ := by
  obtain ⟨a, b, e, hb⟩ := hLine_last i
  have et : trimmedL (hLine i) = hLine i := trimmed_id (b := 114) (l := [117, 108, 101] ++ joined [ownN i]) rfl (by decide) e hb.2.2.2.1
  have em : mkLine (hLine i) n = ⟨false, hLine i, n⟩ := by unfold mkLine; rw [et]; rfl
  rw [em, takesE, if_neg (fun h => Bool.noConfusion h)]
  dsimp only
  rw [leftE, close_ok h]
  dsimp only
  rw [words_h]
  dsimp only
  rw [if_pos rfl, ruleE]
  dsimp only
  rw [if_pos ⟨own_nameL i, rule_new hR⟩]
theorem onLast_snoc {α : Type} (f : α → α) : ∀ (l : List α) (x : α), onLast f (l ++ [x]) = l ++ [f x]
  | [], x => rfl
  | [y], x => rfl
  | y :: z :: l, x => by
    have := onLast_snoc f (z :: l) x
    simp only [List.cons_append] at this
    simp only [List.cons_append, onLast, this]
theorem esc_head {t : Txt} : (escL t).head? ≠ some 32 := by
  cases t with
  | nil => simp [escL]
  | cons c t =>
    rw [escL]
    split
    · simp
    · rename_i h
      intro e
      have : c = 32 := by simpa using e
      subst this
      exact h (by decide)
theorem left_esc (t : Txt) : Lib.trimLeftB (32 :: escL t) 32 = escL t := by
  show trimL 32 (32 :: escL t) = _
  rw [trimL_cons]
  cases h : escL t with
  | nil => rfl
  | cons c r =>
    refine trimL_head ?_
    rintro rfl
    exact esc_head (t := t) (by rw [h]; rfl)
theorem takes_set {R : List RuleS} {r : RuleS} {E : List EdgeS} {n : Nat} (K t : Txt) (hK : K = kCommand ∨ K = kDepfile) (ht : t ≠ []) :
    takesE ⟨none0, R ++ [r], E, [], 1⟩ (mkLine (32 :: 32 :: (K ++ ([32, 61, 32] ++ escL t))) n) = .ok ⟨none0, R ++ [{ r with texts := upd r.texts K (escL t) }], E, [], 1⟩ := by
  have hc : (61 : UInt8) ∉ K ++ [32] ∧ trimB (K ++ [32]) 32 = K ∧ nameL K = true ∧ (∃ b l, K ++ [32, 61, 32] = b :: l ∧ b ≠ 32) := by
    rcases hK with rfl | rfl
    · exact ⟨by decide, rfl, by decide, 99, _, rfl, by decide⟩
    · exact ⟨by decide, rfl, by decide, 100, _, rfl, by decide⟩
  obtain ⟨h1, h2, h3, b, l, h4, h5⟩ := hc
  have et : trimmedL (32 :: 32 :: (K ++ ([32, 61, 32] ++ escL t))) = K ++ ([32, 61, 32] ++ escL t) := by
    have := trimmed_set (pre := K ++ [32, 61, 32]) (t := t) h4 h5 (by rw [show K ++ [32, 61, 32] = (K ++ [32, 61]) ++ [32] by simp]; exact odd_last_ne (by decide)) ht
    simpa using this
  have em : mkLine (32 :: 32 :: (K ++ ([32, 61, 32] ++ escL t))) n = ⟨true, K ++ ([32, 61, 32] ++ escL t), n⟩ := by unfold mkLine; rw [et]; rfl
  have ec : cutL 61 (K ++ ([32, 61, 32] ++ escL t)) = (K ++ [32], 32 :: escL t, true) := by
    have := cut_at (c := 61) (K ++ [32]) (32 :: escL t) h1
    simpa using this
  have es : setE n (K ++ ([32, 61, 32] ++ escL t)) = .ok (K, escL t) := by
    unfold setE
    rw [ec]
    dsimp only
    rw [h2, if_pos ⟨rfl, h3⟩, left_esc]
  rw [em, takesE, if_pos rfl]
  dsimp only
  unfold innerE
  rw [if_neg (show ¬ ((1 : Nat) = 0) by decide), es]
  dsimp only
  rw [if_pos rfl, if_pos (by rcases hK with e | e; exact .inl e; exact .inr (.inl e)), onLast_snoc]
theorem takes_b {R : List RuleS} {r : RuleS} {E : List EdgeS} {i n : Nat} {x : EdgeO} (h : RightO x) (hR : ∀ r ∈ R, ∃ q, q < i ∧ r.name = ownN q) (hr : r.name = ownN i) (hc : (r.texts kCommand).getD [] ≠ []) (hE : E.length < 200) :
    takesE ⟨none0, R ++ [r], E, [], 1⟩ (mkLine (bLine i x) n) = .ok ⟨none0, R ++ [r], E ++ [⟨x.outs, x.ins, x.imp, x.ord, R.length, none0, n⟩], [], 2⟩ := by
  obtain ⟨a, b, e, hb⟩ := bLine_last i x h
  have et : trimmedL (bLine i x) = bLine i x := trimmed_id (b := 98) (l := [117, 105, 108, 100] ++ (joined x.outs ++ (58 :: 32 :: (ownN i ++ (joined x.ins ++ (optT [124] x.imp ++ optT [124, 124] x.ord)))))) rfl (by decide) e hb.2.2.2.1
  have em : mkLine (bLine i x) n = ⟨false, bLine i x, n⟩ := by unfold mkLine; rw [et]; rfl
  have ecl : closeE ⟨none0, R ++ [r], E, [], 1⟩ = .ok ⟨none0, R ++ [r], E, [], 0⟩ := by
    unfold closeE
    rw [if_pos rfl]
    dsimp only
    rw [List.getLast?_append]
    dsimp only [List.getLast?_singleton, Option.or]
    rw [if_neg hc]
  rw [em, takesE, if_neg (fun h => Bool.noConfusion h)]
  dsimp only
  rw [leftE, ecl]
  dsimp only
  rw [words_b i x h]
  dsimp only
  rw [if_neg (by decide), if_pos rfl]
  have n1 := names_of h.n1
  have n2 := names_of h.n2
  have n3 := names_of h.n3
  obtain ⟨o, os, ho⟩ := List.exists_cons_of_ne_nil h.outs
  obtain ⟨a1, a2⟩ := ahead_at (s := [58]) x.outs (ownN i :: (x.ins ++ (optW [124] x.imp ++ optW [124, 124] x.ord))) (not_mem_names (names_of h.n0) (.inl rfl))
  have hno : [124, 124] ∉ x.ins ++ optW [124] x.imp := by
    intro hm
    rcases List.mem_append.1 hm with hm | hm
    · exact not_mem_names n1 (.inr (.inr rfl)) hm
    · exact not_mem_opt n2 (.inr (.inr rfl)) (by decide) hm
  obtain ⟨b1, b2⟩ := ahead_opt (s := [124, 124]) (x.ins ++ optW [124] x.imp) x.ord hno
  rw [List.append_assoc] at b1 b2
  obtain ⟨c1, c2⟩ := ahead_opt (s := [124]) x.ins x.imp (not_mem_names n1 (.inr (.inl rfl)))
  unfold buildE
  rw [if_neg (show ¬ 200 ≤ E.length by omega)]
  dsimp only
  rw [List.tail_cons, a1, a2, ho]
  dsimp only
  rw [← ho, rule_found hR hr]
  dsimp only
  rw [paths_clean x.outs [] h.n0, b1, b2, c1, c2]
  dsimp only [List.nil_append]
  rw [paths_clean x.ins [] h.n1]
  dsimp only [List.nil_append]
  rw [paths_clean x.imp [] h.n2]
  dsimp only [List.nil_append]
  rw [paths_clean x.ord [] h.n3]
  rfl
theorem takes_d {R : List RuleS} {E : List EdgeS} {inn n : Nat} {ds : List Txt} (hi : inn = 0 ∨ inn = 2) (hne : ds ≠ []) (h : ∀ p ∈ ds, CleanN p) : takesE ⟨none0, R, E, [], inn⟩ (mkLine (kDefault ++ joined ds) n) = .ok ⟨none0, R, E, ds, 0⟩ := by
  obtain ⟨a, b, e, hb⟩ := dLine_last ds (names_of h)
  have et : trimmedL (kDefault ++ joined ds) = kDefault ++ joined ds := trimmed_id (b := 100) (l := [101, 102, 97, 117, 108, 116] ++ joined ds) rfl (by decide) e hb.2.2.2.1
  have em : mkLine (kDefault ++ joined ds) n = ⟨false, kDefault ++ joined ds, n⟩ := by unfold mkLine; rw [et]; rfl
  rw [em, takesE, if_neg (fun h => Bool.noConfusion h)]
  dsimp only
  rw [leftE, close_ok hi]
  dsimp only
  rw [words_d ds (names_of h)]
  dsimp only
  rw [if_neg (by decide), if_neg (by decide), if_pos rfl]
  obtain ⟨o, os, ho⟩ := List.exists_cons_of_ne_nil hne
  unfold targetsE
  rw [List.tail_cons, ho]
  dsimp only
  rw [← ho, paths_clean ds [] h]
  rfl
end Go.Proofs.YtbjekebkgidhaaaGreatDoor.Mf
end
section
set_option linter.unusedSimpArgs false
set_option linter.unusedVariables false
namespace Go.Proofs.YtbjekebkgidhaaaGreatDoor.Mf
open Go.RowKit Go.Lib Go.Shelf Go.Proofs.YtbjekebkgidhaaaGreatDoor.U Go.Proofs.YtbjekebkgidhaaaGreatDoor.Sc Go.Proofs.YtbjekebkgidhaaaGreatDoor.P
open Go.Proofs.YtbjekebkgidhaaaGreatDoor.Ln hiding Txt
def textsOf (x : EdgeO) : MapL := if x.depfile = [] then upd none0 kCommand (escL x.command) else upd (upd none0 kCommand (escL x.command)) kDepfile (escL x.depfile)
def Fin (R : List RuleS) (e : EdgeS) (x : EdgeO) : Prop := e.outs = x.outs ∧ e.ins = x.ins ∧ e.imp = x.imp ∧ e.ord = x.ord ∧ e.own = none0 ∧ ∃ r, R[e.rule]? = some r ∧ r.texts = textsOf x
theorem Fin.more {R R2 : List RuleS} {e : EdgeS} {x : EdgeO} (h : Fin R e x) : Fin (R ++ R2) e x := by
  obtain ⟨a, b, c, d, o, r, hr, ht⟩ := h
  exact ⟨a, b, c, d, o, r, by rw [List.getElem?_append_left (List.getElem?_eq_some_iff.1 hr).1]; exact hr, ht⟩
theorem upd_get (m : MapL) (k t : Txt) : upd m k t k = some t := by simp [upd]
theorem upd_other (m : MapL) {k j : Txt} (t : Txt) (h : j ≠ k) : upd m k t j = m j := by simp [upd, h]
theorem esc_ne {t : Txt} (h : t ≠ []) : escL t ≠ [] := by
  cases t with
  | nil => exact absurd rfl h
  | cons c t => rw [escL]; split <;> simp
theorem texts_cmd (x : EdgeO) : textsOf x kCommand = some (escL x.command) := by
  unfold textsOf
  split
  · exact upd_get _ _ _
  · rw [upd_other _ _ (by decide)]; exact upd_get _ _ _
theorem texts_dep (x : EdgeO) : (textsOf x kDepfile).getD [] = escL x.depfile := by
  unfold textsOf
  split
  · rename_i h; rw [upd_other _ _ (by decide), h]; rfl
  · rw [upd_get]; rfl
theorem lines_edge {R : List RuleS} {E : List EdgeS} {inn i L : Nat} {x : EdgeO} (h : RightO x) (hi : inn = 0 ∨ inn = 2) (hR : ∀ r ∈ R, ∃ q, q < i ∧ r.name = ownN q) (hE : E.length < 200) :
    ∃ r e, linesE ⟨none0, R, E, [], inn⟩ (numbered L (eLines i x)) = .ok ⟨none0, R ++ [r], E ++ [e], [], 2⟩ ∧ r.name = ownN i ∧ Fin (R ++ [r]) e x := by
  have hc1 : cLine x = 32 :: 32 :: (kCommand ++ ([32, 61, 32] ++ escL x.command)) := rfl
  unfold eLines dLines
  by_cases hd : x.depfile = []
  · rw [if_pos hd]
    refine ⟨⟨ownN i, upd none0 kCommand (escL x.command), L + 1⟩, ⟨x.outs, x.ins, x.imp, x.ord, R.length, none0, L + 1 + 1 + 1⟩, ?_, rfl, rfl, rfl, rfl, rfl, rfl, ⟨ownN i, upd none0 kCommand (escL x.command), L + 1⟩, ?_, ?_⟩
    · simp only [List.nil_append, numbered, linesE]
      rw [takes_h hi hR]
      dsimp only
      rw [hc1, takes_set kCommand x.command (.inl rfl) h.cne]
      dsimp only
      rw [takes_b h hR rfl (by
        show ((upd none0 kCommand (escL x.command)) kCommand).getD [] ≠ []
        rw [upd_get]; exact esc_ne h.cne) hE]
    · rw [List.getElem?_append_right (Nat.le_refl _), Nat.sub_self]; rfl
    · show upd none0 kCommand (escL x.command) = textsOf x
      rw [textsOf, if_pos hd]
  · rw [if_neg hd]
    refine ⟨⟨ownN i, upd (upd none0 kCommand (escL x.command)) kDepfile (escL x.depfile), L + 1⟩, ⟨x.outs, x.ins, x.imp, x.ord, R.length, none0, L + 1 + 1 + 1 + 1⟩, ?_, rfl, rfl, rfl, rfl, rfl, rfl, ⟨ownN i, upd (upd none0 kCommand (escL x.command)) kDepfile (escL x.depfile), L + 1⟩, ?_, ?_⟩
    · simp only [List.nil_append, List.cons_append, numbered, linesE]
      rw [takes_h hi hR]
      dsimp only
      rw [hc1, takes_set kCommand x.command (.inl rfl) h.cne]
      dsimp only
      have := takes_set (R := R) (r := ⟨ownN i, upd none0 kCommand (escL x.command), L + 1⟩) (E := E) (n := L + 1 + 1 + 1) kDepfile x.depfile (.inr rfl) hd
      simp only [List.cons_append, List.nil_append] at this
      rw [this]
      dsimp only
      rw [takes_b h hR rfl (by
        show ((upd (upd none0 kCommand (escL x.command)) kDepfile (escL x.depfile)) kCommand).getD [] ≠ []
        rw [upd_other _ _ (by decide), upd_get]; exact esc_ne h.cne) hE]
    · rw [List.getElem?_append_right (Nat.le_refl _), Nat.sub_self]; rfl
    · show upd (upd none0 kCommand (escL x.command)) kDepfile (escL x.depfile) = textsOf x
      rw [textsOf, if_neg hd]
inductive All2 {α β : Type} (P : α → β → Prop) : List α → List β → Prop
  | nil : All2 P [] []
  | cons {a : α} {b : β} {l : List α} {m : List β} : P a b → All2 P l m → All2 P (a :: l) (b :: m)
theorem All2.imp {α β : Type} {P Q : α → β → Prop} (h : ∀ a b, P a b → Q a b) {l : List α} {m : List β} (k : All2 P l m) : All2 Q l m := by
  induction k with
  | nil => exact .nil
  | cons a _ ih => exact .cons (h _ _ a) ih
theorem All2.snoc {α β : Type} {P : α → β → Prop} {l : List α} {m : List β} (k : All2 P l m) {a : α} {b : β} (h : P a b) : All2 P (l ++ [a]) (m ++ [b]) := by
  induction k with
  | nil => exact .cons h .nil
  | cons a _ ih => exact .cons a ih
theorem lines_man : ∀ (xs done : List EdgeO) (R : List RuleS) (E : List EdgeS) (inn i L : Nat), (∀ x ∈ xs, RightO x) → inn = 0 ∨ inn = 2 → R.length = i → (∀ r ∈ R, ∃ q, q < i ∧ r.name = ownN q) → All2 (Fin R) E done → E.length + xs.length ≤ 200 → E.length = done.length →
    ∃ R' E' inn', linesE ⟨none0, R, E, [], inn⟩ (numbered L (manLines i xs)) = .ok ⟨none0, R', E', [], inn'⟩ ∧ (inn' = 0 ∨ inn' = 2) ∧ All2 (Fin R') E' (done ++ xs)
  | [], done, R, E, inn, i, L, _, hi, _, _, hF, _, _ => ⟨R, E, inn, rfl, hi, by rw [List.append_nil]; exact hF⟩
  | x :: xs, done, R, E, inn, i, L, hx, hi, hl, hR, hF, hn, hd => by
    rw [List.length_cons] at hn
    obtain ⟨r, e, h1, h2, h3⟩ := lines_edge (E := E) (L := L) (hx x (by simp)) hi hR (by omega)
    have hR' : ∀ r' ∈ R ++ [r], ∃ q, q < i + 1 ∧ r'.name = ownN q := by
      intro r' hr'
      rcases List.mem_append.1 hr' with hr' | hr'
      · obtain ⟨q, hq, e⟩ := hR r' hr'; exact ⟨q, by omega, e⟩
      · rw [List.mem_singleton.1 hr']; exact ⟨i, by omega, h2⟩
    obtain ⟨R', E', inn', k1, k2, k3⟩ := lines_man xs (done ++ [x]) (R ++ [r]) (E ++ [e]) 2 (i + 1) (L + (eLines i x).length) (fun y hy => hx y (List.mem_cons_of_mem _ hy)) (.inr rfl) (by rw [List.length_append, hl]; rfl) hR' ((hF.imp fun _ _ h => h.more).snoc h3) (by rw [List.length_append, List.length_singleton]; omega) (by rw [List.length_append, List.length_append, hd]; rfl)
    refine ⟨R', E', inn', ?_, k2, by simpa using k3⟩
    rw [manLines, numbered_append, linesE_append, h1]
    exact k1
theorem ends_fin {R : List RuleS} {e : EdgeS} {x : EdgeO} (h : Fin R e x) (hx : RightO x) (hl : x.command.length ≤ 16384 ∧ x.depfile.length ≤ 16384) : endsE none0 R e = .ok x := by
  obtain ⟨a, b, c, d, o, r, hr, ht⟩ := h
  rw [endsE_T, hr]
  show endsT none0 e r.texts = _
  rw [ht]
  unfold endsT
  rw [texts_cmd, texts_dep]
  show (match expE e.line _ (escL x.command) with
    | .error x => Except.error x
    | .ok c => if c = [] then .error (e.line, 10) else _) = _
  rw [exp_esc hl.1]
  dsimp only
  rw [if_neg hx.cne, exp_esc hl.2]
  dsimp only
  by_cases hd : x.depfile = []
  · rw [if_pos hd, a, b, c, d]
    rw [← hd]
  · rw [if_neg hd]
    have hcl := (hx.dep.resolve_left hd).clean
    unfold cleanE
    rw [hcl, if_pos rfl, a, b, c, d]
theorem endsAll_fin {R : List RuleS} : ∀ {E : List EdgeS} {xs : List EdgeO}, All2 (Fin R) E xs → (∀ x ∈ xs, RightO x) → (∀ x ∈ xs, x.command.length ≤ 16384 ∧ x.depfile.length ≤ 16384) → ∀ acc, endsAll none0 R E acc = .ok (acc ++ xs) := by
  intro E xs h
  induction h with
  | nil => intro _ _ acc; rw [endsAll, List.append_nil]
  | cons a _ ih =>
    intro hx hl acc
    rw [endsAll, ends_fin a (hx _ (by simp)) (hl _ (by simp))]
    dsimp only
    rw [ih (fun y hy => hx y (List.mem_cons_of_mem _ hy)) (fun y hy => hl y (List.mem_cons_of_mem _ hy)), List.append_assoc]; rfl
theorem plain_edge (i : Nat) (x : EdgeO) (h : RightO x) : ∀ s ∈ eLines i x, PlainLine s := by
  intro s hs
  unfold eLines dLines at hs
  have hc : PlainLine (cLine x) := set_plain kCommand x.command 99 _ rfl (by decide) (by decide) (by decide) h.cok
  rcases List.mem_cons.1 hs with rfl | hs
  · exact h_plain i
  rcases List.mem_cons.1 hs with rfl | hs
  · exact hc
  rcases List.mem_append.1 hs with hs | hs
  · split at hs
    · cases hs
    · rename_i hd
      rw [List.mem_singleton.1 hs]
      exact set_plain kDepfile x.depfile 100 _ rfl (by decide) (by decide) (by decide) (h.dep.resolve_left hd).toNameP.ok
  · rw [List.mem_singleton.1 hs]; exact b_plain i x h
theorem plain_man : ∀ (xs : List EdgeO) (i : Nat), (∀ x ∈ xs, RightO x) → ∀ s ∈ manLines i xs, PlainLine s
  | [], i, _, s, hs => by cases hs
  | x :: xs, i, h, s, hs => by
    rw [manLines] at hs
    rcases List.mem_append.1 hs with hs | hs
    · exact plain_edge i x (h x (by simp)) s hs
    · exact plain_man xs (i + 1) (fun y hy => h y (List.mem_cons_of_mem _ hy)) s hs
def printT (xs : List EdgeO) (ds : List Txt) : Txt := textOf (manLines 0 xs ++ defLines ds)
theorem textOf_mem : ∀ (ls : List Txt) (s : Txt), s ∈ ls → s.length ≤ (textOf ls).length
  | [], s, h => by cases h
  | t :: ls, s, h => by
    rw [textOf, List.length_append, List.length_cons]
    rcases List.mem_cons.1 h with rfl | h
    · omega
    · have := textOf_mem ls s h; omega
theorem esc_le (t : Txt) : t.length ≤ (escL t).length := by rw [escL_len]; omega
theorem man_mem : ∀ (xs : List EdgeO) (i : Nat) (x : EdgeO), x ∈ xs → ∃ j, ∀ s ∈ eLines j x, s ∈ manLines i xs
  | [], i, x, h => by cases h
  | y :: xs, i, x, h => by
    rw [manLines]
    rcases List.mem_cons.1 h with rfl | h
    · exact ⟨i, fun s hs => List.mem_append.2 (.inl hs)⟩
    · obtain ⟨j, hj⟩ := man_mem xs (i + 1) x h
      exact ⟨j, fun s hs => List.mem_append.2 (.inr (hj s hs))⟩
theorem parse_print (xs : List EdgeO) (ds : List Txt) (hx : ∀ x ∈ xs, RightO x) (hd : ∀ p ∈ ds, CleanN p) (hn : xs.length ≤ 200) (hl : (printT xs ds).length ≤ 16384) : parseL (printT xs ds) = (xs, ds, 0, 0) := by
  have hlen : ∀ x ∈ xs, x.command.length ≤ 16384 ∧ x.depfile.length ≤ 16384 := by
    intro x hxm
    obtain ⟨j, hj⟩ := man_mem xs 0 x hxm
    have h1 : (cLine x).length ≤ 16384 := Nat.le_trans (textOf_mem _ _ (List.mem_append.2 (.inl (hj _ (by simp [eLines]))))) hl
    have h2 : x.command.length ≤ (cLine x).length := by
      have := esc_le x.command
      simp [cLine]; omega
    refine ⟨Nat.le_trans h2 h1, ?_⟩
    by_cases hdp : x.depfile = []
    · rw [hdp]; exact Nat.zero_le _
    · have := ((hx x hxm).dep.resolve_left hdp).len
      omega
  have hpl : ∀ s ∈ manLines 0 xs ++ defLines ds, PlainLine s := by
    intro s hs
    rcases List.mem_append.1 hs with hs | hs
    · exact plain_man xs 0 hx s hs
    · unfold defLines at hs
      split at hs
      · cases hs
      · rw [List.mem_singleton.1 hs]; exact d_plain ds (names_of hd)
  obtain ⟨R, E, inn, k1, k2, k3⟩ := lines_man xs [] [] [] 0 0 0 hx (.inl rfl) rfl (fun r hr => by cases hr) .nil (by simpa using hn) rfl
  have hfin : ∀ inn2 ds2, (inn2 = 0 ∨ inn2 = 2) → (match closeE ⟨none0, R, E, ds2, inn2⟩ with
    | .error e => Except.error e
    | .ok st => match endsAll st.file st.rules st.edges [] with
      | .error e => .error e
      | .ok es => .ok (es, st.defs)) = Except.ok (ε := Er) (xs, ds2) := by
    intro inn2 ds2 h2
    rw [close_ok h2]
    dsimp only
    rw [endsAll_fin k3 hx hlen]; rfl
  have hE : parseE (numbered 0 (manLines 0 xs ++ defLines ds)) = .ok (xs, ds) := by
    unfold parseE
    rw [numbered_append, linesE_append]
    rw [show St.init = ⟨none0, [], [], [], 0⟩ from rfl, k1]
    dsimp only
    unfold defLines
    by_cases hne : ds = []
    · rw [if_pos hne, hne]
      exact hfin inn [] k2
    · rw [if_neg hne]
      simp only [numbered, linesE]
      rw [takes_d k2 hne hd]
      dsimp only
      exact hfin 0 ds (.inl rfl)
  unfold parseL printT
  rw [linesL_text _ hpl hl]
  dsimp only
  rw [if_pos rfl, hE]
end Go.Proofs.YtbjekebkgidhaaaGreatDoor.Mf
end
section
set_option linter.unusedSimpArgs false
set_option linter.unusedVariables false
namespace Go.Proofs.YtbjekebkgidhaaaGreatDoor.Mf
open Go.RowKit Go.Lib Go.Shelf Go.Proofs.YtbjekebkgidhaaaGreatDoor.U Go.Proofs.YtbjekebkgidhaaaGreatDoor.Sc Go.Proofs.YtbjekebkgidhaaaGreatDoor.P
open Go.Proofs.YtbjekebkgidhaaaGreatDoor.Ln hiding Txt
def OkM (m : MapL) : Prop := ∀ k v, m k = some v → okL v = true
theorem OkM.none0 : OkM none0 := fun k v h => by cases h
theorem OkM.upd {m : MapL} (h : OkM m) {k t : Txt} (ht : okL t = true) : OkM (upd m k t) := by
  intro j v hv
  by_cases hj : j = k
  · subst hj; rw [upd_get] at hv; injection hv with hv; rw [← hv]; exact ht
  · rw [upd_other m t hj] at hv; exact h j v hv
theorem okL_sub {a b : Txt} (h : okL b = true) (hs : ∀ x ∈ a, x ∈ b) : okL a = true := (okL_iff a).2 fun x hx => (okL_iff b).1 h x (hs x hx)
theorem getL_ok : ∀ (L : List Lev), (∀ s ∈ L, OkM s.m) → ∀ k, okL (getL L k) = true
  | [], _, k => rfl
  | s :: L, h, k => by
    unfold getL
    split
    · rename_i t ht; exact h s (by simp) k t ht
    · exact getL_ok L (fun q hq => h q (List.mem_cons_of_mem _ hq)) k
theorem cut_sub (c : UInt8) : ∀ t : Txt, (∀ x ∈ (cutL c t).1, x ∈ t) ∧ ∀ x ∈ (cutL c t).2.1, x ∈ t
  | [] => ⟨fun x h => by simp [cutL] at h, fun x h => by simp [cutL] at h⟩
  | b :: t => by
    obtain ⟨h1, h2⟩ := cut_sub c t
    unfold cutL
    split
    · exact ⟨fun x h => (by cases h), fun x h => List.mem_cons_of_mem _ h⟩
    · refine ⟨fun x h => ?_, fun x h => List.mem_cons_of_mem _ (h2 x h)⟩
      rcases List.mem_cons.1 h with rfl | h
      · simp
      · exact List.mem_cons_of_mem _ (h1 x h)
theorem dollar_ok (L : List Lev) (hL : ∀ s ∈ L, OkM s.m) (t : Txt) (ht : okL t = true) : okL (dollarL L t).1 = true ∧ okL (dollarL L t).2.1 = true := by
  cases t with
  | nil => exact ⟨rfl, rfl⟩
  | cons c r =>
    have hr : okL r = true := okL_sub ht fun x hx => List.mem_cons_of_mem _ hx
    unfold dollarL
    dsimp only
    by_cases h1 : escR c.toNat = true
    · rw [if_pos h1]
      exact ⟨okL_sub ht (fun x hx => by rw [List.mem_singleton.1 hx]; simp), hr⟩
    rw [if_neg h1]
    by_cases h2 : c = 123
    · rw [if_pos h2]
      exact ⟨getL_ok L hL _, okL_sub hr (cut_sub 125 r).2⟩
    rw [if_neg h2]
    exact ⟨getL_ok L hL _, okL_sub ht (fun x hx => (List.dropWhile_sublist _).subset hx)⟩
theorem expGo_ok (L : List Lev) (hL : ∀ s ∈ L, OkM s.m) : ∀ (f : Nat) (t out : Txt) (long : Bool) (o : Txt) (b : Bool), okL t = true → okL out = true → expGo L f t out long = some (o, b) → okL o = true
  | 0, t, out, long, o, b, _, _, h => by cases h
  | f + 1, t, out, long, o, b, ht, ho, h => by
    obtain ⟨s1, s2⟩ := cut_sub 36 t
    have h1 := okL_sub ht s1
    have h2 := okL_sub ht s2
    obtain ⟨d1, d2⟩ := dollar_ok L hL _ h2
    unfold expGo at h
    split at h
    · injection h with h; injection h with h _; rw [← h]; exact okL_app ho h1
    · split at h
      · cases h
      · split at h
        · exact expGo_ok L hL f _ _ _ o b d2 (okL_app ho h1) h
        · exact expGo_ok L hL f _ _ _ o b d2 (okL_app (okL_app ho h1) d1) h
theorem expE_ok {line : Nat} {ms : List MapL} {t x : Txt} (hm : ∀ m ∈ ms, OkM m) (ht : okL t = true) (h : expE line ms t = .ok x) : okL x = true := by
  unfold expE at h
  split at h
  · rename_i h0
    injection h with h
    subst h
    unfold expF expandL at h0 ⊢
    have hL : ∀ s ∈ ms.map lv, OkM s.m := by
      intro s hs
      obtain ⟨m, hm', rfl⟩ := List.mem_map.1 hs
      exact hm m hm'
    rcases he : expGo (ms.map lv) (t.length + 1) t [] false with _ | ⟨o, b⟩
    · rfl
    · have := expGo_ok _ hL _ t [] false o b ht rfl he
      unfold finL
      dsimp only
      split
      · rfl
      · exact this
  · cases h
structure OkS (st : St) : Prop where
  file : OkM st.file
  ru : ∀ r ∈ st.rules, OkM r.texts
  ed : ∀ e ∈ st.edges, OkM e.own
def OkR (r : Except Er St) : Prop := match r with | .ok st => OkS st | .error _ => True
theorem trimL_sub (c : UInt8) (l : Txt) : ∀ x ∈ trimL c l, x ∈ l := fun x hx => (List.dropWhile_sublist _).subset hx
theorem trimR_sub (c : UInt8) (l : Txt) : ∀ x ∈ trimR c l, x ∈ l := by
  intro x hx
  unfold trimR Lib.trimRightB at hx
  have := (List.dropWhile_sublist (l := l.reverse) (· == c)).subset (List.mem_reverse.1 hx)
  exact List.mem_reverse.1 this
theorem setE_okv {line : Nat} {t : Txt} {nt : Txt × Txt} (ht : okL t = true) (h : setE line t = .ok nt) : okL nt.2 = true := by
  unfold setE at h
  split at h
  · injection h with h
    subst h
    exact okL_sub ht fun x hx => (cut_sub 61 t).2 x (trimL_sub 32 _ x hx)
  · cases h
theorem close_okS {st : St} (h : OkS st) : OkR (closeE st) := by
  unfold closeE
  split
  · split
    · split
      · trivial
      · exact ⟨h.file, h.ru, h.ed⟩
    · exact ⟨h.file, h.ru, h.ed⟩
  · exact ⟨h.file, h.ru, h.ed⟩
theorem takes_okS {st : St} (h : OkS st) (l : LineT) (hl : okL l.text = true) : OkR (takesE st l) := by
  unfold takesE
  split
  · unfold innerE
    split
    · trivial
    · split
      · trivial
      · rename_i nt hnt
        have hv := setE_okv hl hnt
        split
        · split
          · refine ⟨h.file, fun r hr => ?_, h.ed⟩
            obtain ⟨y, hy, e | e⟩ := mem_onLast _ hr
            · rw [e]; exact h.ru y hy
            · rw [e]; exact (h.ru y hy).upd hv
          · trivial
        · split
          · trivial
          · rename_i x hx
            have hxo := expE_ok (fun m hm => by rw [List.mem_singleton.1 hm]; exact h.file) hv hx
            refine ⟨h.file, h.ru, fun e he => ?_⟩
            obtain ⟨y, hy, e1 | e1⟩ := mem_onLast _ he
            · rw [e1]; exact h.ed y hy
            · rw [e1]; exact (h.ed y hy).upd hxo
  · unfold leftE
    have hc := close_okS h
    split
    · trivial
    · rename_i st2 he
      rw [he] at hc
      replace hc : OkS st2 := hc
      split
      · trivial
      · split
        · unfold ruleE
          split
          · split
            · refine ⟨hc.file, fun r hr => ?_, hc.ed⟩
              rcases List.mem_append.1 hr with hr | hr
              · exact hc.ru r hr
              · rw [List.mem_singleton.1 hr]; exact OkM.none0
            · trivial
          · trivial
        · split
          · unfold buildE
            split
            · trivial
            · dsimp only
              split
              · split
                · trivial
                · split
                  · trivial
                  · split
                    · trivial
                    · split
                      · trivial
                      · split
                        · trivial
                        · refine ⟨hc.file, hc.ru, fun e he => ?_⟩
                          rcases List.mem_append.1 he with he | he
                          · exact hc.ed e he
                          · rw [List.mem_singleton.1 he]; exact OkM.none0
              · trivial
          · split
            · unfold targetsE
              split
              · trivial
              · split
                · trivial
                · exact ⟨hc.file, hc.ru, hc.ed⟩
            · unfold setLineE
              split
              · trivial
              · rename_i nt hnt
                have hv := setE_okv hl hnt
                split
                · trivial
                · rename_i x hx
                  have hxo := expE_ok (fun m hm => by rw [List.mem_singleton.1 hm]; exact hc.file) hv hx
                  exact ⟨hc.file.upd hxo, hc.ru, hc.ed⟩
theorem lines_okS : ∀ (ls : List LineT) {st : St}, OkS st → (∀ l ∈ ls, okL l.text = true) → OkR (linesE st ls)
  | [], st, h, _ => h
  | l :: ls, st, h, hl => by
    unfold linesE
    have hc := takes_okS h l (hl l (by simp))
    split
    · trivial
    · rename_i st2 he
      rw [he] at hc
      exact lines_okS ls hc (fun q hq => hl q (List.mem_cons_of_mem _ hq))
theorem join_ok : ∀ l : List Txt, (∀ p ∈ l, okL p = true) → okL (joinS l) = true := by
  intro l h
  unfold joinS
  rw [okL_iff]
  intro b hb
  rw [List.intercalate] at hb
  obtain ⟨t, ht, hbt⟩ := List.mem_flatten.1 hb
  have : t = [32] ∨ t ∈ l := by
    clear hb hbt h
    induction l with
    | nil => simp [List.intersperse] at ht
    | cons p l ih =>
      cases l with
      | nil => simp [List.intersperse] at ht; exact .inr (by rw [ht]; simp)
      | cons q l =>
        simp only [List.intersperse, List.mem_cons] at ht ih ⊢
        rcases ht with rfl | rfl | ht
        · exact .inr (.inl rfl)
        · exact .inl rfl
        · rcases ih ht with h | h
          · exact .inl h
          · exact .inr (.inr h)
  rcases this with rfl | ht'
  · rw [List.mem_singleton.1 hbt]; decide
  · exact (okL_iff t).1 (h t ht') b hbt
theorem clean_ok {p : Txt} (h : CleanP p) : okL p = true := (CleanN.of h).toNameP.ok
theorem endsT_okS {file : MapL} {e : EdgeS} {x : EdgeO} {texts : MapL} (ht : OkM texts) (hf : OkM file) (he : OkM e.own) (hg : GoodEdge e) (h : endsT file e texts = .ok x) : okL x.command = true := by
  have hms : ∀ m ∈ [upd (upd e.own kIn (joinS e.ins)) kOut (joinS e.outs), file], OkM m := by
    intro m hm
    simp only [List.mem_cons, List.not_mem_nil, or_false] at hm
    rcases hm with rfl | rfl
    · exact (he.upd (join_ok _ fun p hp => clean_ok (hg.p1 p hp))).upd (join_ok _ fun p hp => clean_ok (hg.p0 p hp))
    · exact hf
  have htx : okL ((texts kCommand).getD []) = true := by
    rcases hq : texts kCommand with _ | t
    · rfl
    · exact ht _ _ hq
  unfold endsT at h
  rcases hc : expE e.line [upd (upd e.own kIn (joinS e.ins)) kOut (joinS e.outs), file] ((texts kCommand).getD []) with er | c
  · rw [hc] at h; cases h
  rw [hc] at h
  have hco := expE_ok hms htx hc
  dsimp only at h
  split at h
  · cases h
  · split at h
    · cases h
    · split at h
      · injection h with h; rw [← h]; exact hco
      · split at h
        · cases h
        · injection h with h; rw [← h]; exact hco
theorem ends_okS {file : MapL} {rules : List RuleS} {e : EdgeS} {x : EdgeO} (hf : OkM file) (hr : ∀ r ∈ rules, OkM r.texts) (he : OkM e.own) (hg : GoodEdge e) (h : endsE file rules e = .ok x) : okL x.command = true := by
  rw [endsE_T] at h
  have ht : OkM (match rules[e.rule]? with | some r => r.texts | none => none0) := by
    rcases hq : rules[e.rule]? with _ | r
    · exact OkM.none0
    · exact hr r (List.mem_of_getElem? hq)
  exact endsT_okS ht hf he hg h
theorem endsAll_okS {file : MapL} {rules : List RuleS} (hf : OkM file) (hr : ∀ r ∈ rules, OkM r.texts) : ∀ (es : List EdgeS) (acc l : List EdgeO), (∀ e ∈ es, OkM e.own) → (∀ e ∈ es, GoodEdge e) → (∀ x ∈ acc, okL x.command = true) → endsAll file rules es acc = .ok l → ∀ x ∈ l, okL x.command = true
  | [], acc, l, _, _, ha, h => by injection h with h; rw [← h]; exact ha
  | e :: es, acc, l, he, hg, ha, h => by
    unfold endsAll at h
    rcases hx : endsE file rules e with er | x
    · rw [hx] at h; cases h
    rw [hx] at h
    refine endsAll_okS hf hr es (acc ++ [x]) l (fun q hq => he q (List.mem_cons_of_mem _ hq)) (fun q hq => hg q (List.mem_cons_of_mem _ hq)) (fun y hy => ?_) h
    rcases List.mem_append.1 hy with hy | hy
    · exact ha y hy
    · rw [List.mem_singleton.1 hy]; exact ends_okS hf hr (he e (by simp)) (hg e (by simp)) hx
theorem trimmed_ok {t : Txt} (h : okL t = true) : okL (trimmedL t) = true := by
  have h1 : okL (trimR 32 (trimL 32 t)) = true := okL_sub h fun x hx => trimL_sub 32 t x (trimR_sub 32 _ x hx)
  unfold trimmedL
  split
  · exact okL_app h1 (by decide)
  · exact h1
theorem opened_ok {i : Nat} {s : Txt} {op : Option LineT} (hs : okL s = true) (ho : ∀ o, op = some o → okL o.text = true) : okL (opened i s op).text = true := by
  cases op with
  | none => exact hs
  | some o => exact okL_app (ho o rfl) (okL_sub hs (trimL_sub 32 s))
theorem linesGo_ok (total : Nat) : ∀ (ss : List Txt) (i : Nat) (out l : List LineT) (op : Option LineT), (∀ o, op = some o → okL o.text = true) → (∀ x ∈ out, okL x.text = true) → linesGo total ss i out op = .ok l → ∀ x ∈ l, okL x.text = true
  | [], i, out, l, op, _, ho, h => by injection h with h; rw [← h]; exact ho
  | s :: ss, i, out, l, op, hp, ho, h => by
    unfold linesGo at h
    by_cases h1 : okL s = false
    · rw [if_pos h1] at h; cases h
    rw [if_neg h1] at h
    have hs : okL s = true := by simpa using h1
    have ht := opened_ok (i := i) hs hp
    by_cases h2 : op = none ∧ emptyL s = true
    · rw [if_pos h2] at h; exact linesGo_ok total ss _ out l none (fun _ h => (by cases h)) ho h
    rw [if_neg h2] at h
    by_cases h3 : oddL s = true
    · rw [if_pos h3] at h
      by_cases h4 : i + 1 = total
      · rw [if_pos h4] at h; cases h
      rw [if_neg h4] at h
      refine linesGo_ok total ss _ out l _ (fun o e => ?_) ho h
      injection e with e; subst e
      exact okL_sub ht fun x hx => List.dropLast_subset _ hx
    rw [if_neg h3] at h
    refine linesGo_ok total ss _ _ l none (fun _ h => (by cases h)) (fun x hx => ?_) h
    rcases List.mem_append.1 hx with hx | hx
    · exact ho x hx
    · rw [List.mem_singleton.1 hx]; exact trimmed_ok ht
theorem parse_right {text : Txt} {es : List EdgeO} {ds : List Txt} {n : Nat} (h : parseL text = (es, ds, n, 0)) : (∀ x ∈ es, RightO x) ∧ (∀ p ∈ ds, CleanN p) ∧ es.length ≤ 200 := by
  have hg := (parse_good2 text).2
  have hf := parse_few text
  rw [h] at hg hf
  obtain ⟨_, h1, h2⟩ := hg rfl
  have hcmd : ∀ x ∈ es, okL x.command = true := by
    unfold parseL at h
    split at h
    · rename_i h0
      have hl : ∀ l ∈ (linesL text).1, okL l.text = true := by
        unfold linesL at h0 ⊢
        split
        · exact fun l hl => (by cases hl)
        · rename_i hs
          rw [if_neg hs] at h0
          rcases hq : linesGo (spl 10 text).length (spl 10 text) 0 [] none with m | out
          · exact fun l hl => (by cases hl)
          · exact linesGo_ok _ _ _ _ _ _ (fun _ h => (by cases h)) (fun _ h => (by cases h)) hq
      have hpos := ((linesL_good text).1 h0).1
      unfold parseE at h
      have ho := lines_okS (linesL text).1 (st := St.init) ⟨OkM.none0, fun _ h => (by cases h), fun _ h => (by cases h)⟩ hl
      have hgd := lines_good (linesL text).1 good_init hpos
      rcases hq : linesE St.init (linesL text).1 with e | st
      · rw [hq] at h hgd
        injection h with _ h; injection h with _ h; injection h with _ h
        exact absurd h hgd.2
      rw [hq] at h ho hgd
      replace ho : OkS st := ho
      replace hgd : Good st := hgd
      dsimp only at h
      have ho2 := close_okS ho
      have hg2 := close_good hgd
      rcases hq2 : closeE st with e | st2
      · rw [hq2] at h hg2
        injection h with _ h; injection h with _ h; injection h with _ h
        exact absurd h hg2.2
      rw [hq2] at h ho2 hg2
      replace ho2 : OkS st2 := ho2
      replace hg2 : Good st2 := hg2
      dsimp only at h
      have hge := endsAll_good (file := st2.file) (rules := st2.rules) st2.edges [] hg2.ed (fun _ h => (by cases h))
      rcases hq3 : endsAll st2.file st2.rules st2.edges [] with e | l
      · rw [hq3] at h hge
        injection h with _ h; injection h with _ h; injection h with _ h
        exact absurd h hge.2
      rw [hq3] at h
      injection h with h _
      have := endsAll_okS ho2.file ho2.ru st2.edges [] l ho2.ed hg2.ed (fun _ h => (by cases h)) hq3
      rw [← h]; exact this
    · rename_i h0
      injection h with _ h; injection h with _ h; injection h with _ h
      exact absurd h h0
  refine ⟨fun x hx => ?_, fun p hp => CleanN.of (h2 p hp), hf⟩
  have hx1 := h1 x hx
  exact ⟨hx1.outs, fun p hp => CleanN.of (hx1.p0 p hp), fun p hp => CleanN.of (hx1.p1 p hp), fun p hp => CleanN.of (hx1.p2 p hp), fun p hp => CleanN.of (hx1.p3 p hp), hx1.cmd, hcmd x hx, hx1.dep.imp id CleanN.of⟩
end Go.Proofs.YtbjekebkgidhaaaGreatDoor.Mf
end
section
set_option linter.unusedSimpArgs false
set_option linter.unusedVariables false
namespace Go.Proofs.YtbjekebkgidhaaaGreatDoor.Mf
open Go.RowKit Go.Lib Go.Shelf Go.Proofs.YtbjekebkgidhaaaGreatDoor.U Go.Proofs.YtbjekebkgidhaaaGreatDoor.Sc Go.Proofs.YtbjekebkgidhaaaGreatDoor.P
theorem dollarL_congr {L L' : List Lev} (h : ∀ k, getL L k = getL L' k) (t : Txt) : dollarL L t = dollarL L' t := by
  cases t with
  | nil => rfl
  | cons c r => simp only [dollarL, h]
theorem expGo_congr {L L' : List Lev} (h : ∀ k, getL L k = getL L' k) (f : Nat) : ∀ (t out : Txt) (long : Bool), expGo L f t out long = expGo L' f t out long := by
  induction f with
  | zero => intro t out long; rfl
  | succ f ih => intro t out long; simp only [expGo, dollarL_congr h, ih]
theorem expandL_congr {L L' : List Lev} (h : ∀ k, getL L k = getL L' k) (t : Txt) : expandL L t = expandL L' t := by
  simp only [expandL, expGo_congr h]
theorem getL_lv (L : List Lev) (k : Txt) : getL L k = getL ((L.map (·.m)).map lv) k := by
  induction L with
  | nil => rfl
  | cons s r ih => simp only [List.map_cons, getL, lv, ih]
theorem expandL_expF (L : List Lev) (t : Txt) : expandL L t = expF (L.map (·.m)) t := expandL_congr (getL_lv L) t
theorem finL_len (r : Option (Txt × Bool)) : (finL r).1.length ≤ 16384 := by
  cases r with
  | none => simp [finL]
  | some p =>
    obtain ⟨o, l⟩ := p
    simp only [finL]
    split
    · simp
    · rename_i h; simp only [not_or] at h; show o.length ≤ _; omega
theorem expF_len (ms : List MapL) (t : Txt) : (expF ms t).1.length ≤ 16384 := finL_len _
def Short (M : Nat) (m : MapL) : Prop := ∀ k t, m k = some t → t.length ≤ M
theorem Short.none0 (M : Nat) : Short M none0 := fun k t h => by cases h
theorem Short.upd {M : Nat} {m : MapL} (h : Short M m) {k t : Txt} (ht : t.length ≤ M) : Short M (upd m k t) := by
  intro x u hx
  by_cases e : x = k
  · have : t = u := by simpa [Sc.upd, e] using hx
    rw [← this]; exact ht
  · exact h x u (by simpa [Sc.upd, e] using hx)
theorem Short.mono {M M' : Nat} {m : MapL} (h : Short M m) (hM : M ≤ M') : Short M' m := fun k t e => Nat.le_trans (h k t e) hM
theorem getL_short {M : Nat} : ∀ {L : List Lev}, (∀ s ∈ L, Short M s.m) → ∀ k, (getL L k).length ≤ M := by
  intro L
  induction L with
  | nil => intro _ k; exact Nat.zero_le _
  | cons s r ih =>
    intro h k
    simp only [getL]
    cases hm : s.m k with
    | some t => exact h s (by simp) k t hm
    | none => exact ih (fun x hx => h x (by simp [hx])) k
theorem pathsE_len (line : Nat) (file : MapL) : ∀ (ws acc d : List Txt), pathsE line file acc ws = .ok d → d.length = acc.length + ws.length := by
  intro ws
  induction ws with
  | nil => intro acc d h; obtain rfl : acc = d := by simpa [pathsE] using h
           simp
  | cons x r ih =>
    intro acc d h
    rw [pathsE] at h
    cases hp : pathE line file x with
    | error e => rw [hp] at h; cases h
    | ok p =>
      rw [hp] at h
      have := ih _ _ h
      rw [this, List.length_append, List.length_cons, List.length_cons, List.length_nil]; omega
end Go.Proofs.YtbjekebkgidhaaaGreatDoor.Mf
end
section
set_option linter.unusedSimpArgs false
set_option linter.unusedVariables false
namespace Go.Proofs.YtbjekebkgidhaaaGreatDoor.MapV
open Go.RowKit Go.Lib Go.Maps Go.WideMaps Go.WideElems Go.Proofs.YtbjekebkgidhaaaGreatDoor.U Go.Proofs.YtbjekebkgidhaaaGreatDoor.Idx Go.Proofs.YtbjekebkgidhaaaGreatDoor.Sc
abbrev MapVal := Txt → Option Value
def updV (m : MapVal) (k : Txt) (v : Value) : MapVal := fun x => if x = k then some v else m x
def noneV : MapVal := fun _ => none
def Rv (v : Value) : Option (DataW Value × List MemPlace) := some (.held v, [])
def OwnsV (w : World) (b n : Nat) (m : MapVal) : Prop :=
  ∃ D : DataW Value, w.ownsMap Tryz.prog 9 Rv b n D ∧ (∀ k, Maps.has D (.string k) = (m k).isSome) ∧ (∀ k t, m k = some t → ∀ z, D.atKey (.string k) z = .held t)
theorem OwnsV.lt {w : World} {b n : Nat} {m : MapVal} (h : OwnsV w b n m) : b < w.heap.size := by
  obtain ⟨D, h, _⟩ := h
  exact h.lt
theorem OwnsV.mono {w : World} {b n n' : Nat} {m : MapVal} (h : OwnsV w b n m) (hn : n ≤ n') : OwnsV w b n' m := by
  obtain ⟨D, h, r⟩ := h
  exact ⟨D, h.mono hn, r⟩
theorem OwnsV.same {w w' : World} {b n : Nat} {m : MapVal} (h : OwnsV w b n m) (hb : w'.heap[b]? = w.heap[b]?) : OwnsV w' b n m := by
  obtain ⟨D, ⟨es, clock, h1, h2⟩, r⟩ := h
  exact ⟨D, ⟨es, clock, hb.trans h1, h2⟩, r⟩
theorem OwnsV.made (w : World) : OwnsV (w.alloc (.map #[] 0)) w.heap.size 0 noneV :=
  ⟨.map [], World.ownsMap_made w _ _ _, fun _ => rfl, fun k t h => by cases h⟩
theorem held_of {w : World} {b n : Nat} {m : MapVal} {D : DataW Value} (h1 : ∀ k, Maps.has D (.string k) = (m k).isSome) (h2 : ∀ k t, m k = some t → ∀ z, D.atKey (.string k) z = .held t)
    {k : Txt} {z v : Value} {ps : List MemPlace} (hv : Rv v = some (D.atKey (.string k) (.held z), ps)) : v = (m k).getD z := by
  have hat : (DataW.held v : DataW Value) = D.atKey (.string k) (.held z) := (Prod.mk.inj (Option.some.inj hv)).1
  cases hm : m k with
  | none =>
    have hn : Maps.has D (.string k) = false := by rw [h1 k, hm]; rfl
    rw [Maps.atKey_of_not_has hn] at hat
    injection hat
  | some t =>
    rw [h2 k t hm] at hat
    injection hat
theorem OwnsV.look {t e : TypeId} {z : Value} {w : World} {b n : Nat} {m : MapVal} (h : OwnsV w b n m) (ht : Tryz.prog.underlying t = some (.map 9 e)) (hz : (zeroValue e).run Tryz.prog w = .ok z w) (k : Txt) (hk : k.length ≤ maxLen) :
    (Instr.lookup t (.map (some b)) (.string (B k)) false).run Tryz.prog w = .ok ((m k).getD z) w := by
  obtain ⟨D, h, h1, h2⟩ := h
  have hkey : keyOf Tryz.prog 9 (.string (B k)) = some (.string k) := keyOf_string_mk Tryz.underlying9 (by rw [size_B]; exact hk)
  obtain ⟨v, ps, hrun, hv⟩ := h.lookup skeyed ht hz (show Rv z = some (.held z, []) from rfl) hkey
  rw [hrun, held_of (w := w) (b := b) (n := n) h1 h2 hv]
theorem OwnsV.look_ok {t e : TypeId} {z : Value} {w : World} {b n : Nat} {m : MapVal} (h : OwnsV w b n m) (ht : Tryz.prog.underlying t = some (.map 9 e)) (hz : (zeroValue e).run Tryz.prog w = .ok z w) (k : Txt) (hk : k.length ≤ maxLen) :
    (Instr.lookup t (.map (some b)) (.string (B k)) true).run Tryz.prog w = .ok (.tuple #[(m k).getD z, .bool (m k).isSome]) w := by
  obtain ⟨D, h, h1, h2⟩ := h
  have hkey : keyOf Tryz.prog 9 (.string (B k)) = some (.string k) := keyOf_string_mk Tryz.underlying9 (by rw [size_B]; exact hk)
  obtain ⟨v, ps, hrun, hv⟩ := h.look_ok skeyed ht hz (show Rv z = some (.held z, []) from rfl) hkey
  rw [hrun, h1 k, held_of (w := w) (b := b) (n := n) h1 h2 hv]
theorem OwnsV.store {t e : TypeId} {w : World} {b n : Nat} {m : MapVal} (h : OwnsV w b n m) (ht : Tryz.prog.underlying t = some (.map 9 e)) (hn : n < maxLen) (k : Txt) (v : Value) (hk : k.length ≤ maxLen) :
    ∃ w', (Instr.mapUpdate t (.map (some b)) (.string (B k)) v).run Tryz.prog w = .ok () w' ∧ OwnsV w' b (n + 1) (updV m k v) ∧ w.grownBy w' (some b) := by
  obtain ⟨D, h, h1, h2⟩ := h
  have hkey : keyOf Tryz.prog 9 (.string (B k)) = some (.string k) := keyOf_string_mk Tryz.underlying9 (by rw [size_B]; exact hk)
  obtain ⟨w', hrun, hown, hg⟩ := h.update skeyed ht hn hkey (show Rv v = some (.held v, []) from rfl)
  refine ⟨w', hrun, ⟨_, hown, ?_, ?_⟩, hg⟩
  · intro x
    by_cases hx : x = k
    · subst hx
      rw [has_put_same h.isMap (show WideAt.IsKeyLit (.string x) from trivial)]; simp [updV]
    · rw [has_put_other (by simpa using hx), h1 x]; simp [updV, hx]
  · intro x t' hx' z
    by_cases hx : x = k
    · subst hx
      rw [atKey_put_same h.isMap (show WideAt.IsKeyLit (.string x) from trivial)]
      have : v = t' := by simpa [updV] using hx'
      rw [← this]
    · rw [atKey_put_other (by simpa using hx)]
      exact h2 x t' (by simpa [updV, hx] using hx') z
theorem OwnsV.entry {t e : TypeId} {z : Value} {w : World} {b n : Nat} {m : MapVal} (h : OwnsV w b n m) (ht : Tryz.prog.underlying t = some (.map 9 e)) (hz : ∀ w, (zeroValue e).run Tryz.prog w = .ok z w) (hn : n < maxLen) (k : Txt) (v : Value) (hk : k.length ≤ maxLen) :
    ∃ (v0 : Value) (st : Nat) (w1 : World), (Instr.mapEntry t (.map (some b)) (.string (B k))).run Tryz.prog w = .ok (.tuple #[v0, .int .i64 (st : Int)]) w1 ∧ w.grownBy w1 (some b) ∧
      ∀ w2 : World, w2.heap[b]? = w1.heap[b]? → ∃ w3, (Instr.entryStore t (.map (some b)) (.int .i64 (st : Int)) v).run Tryz.prog w2 = .ok () w3 ∧ OwnsV w3 b (n + 1) (updV m k v) ∧ w2.grownBy w3 (some b) := by
  have hst := h.store ht hn k v hk
  obtain ⟨D, ⟨es, clock, hb, F, hs, hD⟩, h1, h2⟩ := h
  have hkey : keyOf Tryz.prog 9 (.string (B k)) = some (.string k) := keyOf_string_mk Tryz.underlying9 (by rw [size_B]; exact hk)
  obtain ⟨v0, st, es1, clock1, hrun, _, hthen⟩ := entry_then_store (WideMaps.string_law Tryz.underlying9) ht hz hb F hkey
  have hg : ∀ (w : World) (o' : Obj) (es : Array MapEntry) (clock : Nat), w.heap[b]? = some (.map es clock) → w.grownBy (ChangeMaps.setBlock w b o') (some b) := fun w o' es clock hw => ⟨rfl, rfl, rfl, by simp [ChangeMaps.setBlock], fun i _ hi => ChangeMaps.heap_setBlock_other hw _ (fun e => hi (by rw [e]))⟩
  refine ⟨v0, st, _, hrun, hg w _ _ _ hb, fun w2 hw2 => ?_⟩
  have hw2' : w2.heap[b]? = some (.map es1 clock1) := hw2.trans (ChangeMaps.heap_setBlock_same hb _)
  obtain ⟨es', clock', r1, r2⟩ := hthen w2 v hw2'
  refine ⟨_, r1, ?_, hg w2 _ _ _ hw2'⟩
  obtain ⟨w', s1, s2, _⟩ := hst
  rw [r2] at s1
  have hw' : ChangeMaps.setBlock w b (.map es' clock') = w' := by injection s1
  refine s2.same ?_
  rw [← hw', ChangeMaps.heap_setBlock_same hb, ChangeMaps.heap_setBlock_same hw2']
end Go.Proofs.YtbjekebkgidhaaaGreatDoor.MapV
end
section
set_option linter.unusedSimpArgs false
set_option linter.unusedVariables false
namespace Go.Proofs.YtbjekebkgidhaaaGreatDoor.Mf
open Go.RowKit Go.Lib Go.Shelf Go.Proofs.YtbjekebkgidhaaaGreatDoorW.PrintWords Go.Proofs.YtbjekebkgidhaaaGreatDoor.U Go.Proofs.YtbjekebkgidhaaaGreatDoor.Sc Go.Proofs.YtbjekebkgidhaaaGreatDoor.P
abbrev wr (line : Nat) (c : Int) : Ending := .panicked [{ v := .iface 60 (.agg #[.int .i64 (line : Int), .int .i64 c]), recovered := false }]
set_option maxRecDepth 100000 in
set_option maxHeartbeats 2000000 in
theorem need_ok (r : Value) (c : Int) (w : World) : Calls Tryz.prog 40 #[r, .bool true, .int .i64 c] w fun e w' => e = .returned (.tuple #[]) ∧ w = w' := by
  go_enter Tryz.func40, Tryz.ntmps40
  go_wp2
  go_end0
  exact ⟨rfl, rfl⟩
set_option maxRecDepth 100000 in
set_option maxHeartbeats 2000000 in
theorem need_no (b : Nat) (line : Nat) (c : Int) (w : World) (h4 : w.cell? ⟨b, 4, none⟩ = some (.int .i64 (line : Int))) :
    Calls Tryz.prog 40 #[.pointer (some ⟨b, 0, none⟩), .bool false, .int .i64 c] w fun e w' => e = wr line c ∧ w = w' := by
  go_enter Tryz.func40, Tryz.ntmps40
  go_wp2
  exact ⟨rfl, rfl, rfl⟩
def Gives {α : Type} (r : Except Er α) (K : α → Value) (w : World) (e : Ending) (w' : World) : Prop :=
  match r with
  | .ok x => e = .returned (K x) ∧ Below w.heap.size w w'
  | .error x => e = wr x.1 x.2 ∧ Below w.heap.size w w'
theorem Gives.fin {α : Type} {r : Except Er α} {K : α → Value} {w w' : World} {x : α} (h : r = .ok x) (hb : Below w.heap.size w w') : Gives r K w (.returned (K x)) w' := by
  subst h; exact ⟨rfl, hb⟩
theorem Gives.bad {α : Type} {r : Except Er α} {K : α → Value} {w w' : World} {l : Nat} {c : Int} (h : r = .error (l, c)) (hb : Below w.heap.size w w') : Gives r K w (wr l c) w' := by
  subst h; exact ⟨rfl, hb⟩
set_option maxRecDepth 100000 in
set_option maxHeartbeats 2000000 in
theorem expanded_any (b line : Nat) (L : List Lev) (v : Value) (text : Txt) (w : World) (h4 : w.cell? ⟨b, 4, none⟩ = some (.int .i64 (line : Int))) (hb : b < w.heap.size)
    (hl : text.length < 1000000000) (hT : ∀ k, (getL L k).length < 1000000000) (hC : Chain w L v) :
    Calls Tryz.prog 47 #[.pointer (some ⟨b, 0, none⟩), v, .string (B text)] w (Gives (expE line (L.map (·.m)) text) (fun x => .string (B x)) w) := by
  have hE := Lib.hid (Expand_any L v text hl hT w hC)
  have he : expE line (L.map (·.m)) text = if (expandL L text).2 = 0 then .ok (expandL L text).1 else .error (line, (expandL L text).2) := by
    rw [expE, expandL_expF]
  generalize expE line (L.map (·.m)) text = R at *
  obtain ⟨⟨t, c⟩, hx⟩ : ∃ x, expandL L text = x := ⟨_, rfl⟩
  rw [hx] at hE he
  have hH := Lib.hid he
  clear he hx hC hT
  have h4H := Lib.hid h4
  clear h4
  by_cases hc : c = 0
  · subst hc
    have hR : Hid (R = .ok t) := by show R = _; rw [hH.out, if_pos rfl]
    clear hH
    go_enter Tryz.func47, Tryz.ntmps47
    go_wp2_with fail
    refine hE.out.mono ?_
    rintro e w1 ⟨rfl, hb1⟩
    go_wp2_with fail
    refine (need_ok _ _ _).mono ?_
    rintro e w2 ⟨rfl, rfl⟩
    go_wp2_with fail
    go_ret
    exact Gives.fin hR.out hb1
  · have hR : Hid (R = .error (line, c)) := by show R = _; rw [hH.out, if_neg hc]
    have hcb : (c == 0) = false := beq_eq_false_iff_ne.2 hc
    clear hH hc
    go_enter Tryz.func47, Tryz.ntmps47
    go_wp2_with fail
    refine hE.out.mono ?_
    rintro e w1 ⟨rfl, hb1⟩
    have h41 := Lib.hid ((hb1.cell (p := ⟨b, 4, none⟩) hb).trans h4H.out)
    go_wp2_with fail
    refine (need_no b line c _ h41.out).mono ?_
    rintro e w2 ⟨rfl, rfl⟩
    exact ⟨rfl, Gives.bad hR.out hb1⟩
set_option maxRecDepth 100000 in
set_option maxHeartbeats 2000000 in
theorem mclean_any (b line : Nat) (text : Txt) (w : World) (h4 : w.cell? ⟨b, 4, none⟩ = some (.int .i64 (line : Int))) (hb : b < w.heap.size) :
    Calls Tryz.prog 48 #[.pointer (some ⟨b, 0, none⟩), .string (B text)] w (Gives (cleanE line text) (fun x => .string (B x)) w) := by
  have hE := Lib.hid (clean_any text w)
  have he : cleanE line text = if (cleanL text).2 = 0 then .ok (cleanL text).1 else .error (line, 10) := rfl
  generalize cleanE line text = R at *
  obtain ⟨⟨t, c⟩, hx⟩ : ∃ x, cleanL text = x := ⟨_, rfl⟩
  rw [hx] at hE he
  have hH := Lib.hid he
  clear he hx
  have h4H := Lib.hid h4
  clear h4
  by_cases hc : c = 0
  · subst hc
    have hR : Hid (R = .ok t) := by show R = _; rw [hH.out, if_pos rfl]
    clear hH
    go_enter Tryz.func48, Tryz.ntmps48
    go_wp2_with fail
    refine hE.out.mono ?_
    rintro e w1 ⟨rfl, hb1⟩
    go_wp2_with fail
    refine (need_ok _ _ _).mono ?_
    rintro e w2 ⟨rfl, rfl⟩
    go_wp2_with fail
    go_ret
    exact Gives.fin hR.out hb1
  · have hR : Hid (R = .error (line, 10)) := by show R = _; rw [hH.out, if_neg hc]
    have hcb : (c == 0) = false := beq_eq_false_iff_ne.2 hc
    clear hH hc
    go_enter Tryz.func48, Tryz.ntmps48
    go_wp2_with fail
    refine hE.out.mono ?_
    rintro e w1 ⟨rfl, hb1⟩
    have h41 := Lib.hid ((hb1.cell (p := ⟨b, 4, none⟩) hb).trans h4H.out)
    go_wp2_with fail
    refine (need_no b line 10 _ h41.out).mono ?_
    rintro e w2 ⟨rfl, rfl⟩
    exact ⟨rfl, Gives.bad hR.out hb1⟩
end Go.Proofs.YtbjekebkgidhaaaGreatDoor.Mf
end
section
namespace Go.Proofs.YtbjekebkgidhaaaGreatDoor.P
open Go.RowKit Go.Proofs.YtbjekebkgidhaaaGreatDoorW.PrintWords Go.Proofs.YtbjekebkgidhaaaGreatDoorW.PrintLast Go.Proofs.YtbjekebkgidhaaaGreatDoorW.PrintMore
attribute [local go_sem] max2_int min2_int max_two min_two max_three min_three max_four min_four
set_option linter.unusedVariables false
set_option linter.unusedSimpArgs false
def errW : Option Int → Value
  | none => .nilIface
  | some c => .iface 0 (.int .i64 c)
theorem errW_none : errW none = .nilIface := rfl
theorem errW_some (c : Int) : errW (some c) = .iface 0 (.int .i64 c) := rfl
structure S42 where
  f0 : (List ByteArray)
  f1 : (List ByteArray)
  f2 : (List ByteArray)
  f3 : (List ByteArray)
  f4 : ByteArray
  f5 : ByteArray
def z42 : S42 := ⟨([] : List ByteArray), ([] : List ByteArray), ([] : List ByteArray), ([] : List ByteArray), (⟨#[]⟩ : ByteArray), (⟨#[]⟩ : ByteArray)⟩
def k42 : Kd S42 := Kd.iso (Kd.pair (Kd.slice 9 Kd.string) (Kd.pair (Kd.slice 9 Kd.string) (Kd.pair (Kd.slice 9 Kd.string) (Kd.pair (Kd.slice 9 Kd.string) (Kd.pair Kd.string Kd.string))))) (fun x : S42 => (x.f0, x.f1, x.f2, x.f3, x.f4, x.f5))
theorem k42_open {w : World} {x : S42} {cs : List Value} (h : k42.K w x cs) : ∃ A0 c0 A1 c1 A2 c2 A3 c3, cs = [.slice A0 x.f0.length c0, .slice A1 x.f1.length c1, .slice A2 x.f2.length c2, .slice A3 x.f3.length c3, .string x.f4, .string x.f5] ∧ x.f0.length ≤ c0 ∧ Kd.string.C w A0 x.f0.length x.f0 ∧ x.f1.length ≤ c1 ∧ Kd.string.C w A1 x.f1.length x.f1 ∧ x.f2.length ≤ c2 ∧ Kd.string.C w A2 x.f2.length x.f2 ∧ x.f3.length ≤ c3 ∧ Kd.string.C w A3 x.f3.length x.f3 := by
  obtain ⟨_, _, rfl, ⟨A0, c0, rfl, l0, g0⟩, ⟨_, _, rfl, ⟨A1, c1, rfl, l1, g1⟩, ⟨_, _, rfl, ⟨A2, c2, rfl, l2, g2⟩, ⟨_, _, rfl, ⟨A3, c3, rfl, l3, g3⟩, ⟨_, _, rfl, rfl, rfl⟩⟩⟩⟩⟩ := h
  exact ⟨A0, c0, A1, c1, A2, c2, A3, c3, rfl, l0, g0, l1, g1, l2, g2, l3, g3⟩
theorem k42_mk (w : World) (x : S42) {A0 : Option Addr} {c0 : Nat} (l0 : x.f0.length ≤ c0) (g0 : Kd.string.C w A0 x.f0.length x.f0) {A1 : Option Addr} {c1 : Nat} (l1 : x.f1.length ≤ c1) (g1 : Kd.string.C w A1 x.f1.length x.f1) {A2 : Option Addr} {c2 : Nat} (l2 : x.f2.length ≤ c2) (g2 : Kd.string.C w A2 x.f2.length x.f2) {A3 : Option Addr} {c3 : Nat} (l3 : x.f3.length ≤ c3) (g3 : Kd.string.C w A3 x.f3.length x.f3) : k42.K w x [.slice A0 x.f0.length c0, .slice A1 x.f1.length c1, .slice A2 x.f2.length c2, .slice A3 x.f3.length c3, .string x.f4, .string x.f5] := ⟨[.slice A0 x.f0.length c0], [.slice A1 x.f1.length c1, .slice A2 x.f2.length c2, .slice A3 x.f3.length c3, .string x.f4, .string x.f5], rfl, ⟨A0, c0, rfl, l0, g0⟩, ⟨[.slice A1 x.f1.length c1], [.slice A2 x.f2.length c2, .slice A3 x.f3.length c3, .string x.f4, .string x.f5], rfl, ⟨A1, c1, rfl, l1, g1⟩, ⟨[.slice A2 x.f2.length c2], [.slice A3 x.f3.length c3, .string x.f4, .string x.f5], rfl, ⟨A2, c2, rfl, l2, g2⟩, ⟨[.slice A3 x.f3.length c3], [.string x.f4, .string x.f5], rfl, ⟨A3, c3, rfl, l3, g3⟩, ⟨[.string x.f4], [.string x.f5], rfl, rfl, rfl⟩⟩⟩⟩⟩
def rd_T42 (xs : List S42) (i : Int) : S42 := xs.getD i.toNat z42
theorem at_T42 {w : World} {A : Option Addr} {n : Nat} {xs : List S42} (h : Kd.C k42 w A n xs) (i : Int) (h0 : 0 ≤ i) (h1 : i < n) : ∃ ad A0 c0 A1 c1 A2 c2 A3 c3, A = some ad ∧ w.cell? (ad.add (i.toNat * 6)) = some (.slice A0 (rd_T42 xs i).f0.length c0) ∧ w.cell? ⟨(ad.add (i.toNat * 6)).block, (ad.add (i.toNat * 6)).off + 1, none⟩ = some (.slice A1 (rd_T42 xs i).f1.length c1) ∧ w.cell? ⟨(ad.add (i.toNat * 6)).block, (ad.add (i.toNat * 6)).off + 2, none⟩ = some (.slice A2 (rd_T42 xs i).f2.length c2) ∧ w.cell? ⟨(ad.add (i.toNat * 6)).block, (ad.add (i.toNat * 6)).off + 3, none⟩ = some (.slice A3 (rd_T42 xs i).f3.length c3) ∧ w.cell? ⟨(ad.add (i.toNat * 6)).block, (ad.add (i.toNat * 6)).off + 4, none⟩ = some (.string (rd_T42 xs i).f4) ∧ w.cell? ⟨(ad.add (i.toNat * 6)).block, (ad.add (i.toNat * 6)).off + 5, none⟩ = some (.string (rd_T42 xs i).f5) ∧ (rd_T42 xs i).f0.length ≤ c0 ∧ Kd.string.C w A0 (rd_T42 xs i).f0.length (rd_T42 xs i).f0 ∧ (rd_T42 xs i).f1.length ≤ c1 ∧ Kd.string.C w A1 (rd_T42 xs i).f1.length (rd_T42 xs i).f1 ∧ (rd_T42 xs i).f2.length ≤ c2 ∧ Kd.string.C w A2 (rd_T42 xs i).f2.length (rd_T42 xs i).f2 ∧ (rd_T42 xs i).f3.length ≤ c3 ∧ Kd.string.C w A3 (rd_T42 xs i).f3.length (rd_T42 xs i).f3 := by
  obtain ⟨ad, c, e, _, hK, hc0⟩ := Kd.C_get h z42 i h0 h1
  have hc : ∀ j u, c[j]? = some u → w.cell? (ad.add (i.toNat * 6 + j)) = some u := hc0
  obtain ⟨A0, c0, A1, c1, A2, c2, A3, c3, rfl, l0, g0, l1, g1, l2, g2, l3, g3⟩ := k42_open hK
  exact ⟨ad, A0, c0, A1, c1, A2, c2, A3, c3, e, hc 0 _ rfl, by rw [← add_field _ _ 1 (by omega)]; exact hc 1 _ rfl, by rw [← add_field _ _ 2 (by omega)]; exact hc 2 _ rfl, by rw [← add_field _ _ 3 (by omega)]; exact hc 3 _ rfl, by rw [← add_field _ _ 4 (by omega)]; exact hc 4 _ rfl, by rw [← add_field _ _ 5 (by omega)]; exact hc 5 _ rfl, l0, g0, l1, g1, l2, g2, l3, g3⟩
structure S47 where
  f0 : (List ByteArray)
  f1 : (List ByteArray)
  f2 : (List ByteArray)
  f3 : (List ByteArray)
  f4 : ByteArray
  f5 : ByteArray
def z47 : S47 := ⟨([] : List ByteArray), ([] : List ByteArray), ([] : List ByteArray), ([] : List ByteArray), (⟨#[]⟩ : ByteArray), (⟨#[]⟩ : ByteArray)⟩
def k47 : Kd S47 := Kd.iso (Kd.pair (Kd.slice 9 Kd.string) (Kd.pair (Kd.slice 9 Kd.string) (Kd.pair (Kd.slice 9 Kd.string) (Kd.pair (Kd.slice 9 Kd.string) (Kd.pair Kd.string Kd.string))))) (fun x : S47 => (x.f0, x.f1, x.f2, x.f3, x.f4, x.f5))
theorem k47_open {w : World} {x : S47} {cs : List Value} (h : k47.K w x cs) : ∃ A0 c0 A1 c1 A2 c2 A3 c3, cs = [.slice A0 x.f0.length c0, .slice A1 x.f1.length c1, .slice A2 x.f2.length c2, .slice A3 x.f3.length c3, .string x.f4, .string x.f5] ∧ x.f0.length ≤ c0 ∧ Kd.string.C w A0 x.f0.length x.f0 ∧ x.f1.length ≤ c1 ∧ Kd.string.C w A1 x.f1.length x.f1 ∧ x.f2.length ≤ c2 ∧ Kd.string.C w A2 x.f2.length x.f2 ∧ x.f3.length ≤ c3 ∧ Kd.string.C w A3 x.f3.length x.f3 := by
  obtain ⟨_, _, rfl, ⟨A0, c0, rfl, l0, g0⟩, ⟨_, _, rfl, ⟨A1, c1, rfl, l1, g1⟩, ⟨_, _, rfl, ⟨A2, c2, rfl, l2, g2⟩, ⟨_, _, rfl, ⟨A3, c3, rfl, l3, g3⟩, ⟨_, _, rfl, rfl, rfl⟩⟩⟩⟩⟩ := h
  exact ⟨A0, c0, A1, c1, A2, c2, A3, c3, rfl, l0, g0, l1, g1, l2, g2, l3, g3⟩
theorem k47_mk (w : World) (x : S47) {A0 : Option Addr} {c0 : Nat} (l0 : x.f0.length ≤ c0) (g0 : Kd.string.C w A0 x.f0.length x.f0) {A1 : Option Addr} {c1 : Nat} (l1 : x.f1.length ≤ c1) (g1 : Kd.string.C w A1 x.f1.length x.f1) {A2 : Option Addr} {c2 : Nat} (l2 : x.f2.length ≤ c2) (g2 : Kd.string.C w A2 x.f2.length x.f2) {A3 : Option Addr} {c3 : Nat} (l3 : x.f3.length ≤ c3) (g3 : Kd.string.C w A3 x.f3.length x.f3) : k47.K w x [.slice A0 x.f0.length c0, .slice A1 x.f1.length c1, .slice A2 x.f2.length c2, .slice A3 x.f3.length c3, .string x.f4, .string x.f5] := ⟨[.slice A0 x.f0.length c0], [.slice A1 x.f1.length c1, .slice A2 x.f2.length c2, .slice A3 x.f3.length c3, .string x.f4, .string x.f5], rfl, ⟨A0, c0, rfl, l0, g0⟩, ⟨[.slice A1 x.f1.length c1], [.slice A2 x.f2.length c2, .slice A3 x.f3.length c3, .string x.f4, .string x.f5], rfl, ⟨A1, c1, rfl, l1, g1⟩, ⟨[.slice A2 x.f2.length c2], [.slice A3 x.f3.length c3, .string x.f4, .string x.f5], rfl, ⟨A2, c2, rfl, l2, g2⟩, ⟨[.slice A3 x.f3.length c3], [.string x.f4, .string x.f5], rfl, ⟨A3, c3, rfl, l3, g3⟩, ⟨[.string x.f4], [.string x.f5], rfl, rfl, rfl⟩⟩⟩⟩⟩
theorem k47_mkF (W : World) (ok : Nat → Prop) (x : S47) {A0 : Option Addr} {c0 : Nat} (l0 : x.f0.length ≤ c0) (g0 : Kd.F Kd.string W ok A0 x.f0.length x.f0) {A1 : Option Addr} {c1 : Nat} (l1 : x.f1.length ≤ c1) (g1 : Kd.F Kd.string W ok A1 x.f1.length x.f1) {A2 : Option Addr} {c2 : Nat} (l2 : x.f2.length ≤ c2) (g2 : Kd.F Kd.string W ok A2 x.f2.length x.f2) {A3 : Option Addr} {c3 : Nat} (l3 : x.f3.length ≤ c3) (g3 : Kd.F Kd.string W ok A3 x.f3.length x.f3) : Kd.FK k47 W ok x [.slice A0 x.f0.length c0, .slice A1 x.f1.length c1, .slice A2 x.f2.length c2, .slice A3 x.f3.length c3, .string x.f4, .string x.f5] := fun W2 hW => k47_mk W2 x l0 (g0 W2 hW) l1 (g1 W2 hW) l2 (g2 W2 hW) l3 (g3 W2 hW)
def rd_T47 (xs : List S47) (i : Int) : S47 := xs.getD i.toNat z47
theorem at_T47 {w : World} {A : Option Addr} {n : Nat} {xs : List S47} (h : Kd.C k47 w A n xs) (i : Int) (h0 : 0 ≤ i) (h1 : i < n) : ∃ ad A0 c0 A1 c1 A2 c2 A3 c3, A = some ad ∧ w.cell? (ad.add (i.toNat * 6)) = some (.slice A0 (rd_T47 xs i).f0.length c0) ∧ w.cell? ⟨(ad.add (i.toNat * 6)).block, (ad.add (i.toNat * 6)).off + 1, none⟩ = some (.slice A1 (rd_T47 xs i).f1.length c1) ∧ w.cell? ⟨(ad.add (i.toNat * 6)).block, (ad.add (i.toNat * 6)).off + 2, none⟩ = some (.slice A2 (rd_T47 xs i).f2.length c2) ∧ w.cell? ⟨(ad.add (i.toNat * 6)).block, (ad.add (i.toNat * 6)).off + 3, none⟩ = some (.slice A3 (rd_T47 xs i).f3.length c3) ∧ w.cell? ⟨(ad.add (i.toNat * 6)).block, (ad.add (i.toNat * 6)).off + 4, none⟩ = some (.string (rd_T47 xs i).f4) ∧ w.cell? ⟨(ad.add (i.toNat * 6)).block, (ad.add (i.toNat * 6)).off + 5, none⟩ = some (.string (rd_T47 xs i).f5) ∧ (rd_T47 xs i).f0.length ≤ c0 ∧ Kd.string.C w A0 (rd_T47 xs i).f0.length (rd_T47 xs i).f0 ∧ (rd_T47 xs i).f1.length ≤ c1 ∧ Kd.string.C w A1 (rd_T47 xs i).f1.length (rd_T47 xs i).f1 ∧ (rd_T47 xs i).f2.length ≤ c2 ∧ Kd.string.C w A2 (rd_T47 xs i).f2.length (rd_T47 xs i).f2 ∧ (rd_T47 xs i).f3.length ≤ c3 ∧ Kd.string.C w A3 (rd_T47 xs i).f3.length (rd_T47 xs i).f3 := by
  obtain ⟨ad, c, e, _, hK, hc0⟩ := Kd.C_get h z47 i h0 h1
  have hc : ∀ j u, c[j]? = some u → w.cell? (ad.add (i.toNat * 6 + j)) = some u := hc0
  obtain ⟨A0, c0, A1, c1, A2, c2, A3, c3, rfl, l0, g0, l1, g1, l2, g2, l3, g3⟩ := k47_open hK
  exact ⟨ad, A0, c0, A1, c1, A2, c2, A3, c3, e, hc 0 _ rfl, by rw [← add_field _ _ 1 (by omega)]; exact hc 1 _ rfl, by rw [← add_field _ _ 2 (by omega)]; exact hc 2 _ rfl, by rw [← add_field _ _ 3 (by omega)]; exact hc 3 _ rfl, by rw [← add_field _ _ 4 (by omega)]; exact hc 4 _ rfl, by rw [← add_field _ _ 5 (by omega)]; exact hc 5 _ rfl, l0, g0, l1, g1, l2, g2, l3, g3⟩
structure S72 where
  f0 : Bool
  f1 : ByteArray
  f2 : Int
def z72 : S72 := ⟨false, (⟨#[]⟩ : ByteArray), (0 : Int)⟩
def k72 : Kd S72 := Kd.iso (Kd.pair Kd.bool (Kd.pair Kd.string (Kd.int .i64))) (fun x : S72 => (x.f0, x.f1, x.f2))
theorem k72_mkM (w : World) (base : Nat) (ok : Nat → Prop) (x : S72)  : k72.M w base ok x [.bool x.f0, .string x.f1, .int .i64 x.f2] := ⟨[.bool x.f0], [.string x.f1, .int .i64 x.f2], rfl, rfl, ⟨[.string x.f1], [.int .i64 x.f2], rfl, rfl, rfl⟩⟩
end Go.Proofs.YtbjekebkgidhaaaGreatDoor.P
end
section
set_option linter.unusedSimpArgs false
set_option linter.unusedVariables false
namespace Go.Proofs.YtbjekebkgidhaaaGreatDoor.Mf
open Go.RowKit Go.Lib Go.Shelf Go.Proofs.YtbjekebkgidhaaaGreatDoorW.PrintWords Go.Proofs.YtbjekebkgidhaaaGreatDoor.U Go.Proofs.YtbjekebkgidhaaaGreatDoor.Sc Go.Proofs.YtbjekebkgidhaaaGreatDoor.P
set_option maxRecDepth 100000 in
set_option maxHeartbeats 2000000 in
theorem sign_any (t : Txt) (w : World) : Calls Tryz.prog 101 #[.string (B t)] w fun e w' => e = .returned (.bool (isSign t)) ∧ w = w' := by
  go_enter Tryz.func101, Tryz.ntmps101
  go_wp2
  all_goals
    go_ret
    exact ⟨by simp [isSign, *], rfl⟩
theorem str_at {w : World} {A : Option Addr} {ws : List Txt} (h : Kd.C Kd.string w A ws.length (ws.map B)) (i : Nat) (hi : i < ws.length) :
    ∃ ad, A = some ad ∧ w.cell? (ad.add i) = some (.string (B ws[i])) := by
  obtain ⟨ad, rfl, hcell⟩ := h.2.2 (by omega)
  obtain ⟨c, _, hK, hv⟩ := hcell i (B ws[i]) (by rw [List.getElem?_map, List.getElem?_eq_getElem hi]; rfl)
  have hK' : c = [.string (B ws[i])] := hK
  subst hK'
  refine ⟨ad, rfl, ?_⟩
  have := hv 0 (.string (B ws[i])) rfl
  rwa [show i * Kd.string.sz + 0 = i by show i * 1 + 0 = i; omega] at this
structure Rd (w : World) (b line : Nat) (L : List Lev) (v : Value) : Prop where
  lt : b < w.heap.size
  c0 : w.cell? ⟨b, 0, none⟩ = some v
  c4 : w.cell? ⟨b, 4, none⟩ = some (.int .i64 (line : Int))
  ch : Chain w L v
theorem Rd.below {w w' : World} {b line : Nat} {L : List Lev} {v : Value} (h : Rd w b line L v) (hb : Below w.heap.size w w') : Rd w' b line L v :=
  ⟨Nat.lt_of_lt_of_le h.lt hb.size, (hb.cell (p := ⟨b, 0, none⟩) h.lt).trans h.c0, (hb.cell (p := ⟨b, 4, none⟩) h.lt).trans h.c4, h.ch.below hb⟩
theorem Rd.below' {w w' : World} {n b line : Nat} {L : List Lev} {v : Value} (h : Rd w b line L v) (hb : Below n w w') (hn : n = w.heap.size) : Rd w' b line L v := h.below (hn ▸ hb)
def GivesL (r : Except Er (List Txt)) (w : World) (e : Ending) (w' : World) : Prop :=
  match r with
  | .ok l => ∃ v, e = .returned v ∧ w'.ownsRow w.heap.size 9 1 v l.length (l.map fun t => Value.string (B t)) ∧ Below w.heap.size w w'
  | .error x => e = wr x.1 x.2 ∧ Below w.heap.size w w'
theorem GivesL.fin {r : Except Er (List Txt)} {w w' : World} {l : List Txt} {v : Value} (h : r = .ok l) (ho : w'.ownsRow w.heap.size 9 1 v l.length (l.map fun t => Value.string (B t))) (hb : Below w.heap.size w w') : GivesL r w (.returned v) w' := by
  subst h; exact ⟨v, rfl, ho, hb⟩
theorem GivesL.bad {r : Except Er (List Txt)} {w w' : World} {l : Nat} {c : Int} (h : r = .error (l, c)) (hb : Below w.heap.size w w') : GivesL r w (wr l c) w' := by
  subst h; exact ⟨rfl, hb⟩
set_option maxRecDepth 100000 in
set_option maxHeartbeats 8000000 in
theorem paths_any (b line : Nat) (s : Lev) (v : Value) (A : Option Addr) (c : Nat) (ws : List Txt) (w : World) (hR : Rd w b line [s] v) (hT : ∀ k, (getL [s] k).length < 1000000000)
    (hW : Kd.C Kd.string w A ws.length (ws.map B)) (hn : ws.length ≤ 1000000) (hl : ∀ t ∈ ws, t.length < 1000000000) :
    Calls Tryz.prog 75 #[.pointer (some ⟨b, 0, none⟩), .slice A ws.length c] w (GivesL (pathsE line s.m [] ws) w) := by
  obtain ⟨R, hRes⟩ : ∃ R, pathsE line s.m [] ws = R := ⟨_, rfl⟩
  rw [hRes]
  have hE0 : Hid (pathsE line s.m [] (ws.drop 0) = R) := by rw [List.drop_zero]; exact hRes
  obtain ⟨n, hN⟩ : ∃ n, ws.length = n := ⟨_, rfl⟩
  have hNH := Lib.hid hN
  have hRH := Lib.hid hR
  have hWH := Lib.hid hW
  have hLH := Lib.hid hl
  have hTH := Lib.hid hT
  rw [hN] at hn ⊢
  clear hRes hN hR hW hl hT
  go_enter Tryz.func75, Tryz.ntmps75
  go_wp2_with fail
  go_loopg [5, 10] n (fun gk s5 s10 wr => ∃ (i : Nat) (acc : List Txt), s10 = .int .i64 (i : Int) ∧ i + gk = n ∧ acc.length ≤ i ∧ Hid (wr.ownsRow w.heap.size 9 1 s5 acc.length (acc.map fun t => Value.string (B t))) ∧ Hid (Below w.heap.size w wr) ∧ Hid (pathsE line s.m acc (ws.drop i) = R))
  case atStart => exact ⟨0, [], rfl, Nat.zero_add _, Nat.le_refl _, own_nil _ _ _ _, Below.refl _ _, hE0⟩
  case round =>
    obtain ⟨i, acc, rfl, hik, hacc, hO, hB, hE⟩ := hrel
    cases gk with
    | zero =>
      obtain rfl : i = n := by omega
      have hlt : decide ((i : Int) < (i : Int)) = false := by simp
      have hR1 : Hid (R = .ok acc) := by
        show R = _
        have := hE.out
        rw [List.drop_of_length_le (by rw [hNH.out]; omega)] at this
        exact this.symm
      go_wp2_with fail
      go_ret
      exact GivesL.fin hR1.out hO.out hB.out
    | succ gk =>
      have hin : i < ws.length := by rw [hNH.out]; omega
      have hlt : decide ((i : Int) < (n : Int)) = true := by rw [decide_eq_true_iff]; omega
      have i1 : (0 : Int) ≤ (i : Int) := by omega
      have i2 : (i : Int) < (n : Int) := by omega
      obtain ⟨ad, hA, hc⟩ := str_at hWH.out i hin
      subst hA
      have hcb := Lib.hid ((hB.out.cell (World.block_lt_of_cell? w _ hc)).trans hc)
      have hdrop : Hid (ws.drop i = ws[i] :: ws.drop (i + 1)) := List.drop_eq_getElem_cons hin
      have hxl := hLH.out ws[i] (List.getElem_mem hin)
      have hRd := Lib.hid (hRH.out.below' hB.out rfl)
      have hEx : Hid (R = match pathE line s.m ws[i] with | .error e => .error e | .ok p => pathsE line s.m (acc ++ [p]) (ws.drop (i + 1))) := by
        show R = _
        rw [← hE.out, hdrop.out, pathsE]
        try rfl
      clear hE hdrop hc
      generalize ws[i] = x at *
      have hcell := hcb.out
      have hS := Lib.hid (fun W => sign_any x W)
      cases hsg : isSign x with
      | true =>
        have hR1 : Hid (R = .error (line, 10)) := by show R = _; rw [hEx.out, pathE, if_pos hsg]
        rw [hsg] at hS
        clear hsg hEx
        go_wp2_with fail
        refine (hS.out _).mono ?_
        rintro e w1 ⟨rfl, rfl⟩
        go_wp2_with fail
        refine (need_no b line 10 _ hRd.out.c4).mono ?_
        rintro e w1 ⟨rfl, rfl⟩
        exact ⟨rfl, GivesL.bad hR1.out hB.out⟩
      | false =>
        have hX := Lib.hid (fun W (h : Rd W b line [s] v) => expanded_any b line [s] v x W h.c4 h.lt hxl hTH.out h.ch)
        have hEx1 : Hid (R = match expE line [s.m] x with | .error e => .error e | .ok t => match cleanE line t with | .error e => .error e | .ok p => pathsE line s.m (acc ++ [p]) (ws.drop (i + 1))) := by
          show R = _
          rw [hEx.out, pathE, if_neg (by rw [hsg]; decide)]
          cases expE line [s.m] x <;> rfl
        rw [hsg] at hS
        clear hsg hEx
        have hc0 := hRd.out.c0
        rw [show ([s].map (·.m)) = [s.m] from rfl] at hX
        go_wp2_with fail
        refine (hS.out _).mono ?_
        rintro e w1 ⟨rfl, rfl⟩
        go_wp2_with fail
        refine (need_ok _ _ _).mono ?_
        rintro e w1 ⟨rfl, rfl⟩
        go_wp2_with fail
        cases hex : expE line [s.m] x with
        | error er =>
          obtain ⟨l1, c1⟩ := er
          rw [hex] at hX hEx1
          refine (hX.out _ hRd.out).mono ?_
          rintro e w1 ⟨rfl, hb1⟩
          exact ⟨rfl, GivesL.bad hEx1.out (hB.out.trans (hb1.mono hB.out.size))⟩
        | ok t =>
          rw [hex] at hX hEx1
          refine (hX.out _ hRd.out).mono ?_
          rintro e w1 ⟨rfl, hb1⟩
          have hRd1 := Lib.hid (hRd.out.below hb1)
          have hB1 := Lib.hid (hB.out.trans (hb1.mono hB.out.size))
          have hO1 := Lib.hid (own_move hO.out fun k hk => hb1.block k (own_lt hO.out k hk))
          have hCl := Lib.hid (fun W (h : Rd W b line [s] v) => mclean_any b line t W h.c4 h.lt)
          clear hX hb1 hO hB hRd hS hc0 hcell hcb
          go_wp2_with fail
          cases hcl : cleanE line t with
          | error er =>
            obtain ⟨l1, c1⟩ := er
            rw [hcl] at hCl
            have hR1 : Hid (R = .error (l1, c1)) := by show R = _; rw [hEx1.out]; simp only [hcl]
            refine (hCl.out _ hRd1.out).mono ?_
            rintro e w2 ⟨rfl, hb2⟩
            exact ⟨rfl, GivesL.bad hR1.out (hB1.out.trans (hb2.mono hB1.out.size))⟩
          | ok p =>
            rw [hcl] at hCl
            have hE2 : Hid (pathsE line s.m (acc ++ [p]) (ws.drop (i + 1)) = R) := by show _ = R; rw [hEx1.out]; simp only [hcl]
            clear hcl hex hEx1
            refine (hCl.out _ hRd1.out).mono ?_
            rintro e w2 ⟨rfl, hb2⟩
            have hB2 := Lib.hid (hB1.out.trans (hb2.mono hB1.out.size))
            have hO2 := Lib.hid (own_move hO1.out fun k hk => hb2.block k (own_lt hO1.out k hk))
            clear hb2 hO1 hB1 hRd1 hCl
            go_wp2_with (at_builtin; go_loud (refine print_append_cells (w0 := w) (W := w2) w.heap.size rfl _ _ 23 9 (.string ⟨#[]⟩) 1 16 rfl Tryz.underlying23 infoStr rfl (by decide) (by decide) u5 (acc.length) _ [.string (B p)] rfl rfl rfl (by intro u hu; rw [List.mem_singleton.1 hu]; rfl) hO2.out hB2.out hB2.out.size (by omega) ?_))
            intro v1 w3 ho3 hb3 _ _
            have hO3 : Hid (w3.ownsRow w.heap.size 9 1 v1 (acc ++ [p]).length ((acc ++ [p]).map fun t => Value.string (B t))) := by
              show World.ownsRow ..
              rw [List.length_append, List.map_append]; exact ho3
            have hB3 := Lib.hid hb3
            clear ho3 hb3
            go_wp2_with fail
            go_roundg gk
            case measure => omega
            case rel => exact ⟨i + 1, acc ++ [p], by go_num, by omega, by rw [List.length_append]; simp; omega, hO3, hB3, hE2⟩
end Go.Proofs.YtbjekebkgidhaaaGreatDoor.Mf
end
section
set_option linter.unusedSimpArgs false
set_option linter.unusedVariables false
namespace Go.Proofs.YtbjekebkgidhaaaGreatDoor.Mf
open Go.RowKit Go.Lib Go.Shelf Go.Proofs.YtbjekebkgidhaaaGreatDoorW.PrintWords Go.Proofs.YtbjekebkgidhaaaGreatDoor.U Go.Proofs.YtbjekebkgidhaaaGreatDoor.Sc Go.Proofs.YtbjekebkgidhaaaGreatDoor.P
theorem trim_any (p : Txt) (hp : p.length ≤ 1000000000) (W : World) : Calls Tryz.prog 68 #[.string (B p), .string ⟨#[32]⟩] W fun e w' => e = .returned (.string (B (trimB p 32))) ∧ Below W.heap.size W w' :=
  (Tryz.strings_Trim_one (B p) 32 (by decide) W (by rw [size_B]; omega)).mono fun e w' ⟨h1, h2⟩ => ⟨h1, by
    rcases h2 with rfl | rfl
    · exact Below.refl _ _
    · exact (Below.refl _ _).drew⟩
theorem cutL_le (c : UInt8) (l : Txt) : (cutL c l).1.length ≤ l.length ∧ (cutL c l).2.1.length ≤ l.length := cutL_len c l
set_option maxRecDepth 100000 in
set_option maxHeartbeats 4000000 in
theorem set_any (b line : Nat) (L : List Lev) (v : Value) (text : Txt) (hl : text.length ≤ 1000000) (w : World) (hR : Rd w b line L v) :
    Calls Tryz.prog 41 #[.pointer (some ⟨b, 0, none⟩), .string (B text)] w (Gives (setE line text) (fun p => .tuple #[.string (B p.1), .string (B p.2)]) w) := by
  have hC := Lib.hid (fun W => cut_any 61 text (by omega) W)
  have hln := cutL_le 61 text
  have hS : Hid (setE line text = if (cutL 61 text).2.2 = true ∧ nameL (trimB (cutL 61 text).1 32) = true then .ok (trimB (cutL 61 text).1 32, Lib.trimLeftB (cutL 61 text).2.1 32) else .error (line, 10)) := rfl
  generalize setE line text = R at *
  generalize cutL 61 text = q at *
  obtain ⟨n0, v0, is⟩ := q
  simp only at hC hln hS
  have hT := Lib.hid (fun W => trim_any n0 (by omega) W)
  have hN := Lib.hid (fun W => Name_any (trimB n0 32) W)
  have hL := Lib.hid (fun W => Ln.TrimLeft_any 32 (by decide) v0 W)
  have hRH := Lib.hid hR
  have hbl := hR.lt
  clear hln hR
  have fin : ∀ bo : Bool, Hid (R = if bo = true then .ok (trimB n0 32, Lib.trimLeftB v0 32) else .error (line, 10)) → (is = true → nameL (trimB n0 32) = bo) → (is = false → bo = false) →
      Calls Tryz.prog 41 #[.pointer (some ⟨b, 0, none⟩), .string (B text)] w (Gives R (fun p => .tuple #[.string (B p.1), .string (B p.2)]) w) := by
    intro bo hR2 h1 h2
    have hR2H := Lib.hid hR2.out
    clear hS hR2
    cases is with
    | false =>
      have hbo := h2 rfl
      subst hbo
      have hR3 : Hid (R = .error (line, 10)) := by show R = _; rw [hR2H.out, if_neg (by decide)]
      clear h1 h2 hR2H
      go_enter Tryz.func41, Tryz.ntmps41
      go_wp2_with fail
      refine (hC.out _).mono ?_
      rintro e w1 ⟨rfl, hb1⟩
      have hR1 := Lib.hid (hRH.out.below hb1)
      have hB1 := Lib.hid hb1
      clear hb1
      go_wp2_with fail
      refine (hT.out _).mono ?_
      rintro e w2 ⟨rfl, hb2⟩
      have hR2 := Lib.hid (hR1.out.below hb2)
      have hB2 := Lib.hid (hB1.out.trans (hb2.mono hB1.out.size))
      clear hb2
      go_wp2_with fail
      refine (need_no b line 10 _ hR2.out.c4).mono ?_
      rintro e w3 ⟨rfl, rfl⟩
      exact ⟨rfl, Gives.bad hR3.out hB2.out⟩
    | true =>
      have hnb := h1 rfl
      rw [hnb] at hN
      clear h1 h2 hnb
      cases bo with
      | false =>
        have hR3 : Hid (R = .error (line, 10)) := by show R = _; rw [hR2H.out, if_neg (by decide)]
        clear hR2H
        go_enter Tryz.func41, Tryz.ntmps41
        go_wp2_with fail
        refine (hC.out _).mono ?_
        rintro e w1 ⟨rfl, hb1⟩
        have hR1 := Lib.hid (hRH.out.below hb1)
        have hB1 := Lib.hid hb1
        clear hb1
        go_wp2_with fail
        refine (hT.out _).mono ?_
        rintro e w2 ⟨rfl, hb2⟩
        have hR2 := Lib.hid (hR1.out.below hb2)
        have hB2 := Lib.hid (hB1.out.trans (hb2.mono hB1.out.size))
        clear hb2
        go_wp2_with fail
        refine (hN.out _).mono ?_
        rintro e w3 ⟨rfl, hb3⟩
        have hR3' := Lib.hid (hR2.out.below hb3)
        have hB3 := Lib.hid (hB2.out.trans (hb3.mono hB2.out.size))
        clear hb3
        go_wp2_with fail
        refine (need_no b line 10 _ hR3'.out.c4).mono ?_
        rintro e w4 ⟨rfl, rfl⟩
        exact ⟨rfl, Gives.bad hR3.out hB3.out⟩
      | true =>
        have hR3 : Hid (R = .ok (trimB n0 32, Lib.trimLeftB v0 32)) := by show R = _; rw [hR2H.out, if_pos rfl]
        clear hR2H
        go_enter Tryz.func41, Tryz.ntmps41
        go_wp2_with fail
        refine (hC.out _).mono ?_
        rintro e w1 ⟨rfl, hb1⟩
        have hB1 := Lib.hid hb1
        clear hb1
        go_wp2_with fail
        refine (hT.out _).mono ?_
        rintro e w2 ⟨rfl, hb2⟩
        have hB2 := Lib.hid (hB1.out.trans (hb2.mono hB1.out.size))
        clear hb2
        go_wp2_with fail
        refine (hN.out _).mono ?_
        rintro e w3 ⟨rfl, hb3⟩
        have hB3 := Lib.hid (hB2.out.trans (hb3.mono hB2.out.size))
        clear hb3
        go_wp2_with fail
        refine (need_ok _ _ _).mono ?_
        rintro e w4 ⟨rfl, rfl⟩
        go_wp2_with fail
        refine (hL.out _).mono ?_
        rintro e w5 ⟨rfl, rfl⟩
        go_wp2_with fail
        go_ret2
        exact Gives.fin hR3.out hB3.out
  refine fin (is && nameL (trimB n0 32)) ?_ ?_ ?_
  · show R = _
    rw [hS.out]
    simp only [Bool.and_eq_true]
  · rintro rfl; rfl
  · rintro rfl; rfl
end Go.Proofs.YtbjekebkgidhaaaGreatDoor.Mf
end
section
set_option linter.unusedSimpArgs false
set_option linter.unusedVariables false
namespace Go.Proofs.YtbjekebkgidhaaaGreatDoor.Mf
open Go.RowKit Go.Lib Go.Shelf Go.Proofs.YtbjekebkgidhaaaGreatDoorW.PrintWords Go.Proofs.YtbjekebkgidhaaaGreatDoor.U Go.Proofs.YtbjekebkgidhaaaGreatDoor.Sc Go.Proofs.YtbjekebkgidhaaaGreatDoor.P
theorem ahead_len (sg : Txt) (ws : List Txt) : (ahead sg ws).length ≤ ws.length := (List.takeWhile_sublist _).length_le
theorem ahead_take (sg : Txt) (ws : List Txt) : ws.take (ahead sg ws).length = ahead sg ws := by
  induction ws with
  | nil => rfl
  | cons x r ih =>
    unfold ahead at ih ⊢
    by_cases h : x = sg
    · simp [List.takeWhile_cons, h]
    · simp [List.takeWhile_cons, h, ih]
theorem behind_drop (sg : Txt) (ws : List Txt) : ws.drop ((ahead sg ws).length + 1) = behind sg ws := by
  induction ws with
  | nil => rfl
  | cons x r ih =>
    unfold ahead behind at ih ⊢
    by_cases h : x = sg
    · simp [List.takeWhile_cons, List.dropWhile_cons, h]
    · simp [List.takeWhile_cons, List.dropWhile_cons, h, ih]
theorem ahead_found (sg : Txt) (ws : List Txt) : (sg ∈ ws ∧ (ahead sg ws).length < ws.length ∧ ws[(ahead sg ws).length]? = some sg) ∨ (sg ∉ ws ∧ ahead sg ws = ws ∧ behind sg ws = []) := by
  induction ws with
  | nil => exact .inr ⟨by simp, rfl, rfl⟩
  | cons x r ih =>
    unfold ahead behind at ih ⊢
    by_cases h : x = sg
    · exact .inl ⟨by simp [h], by simp [List.takeWhile_cons, h], by simp [List.takeWhile_cons, h]⟩
    · rcases ih with ⟨h1, h2, h3⟩ | ⟨h1, h2, h3⟩
      · exact .inl ⟨by simp [h1], by simp [List.takeWhile_cons, h, h2], by simp [List.takeWhile_cons, h, h3]⟩
      · exact .inr ⟨by simp [h1, Ne.symm h], by simp [List.takeWhile_cons, h, h2], by simp [List.dropWhile_cons, h, h3]⟩
theorem ahead_no (sg : Txt) (ws : List Txt) : sg ∉ ahead sg ws := by
  induction ws with
  | nil => simp [ahead]
  | cons x r ih =>
    unfold ahead at ih ⊢
    by_cases h : x = sg
    · simp [List.takeWhile_cons, h]
    · simp [List.takeWhile_cons, h, ih, Ne.symm h]
theorem idx_found (sg : Txt) (ws : List Txt) (h : sg ∈ ws) : idxOfS (ws.map B) (B sg) = ((ahead sg ws).length : Int) := by
  rcases ahead_found sg ws with ⟨_, h2, h3⟩ | ⟨h1, _⟩
  · have := idxOfS_hit (ws.map B) (ws.map B).length (ahead sg ws).length (B sg) (by rw [List.length_map]; exact h2) (Nat.le_refl _) (by
      rw [List.getD_eq_getElem?_getD, List.getElem?_map, h3]; rfl) (fun j hj hE => by
      have hjl : j < ws.length := by omega
      rw [List.getD_eq_getElem?_getD, List.getElem?_map, List.getElem?_eq_getElem hjl] at hE
      have hE2 : ws[j] = sg := B_inj hE
      apply ahead_no sg ws
      rw [← ahead_take sg ws]
      exact List.mem_take_iff_getElem.2 ⟨j, by omega, hE2⟩)
    rw [List.take_length] at this
    exact this
  · exact absurd h h1
theorem idx_lost (sg : Txt) (ws : List Txt) (h : sg ∉ ws) : idxOfS (ws.map B) (B sg) = -1 := by
  have := idxOfS_miss (ws.map B) (ws.map B).length (B sg) (fun j hj hE => by
    rw [List.length_map] at hj
    rw [List.getD_eq_getElem?_getD, List.getElem?_map, List.getElem?_eq_getElem hj] at hE
    exact h (B_inj hE ▸ List.getElem_mem hj))
  rw [List.take_length] at this
  exact this
theorem C_take {w : World} {A : Option Addr} {ws : List Txt} (h : Kd.C Kd.string w A ws.length (ws.map B)) (k : Nat) (hk : k ≤ ws.length) : Kd.C Kd.string w A k ((ws.take k).map B) := by
  refine ⟨by simp; omega, by have := h.2.1; omega, fun hp => ?_⟩
  obtain ⟨ad, hA, hc⟩ := h.2.2 (by omega)
  refine ⟨ad, hA, fun j p hj => hc j p ?_⟩
  rw [List.map_take, List.getElem?_take] at hj
  split at hj
  · exact hj
  · cases hj
theorem C_drop {w : World} {ad : Addr} {ws : List Txt} (h : Kd.C Kd.string w (some ad) ws.length (ws.map B)) (k : Nat) : Kd.C Kd.string w (some (ad.add k)) (ws.length - k) ((ws.drop k).map B) := by
  refine ⟨by simp, by have := h.2.1; omega, fun hp => ?_⟩
  obtain ⟨ad', hA, hc⟩ := h.2.2 (by omega)
  obtain rfl := Option.some.inj hA
  refine ⟨ad.add k, rfl, fun j p hj => ?_⟩
  rw [List.map_drop, List.getElem?_drop] at hj
  obtain ⟨c, h1, h2, h3⟩ := hc (k + j) p hj
  refine ⟨c, h1, h2, fun i u hu => ?_⟩
  rw [Addr.add_add]
  have := h3 i u hu
  have e : Kd.string.sz = 1 := rfl
  rw [e] at this ⊢
  rw [show k + (j * 1 + i) = (k + j) * 1 + i from by omega]
  exact this
theorem C_nil (w : World) (A : Option Addr) : Kd.C Kd.string w A 0 (([] : List Txt).map B) := ⟨rfl, Nat.zero_le _, fun h => absurd h (Nat.lt_irrefl 0)⟩
theorem idx_any {w : World} {A : Option Addr} {ws : List Txt} (c : Nat) (h : Kd.C Kd.string w A ws.length (ws.map B)) (sg : Txt) :
    Calls Tryz.prog 100 #[.slice A ws.length c, .string (B sg)] w fun e w' => e = .returned (.int .i64 (idxOfS (ws.map B) (B sg))) ∧ w = w' := by
  cases hl : ws.length with
  | zero =>
    obtain rfl := List.length_eq_zero_iff.1 hl
    exact (Tryz.slices_Index_string_empty A c (B sg) w).mono fun e w' ⟨h1, h2⟩ => ⟨h1, h2.symm⟩
  | succ n =>
    rw [← hl]
    obtain ⟨ad, rfl, _⟩ := str_at h 0 (by omega)
    have hplain : ad = ⟨ad.block, ad.off, none⟩ := by
      obtain ⟨ad', hA, hc⟩ := str_at h 0 (by omega)
      obtain rfl := Option.some.inj hA
      rw [show ad.add 0 = ad from by simp [Addr.add]] at hc
      obtain ⟨b, o, s⟩ := ad
      cases s with
      | none => rfl
      | some s =>
        unfold World.cell? at hc
        simp only [Option.isSome_some, if_true] at hc
        split at hc <;> cases hc
    have := Tryz.slices_Index_string ad.block ad.off ws.length c (ws.map B) (B sg) w (by simp) (by have := h.2.1; omega) (fun j hj => by
      rw [List.length_map] at hj
      obtain ⟨ad', hA, hc⟩ := str_at h j hj
      obtain rfl := Option.some.inj hA
      rw [List.getD_eq_getElem?_getD, List.getElem?_map, List.getElem?_eq_getElem hj]
      show _ = some (Value.string (B ws[j]))
      rw [← hc]
      congr 1
      rw [hplain]
      unfold Addr.add
      by_cases h0 : j = 0
      · subst h0; rfl
      · simp [h0])
    rw [← hplain] at this
    refine this.mono fun e w' ⟨h1, h2⟩ => ⟨?_, h2.symm⟩
    rw [h1]
    rw [List.take_of_length_le (by simp)]
def CutAs (O R : List Txt) (w : World) (e : Ending) (w' : World) : Prop :=
  ∃ A1 c1 A2 c2, e = .returned (.tuple #[.slice A1 O.length c1, .slice A2 R.length c2]) ∧
    (O.length ≤ c1 ∧ Kd.C Kd.string w' A1 O.length (O.map B)) ∧ (R.length ≤ c2 ∧ Kd.C Kd.string w' A2 R.length (R.map B)) ∧ Below w.heap.size w w'
def CutPost (sg : Txt) (ws : List Txt) (w : World) (e : Ending) (w' : World) : Prop := CutAs (ahead sg ws) (behind sg ws) w e w'
set_option maxRecDepth 100000 in
set_option maxHeartbeats 4000000 in
theorem mcut_any (A : Option Addr) (c : Nat) (ws : List Txt) (sg : Txt) (w : World) (hC : Kd.C Kd.string w A ws.length (ws.map B)) (hc : ws.length ≤ c) (hn : ws.length ≤ 1000000) :
    Calls Tryz.prog 74 #[.slice A ws.length c, .string (B sg)] w (CutPost sg ws w) := by
  have hI := Lib.hid (idx_any c hC sg)
  by_cases hm : sg ∈ ws
  · have hx := idx_found sg ws hm
    rw [hx] at hI
    obtain ⟨hkl, hks⟩ : (ahead sg ws).length < ws.length ∧ ws[(ahead sg ws).length]? = some sg := by
      rcases ahead_found sg ws with ⟨_, h1, h2⟩ | ⟨h1, _⟩
      · exact ⟨h1, h2⟩
      · exact absurd hm h1
    obtain ⟨ad, rfl, hq0⟩ := str_at hC 0 (by omega)
    clear hq0
    have h1 := Lib.hid (C_take hC (ahead sg ws).length (by omega))
    have h2 := Lib.hid (C_drop hC ((ahead sg ws).length + 1))
    rw [ahead_take] at h1
    rw [behind_drop] at h2
    have hbl : ws.length - ((ahead sg ws).length + 1) = (behind sg ws).length := by rw [← behind_drop, List.length_drop]
    have hP : ∀ w' e A2 c2, e = .returned (.tuple #[.slice (some ad) (ahead sg ws).length c, .slice A2 (behind sg ws).length c2]) → (behind sg ws).length ≤ c2 → (0 < (behind sg ws).length → A2 = some (ad.add ((ahead sg ws).length + 1))) → Below w.heap.size w w' → CutPost sg ws w e w' := by
      intro w' e A2 c2 he hc2 hA hb
      refine ⟨some ad, c, A2, c2, he, ⟨by omega, Kd.C_below h1.out hb⟩, ⟨hc2, ?_⟩, hb⟩
      by_cases h0 : 0 < (behind sg ws).length
      · rw [hA h0, ← hbl]; exact Kd.C_below h2.out hb
      · have : behind sg ws = [] := List.length_eq_zero_iff.1 (by omega)
        rw [this]; exact C_nil _ _
    have hPH := Lib.hid hP
    clear hP hx hks hm h1 h2 hC
    generalize (ahead sg ws).length = k at *
    generalize (behind sg ws).length = m at *
    generalize ws.length = n at *
    have hneg : decide ((k : Int) < 0) = false := by rw [decide_eq_false_iff_not]; omega
    have hA2 : Hid (∀ x : Option Addr, x = some ⟨ad.block, ad.off + (k + 1), none⟩ → x = some (ad.add (k + 1))) := by
      intro x hx
      rw [hx]; unfold Addr.add; rw [if_neg (by omega)]
    by_cases hkc : k + 1 = c
    · have hm0 : m = 0 := by omega
      have hmH := Lib.hid hm0
      subst hm0
      go_enter Tryz.func74, Tryz.ntmps74
      go_wp2_with fail
      refine hI.out.mono ?_
      rintro e w' ⟨rfl, rfl⟩
      go_wp2_with fail
      go_quiet (fail)
      go_wp2_with fail
      go_ret2
      exact hPH.out _ _ _ _ rfl (Nat.zero_le _) (fun h => absurd h (Nat.lt_irrefl 0)) (pw_below_drewN (Below.refl _ _) _)
    · go_enter Tryz.func74, Tryz.ntmps74
      go_wp2_with fail
      refine hI.out.mono ?_
      rintro e w' ⟨rfl, rfl⟩
      go_wp2_with fail
      go_quiet (fail)
      go_wp2_with fail
      go_ret2
      exact hPH.out _ _ _ _ rfl (by omega) (fun _ => hA2.out _ rfl) (pw_below_drewN (Below.refl _ _) _)
  · have hx := idx_lost sg ws hm
    rw [hx] at hI
    obtain ⟨ha, hbh⟩ : ahead sg ws = ws ∧ behind sg ws = [] := by
      rcases ahead_found sg ws with ⟨h1, _⟩ | ⟨_, h1⟩
      · exact absurd h1 hm
      · exact h1
    have hP : Hid (CutPost sg ws w (.returned (.tuple #[.slice A ws.length c, .slice none 0 0])) w) := by
      refine ⟨A, c, none, 0, by rw [ha, hbh]; rfl, ⟨by rw [ha]; exact hc, by rw [ha]; exact hC⟩, ⟨by rw [hbh]; exact Nat.zero_le _, by rw [hbh]; exact C_nil _ _⟩, Below.refl _ _⟩
    clear hx ha hbh hm hC
    generalize ws.length = n at *
    go_enter Tryz.func74, Tryz.ntmps74
    go_wp2_with fail
    refine hI.out.mono ?_
    rintro e w' ⟨rfl, rfl⟩
    go_wp2_with fail
    go_ret2
    exact hP.out
end Go.Proofs.YtbjekebkgidhaaaGreatDoor.Mf
end
section
set_option linter.unusedSimpArgs false
set_option linter.unusedVariables false
namespace Go.Proofs.YtbjekebkgidhaaaGreatDoor.Mf
open Go.RowKit Go.Lib Go.Shelf Go.Proofs.YtbjekebkgidhaaaGreatDoorW.PrintWords Go.Proofs.YtbjekebkgidhaaaGreatDoor.U Go.Proofs.YtbjekebkgidhaaaGreatDoor.Sc Go.Proofs.YtbjekebkgidhaaaGreatDoor.P Go.Proofs.YtbjekebkgidhaaaGreatDoor.MapV
inductive Role where
  | still
  | reader
  | fmap
  | rmap
  | tmap (i : Nat)
  | omap (j : Nat)
  | edge (j : Nat)
  | erow
  | drow
deriving DecidableEq
abbrev at0 (b : Nat) : Value := .pointer (some ⟨b, 0, none⟩)
structure Mem where
  role : Nat → Role
  r : Nat
  fb : Nat
  fm : Nat
  rm : Nat
  rb : Nat → Nat
  tb : Nat → Nat
  eb : Nat → Nat
  sb : Nat → Nat
  mb : Nat → Nat
  e0 : Nat → Value
  e1 : Nat → Value
  e2 : Nat → Value
  e3 : Nat → Value
  ve : Value
  vd : Value
  line : Nat
  vi : Value
  vo : Value
  n : Nat
structure SlA (B0 : Nat) (w : World) (g : Mem) (v : Value) (l : List Txt) : Prop where
  own : w.ownsRow B0 9 1 v l.length (l.map fun t => Value.string (B t))
  rl : ∀ b, v.ownBlock = some b → g.role b = .still
structure RuleAt (w : World) (g : Mem) (i : Nat) (r : RuleS) : Prop where
  rr : g.role (g.rb i) = .still
  rt : g.role (g.tb i) = .tmap i
  hb : w.heap[g.rb i]? = some (.cells #[.map (some (g.tb i)), .int .i64 (r.line : Int)] 101 (0, 0))
  ht : OwnsM w (g.tb i) g.n r.texts
  nm : nameL r.name = true
  sh : Short 16384 r.texts
def few (l : List Txt) : Prop := l.length ≤ 20000 ∧ ∀ t ∈ l, t.length ≤ 100
structure EdgeAt (B0 : Nat) (w : World) (g : Mem) (nr : Nat) (j : Nat) (e : EdgeS) : Prop where
  re : g.role (g.eb j) = .edge j
  rs : g.role (g.sb j) = .still
  rm : g.role (g.mb j) = .omap j
  he : w.heap[g.eb j]? = some (.cells #[g.e0 j, g.e1 j, g.e2 j, g.e3 j, .string (B []), .string (B []), at0 (g.rb e.rule), at0 (g.sb j), .int .i64 (e.line : Int)] 103 (0, 0))
  hs : w.heap[g.sb j]? = some (.cells #[at0 g.fb, .map (some (g.mb j))] 91 (0, 0))
  hm : OwnsM w (g.mb j) g.n e.own
  lt : e.rule < nr
  s0 : SlA B0 w g (g.e0 j) e.outs
  s1 : SlA B0 w g (g.e1 j) e.ins
  s2 : SlA B0 w g (g.e2 j) e.imp
  s3 : SlA B0 w g (g.e3 j) e.ord
  sh : Short 16384 e.own
  f0 : few e.outs
  f1 : few e.ins
def InnAt (w : World) (g : Mem) (st : St) : Prop :=
  (st.inner = 0 ∧ g.vi = .nilFunc ∧ g.vo = .pointer none) ∨
  (st.inner = 1 ∧ 0 < st.rules.length ∧ g.vo = at0 (g.rb (st.rules.length - 1)) ∧ ∃ p q, g.vi = .func (.func 72) #[] #[at0 p, at0 q] ∧ g.role p = .still ∧ g.role q = .still ∧
    w.heap[p]? = some (.cells #[at0 g.r] 62 (0, 0)) ∧ w.heap[q]? = some (.cells #[at0 (g.rb (st.rules.length - 1))] 68 (0, 0))) ∨
  (st.inner = 2 ∧ 0 < st.edges.length ∧ g.vo = .pointer none ∧ ∃ p q, g.vi = .func (.func 76) #[] #[at0 p, at0 q] ∧ g.role p = .still ∧ g.role q = .still ∧
    w.heap[p]? = some (.cells #[at0 (g.eb (st.edges.length - 1))] 74 (0, 0)) ∧ w.heap[q]? = some (.cells #[at0 g.r] 62 (0, 0)))
structure Inv (B0 : Nat) (w : World) (g : Mem) (st : St) : Prop where
  base : B0 ≤ w.heap.size
  new : ∀ b, g.role b ≠ .still → B0 ≤ b
  rr : g.role g.r = .reader
  hr : w.heap[g.r]? = some (.cells #[at0 g.fb, .map (some g.rm), g.ve, g.vd, .int .i64 (g.line : Int), g.vi, g.vo] 70 (0, 0))
  rf : g.role g.fb = .still
  hf : w.heap[g.fb]? = some (.cells #[.pointer none, .map (some g.fm)] 91 (0, 0))
  rfm : g.role g.fm = .fmap
  mf : OwnsM w g.fm g.n st.file
  sf : Short 16384 st.file
  rrm : g.role g.rm = .rmap
  mr : OwnsV w g.rm g.n (fun k => (ruleAt st.rules k).map fun i => at0 (g.rb i))
  rules : ∀ i (h : i < st.rules.length), RuleAt w g i st.rules[i]
  edges : ∀ j (h : j < st.edges.length), EdgeAt B0 w g st.rules.length j st.edges[j]
  ne : st.edges.length ≤ 200
  oe : w.ownsRow B0 74 1 g.ve st.edges.length ((List.range st.edges.length).map fun j => at0 (g.eb j))
  roe : ∀ b, g.ve.ownBlock = some b → g.role b = .erow
  od : w.ownsRow B0 9 1 g.vd st.defs.length (st.defs.map fun t => Value.string (B t))
  rod : ∀ b, g.vd.ownBlock = some b → g.role b = .drow
  nd : st.defs.length ≤ 400000000
  inn : InnAt w g st
structure Grow (nr ne : Nat) (X : Role → Prop) (w w' : World) (g g' : Mem) : Prop where
  size : w.heap.size ≤ w'.heap.size
  same : ∀ b, b < w.heap.size → ¬ X (g.role b) → w'.heap[b]? = w.heap[b]?
  role : ∀ b, b < w.heap.size → g'.role b = g.role b
  fb : g'.fb = g.fb
  rb : ∀ i, i < nr → g'.rb i = g.rb i ∧ g'.tb i = g.tb i
  eb : ∀ j, j < ne → g'.eb j = g.eb j ∧ g'.sb j = g.sb j ∧ g'.mb j = g.mb j ∧ g'.e0 j = g.e0 j ∧ g'.e1 j = g.e1 j ∧ g'.e2 j = g.e2 j ∧ g'.e3 j = g.e3 j
  n : g.n ≤ g'.n
theorem lt_blk {w : World} {b : Nat} {o : Obj} (h : w.heap[b]? = some o) : b < w.heap.size := (Array.getElem?_eq_some_iff.1 h).1
section
variable {B0 nr ne : Nat} {w w' : World} {g g' : Mem} {st : St} {X : Role → Prop}
theorem Grow.mono {nr' ne' : Nat} {Y : Role → Prop} (k : Grow nr ne X w w' g g') (h1 : nr' ≤ nr) (h2 : ne' ≤ ne) (h3 : ∀ r, X r → Y r) : Grow nr' ne' Y w w' g g' :=
  ⟨k.size, fun b hb hx => k.same b hb (fun e => hx (h3 _ e)), k.role, k.fb, fun i hi => k.rb i (by omega), fun j hj => k.eb j (by omega), k.n⟩
theorem Grow.blk (k : Grow nr ne X w w' g g') {b : Nat} {o : Obj} {r : Role} (h : w.heap[b]? = some o) (hr : g.role b = r) (hx : ¬ X r) : w'.heap[b]? = some o :=
  (k.same b (lt_blk h) (by rw [hr]; exact hx)).trans h
theorem Grow.mapM (k : Grow nr ne X w w' g g') {b n : Nat} {m : MapL} {r : Role} (h : OwnsM w b n m) (hr : g.role b = r) (hx : ¬ X r) : OwnsM w' b n m :=
  h.same (k.same b h.lt (by rw [hr]; exact hx))
theorem Grow.mapV (k : Grow nr ne X w w' g g') {b n : Nat} {m : MapVal} {r : Role} (h : OwnsV w b n m) (hr : g.role b = r) (hx : ¬ X r) : OwnsV w' b n m :=
  h.same (k.same b h.lt (by rw [hr]; exact hx))
theorem Grow.row (k : Grow nr ne X w w' g g') {e size n : Nat} {v : Value} {xs : List Value} {r : Role} (h : w.ownsRow B0 e size v n xs) (hr : ∀ b, v.ownBlock = some b → g.role b = r) (hx : ¬ X r) : w'.ownsRow B0 e size v n xs :=
  own_move h fun b hb => k.same b (own_lt h b hb) (by rw [hr b hb]; exact hx)
theorem Grow.rolev (k : Grow nr ne X w w' g g') {e size n : Nat} {v : Value} {xs : List Value} {r : Role} (h : w.ownsRow B0 e size v n xs) (hr : ∀ b, v.ownBlock = some b → g.role b = r) : ∀ b, v.ownBlock = some b → g'.role b = r :=
  fun b hb => (k.role b (own_lt h b hb)).trans (hr b hb)
theorem Grow.roleb (k : Grow nr ne X w w' g g') {b : Nat} {o : Obj} {r : Role} (h : w.heap[b]? = some o) (hr : g.role b = r) : g'.role b = r := (k.role b (lt_blk h)).trans hr
theorem SlA.grow {v : Value} {l : List Txt} (h : SlA B0 w g v l) (k : Grow nr ne X w w' g g') (hx : ¬ X .still) : SlA B0 w' g' v l := ⟨k.row h.own h.rl hx, k.rolev h.own h.rl⟩
theorem RuleAt.grow {i : Nat} {r : RuleS} (h : RuleAt w g i r) (k : Grow nr ne X w w' g g') (hi : i < nr) (hx : ¬ X .still) (hy : ¬ X (.tmap i)) : RuleAt w' g' i r := by
  obtain ⟨e1, e2⟩ := k.rb i hi
  refine ⟨?_, ?_, ?_, ?_, h.nm, h.sh⟩
  · rw [e1]; exact k.roleb h.hb h.rr
  · rw [e2]; exact (k.role _ h.ht.lt).trans h.rt
  · rw [e1, e2]; exact k.blk h.hb h.rr hx
  · rw [e2]; exact (k.mapM h.ht h.rt hy).mono k.n
theorem EdgeAt.grow {nr' j : Nat} {e : EdgeS} (h : EdgeAt B0 w g nr j e) (k : Grow nr ne X w w' g g') (hj : j < ne) (hn : nr ≤ nr') (hx : ¬ X .still) (hy : ¬ X (.omap j)) (hz : ¬ X (.edge j)) : EdgeAt B0 w' g' nr' j e := by
  obtain ⟨e1, e2, e3, e4, e5, e6, e7⟩ := k.eb j hj
  obtain ⟨e8, _⟩ := k.rb e.rule h.lt
  refine ⟨?_, ?_, ?_, ?_, ?_, ?_, Nat.lt_of_lt_of_le h.lt hn, ?_, ?_, ?_, ?_, h.sh, h.f0, h.f1⟩
  · rw [e1]; exact k.roleb h.he h.re
  · rw [e2]; exact k.roleb h.hs h.rs
  · rw [e3]; exact (k.role _ h.hm.lt).trans h.rm
  · rw [e1, e2, e4, e5, e6, e7, e8]; exact k.blk h.he h.re hz
  · rw [e2, e3, k.fb]; exact k.blk h.hs h.rs hx
  · rw [e3]; exact (k.mapM h.hm h.rm hy).mono k.n
  · rw [e4]; exact h.s0.grow k hx
  · rw [e5]; exact h.s1.grow k hx
  · rw [e6]; exact h.s2.grow k hx
  · rw [e7]; exact h.s3.grow k hx
theorem InnAt.grow (h : InnAt w g st) (k : Grow st.rules.length st.edges.length X w w' g g') (hx : ¬ X .still) (h1 : g'.r = g.r) (h2 : g'.vi = g.vi) (h3 : g'.vo = g.vo) : InnAt w' g' st := by
  rcases h with ⟨a1, a2, a3⟩ | ⟨a1, a2, a3, p, q, a4, a5, a6, a7, a8⟩ | ⟨a1, a2, a3, p, q, a4, a5, a6, a7, a8⟩
  · exact .inl ⟨a1, h2.trans a2, h3.trans a3⟩
  · have e := (k.rb (st.rules.length - 1) (by omega)).1
    exact .inr (.inl ⟨a1, a2, by rw [h3, a3, e], p, q, h2.trans a4, k.roleb a7 a5, k.roleb a8 a6, by rw [h1]; exact k.blk a7 a5 hx, by rw [e]; exact k.blk a8 a6 hx⟩)
  · have e := (k.eb (st.edges.length - 1) (by omega)).1
    exact .inr (.inr ⟨a1, a2, h3.trans a3, p, q, h2.trans a4, k.roleb a7 a5, k.roleb a8 a6, by rw [e]; exact k.blk a7 a5 hx, by rw [h1]; exact k.blk a8 a6 hx⟩)
theorem Grow.of_below (h : Below w.heap.size w w') : Grow nr ne X w w' g g := ⟨h.size, fun b hb _ => h.block b hb, fun _ _ => rfl, rfl, fun _ _ => ⟨rfl, rfl⟩, fun _ _ => ⟨rfl, rfl, rfl, rfl, rfl, rfl, rfl⟩, Nat.le_refl _⟩
theorem Inv.below (h : Inv B0 w g st) (hb : Below w.heap.size w w') : Inv B0 w' g st := by
  have k : Grow st.rules.length st.edges.length (fun _ => False) w w' g g := Grow.of_below hb
  exact ⟨Nat.le_trans h.base k.size, h.new, h.rr, k.blk h.hr h.rr id, h.rf, k.blk h.hf h.rf id, h.rfm, k.mapM h.mf h.rfm id, h.sf, h.rrm, k.mapV h.mr h.rrm id, fun i hi => (h.rules i hi).grow k hi id id, fun j hj => (h.edges j hj).grow k hj (Nat.le_refl _) id id id, h.ne,
    k.row h.oe h.roe id, h.roe, k.row h.od h.rod id, h.rod, h.nd, h.inn.grow k id rfl rfl rfl⟩
theorem Inv.fchain (h : Inv B0 w g st) : Chain w [⟨g.fb, g.fm, g.n, st.file⟩] (at0 g.fb) := ⟨rfl, _, h.hf, h.mf, rfl⟩
theorem Inv.cell (h : Inv B0 w g st) (i : Nat) : w.cell? ⟨g.r, i, none⟩ = #[at0 g.fb, .map (some g.rm), g.ve, g.vd, .int .i64 (g.line : Int), g.vi, g.vo][i]? := by rw [cell_of_heap h.hr]
theorem Inv.nostr (h : Inv B0 w g st) (o : Nat) (s : ByteArray) : w.cell? ⟨g.r, o, none⟩ ≠ some (.string s) := by
  rw [h.cell o]
  intro e
  rcases o with _ | _ | _ | _ | _ | _ | _ | o
  · cases e
  · cases e
  · have e' : g.ve = .string s := Option.some.inj e
    rcases h.oe.2 with ⟨q, _⟩ | ⟨_, _, _, q, _⟩ <;> rw [q] at e' <;> cases e'
  · have e' : g.vd = .string s := Option.some.inj e
    rcases h.od.2 with ⟨q, _⟩ | ⟨_, _, _, q, _⟩ <;> rw [q] at e' <;> cases e'
  · cases e
  · have e' : g.vi = .string s := Option.some.inj e
    rcases h.inn with ⟨_, q, _⟩ | ⟨_, _, _, _, _, q, _⟩ | ⟨_, _, _, _, _, q, _⟩ <;> rw [q] at e' <;> cases e'
  · have e' : g.vo = .string s := Option.some.inj e
    rcases h.inn with ⟨_, _, q⟩ | ⟨_, _, q, _⟩ | ⟨_, _, q, _⟩ <;> rw [q] at e' <;> cases e'
  · simp at e
theorem Inv.free (h : Inv B0 w g st) (i : Nat) : w.frozen? ⟨g.r, i, none⟩ = false := frozen_of_heap h.hr i
theorem Inv.rd (h : Inv B0 w g st) : Rd w g.r g.line [⟨g.fb, g.fm, g.n, st.file⟩] (at0 g.fb) := ⟨lt_blk h.hr, h.cell 0, h.cell 4, h.fchain⟩
theorem Inv.getL (h : Inv B0 w g st) : ∀ k, (getL [⟨g.fb, g.fm, g.n, st.file⟩] k).length < 1000000000 := fun k =>
  Nat.lt_of_le_of_lt (getL_short (M := 16384) (fun s hs => by rw [List.mem_singleton.1 hs]; exact h.sf) k) (by decide)
theorem Inv.reader (h : Inv B0 w g st) (hs : w.heap.size ≤ w'.heap.size) (hk : ∀ b, b < w.heap.size → b ≠ g.r → w'.heap[b]? = w.heap[b]?) (vi vo : Value) (line : Nat) (inner : Nat)
    (hr : w'.heap[g.r]? = some (.cells #[at0 g.fb, .map (some g.rm), g.ve, g.vd, .int .i64 (line : Int), vi, vo] 70 (0, 0)))
    (hi : InnAt w' { g with line := line, vi := vi, vo := vo } { st with inner := inner }) : Inv B0 w' { g with line := line, vi := vi, vo := vo } { st with inner := inner } := by
  have k : Grow st.rules.length st.edges.length (fun r => r = .reader) w w' g { g with line := line, vi := vi, vo := vo } :=
    ⟨hs, fun b hb hx => hk b hb (fun e => hx (by rw [e]; exact h.rr)), fun _ _ => rfl, rfl, fun _ _ => ⟨rfl, rfl⟩, fun _ _ => ⟨rfl, rfl, rfl, rfl, rfl, rfl, rfl⟩, Nat.le_refl _⟩
  exact ⟨Nat.le_trans h.base hs, h.new, h.rr, hr, h.rf, k.blk h.hf h.rf (by simp), h.rfm, k.mapM h.mf h.rfm (by simp), h.sf, h.rrm, k.mapV h.mr h.rrm (by simp),
    fun i hi => (h.rules i hi).grow k hi (by simp) (by simp), fun j hj => (h.edges j hj).grow k hj (Nat.le_refl _) (by simp) (by simp) (by simp), h.ne, k.row h.oe h.roe (by simp), h.roe, k.row h.od h.rod (by simp), h.rod, h.nd, hi⟩
end
def Steps (B0 : Nat) (g : Mem) (r : Except Er St) (w : World) (e : Ending) (w' : World) : Prop :=
  match r with
  | .ok st => e = .returned (.tuple #[]) ∧ (∃ g', Inv B0 w' g' st ∧ g'.r = g.r ∧ g'.n ≤ g.n + 1) ∧ Below B0 w w'
  | .error x => e = wr x.1 x.2 ∧ Below B0 w w'
theorem Steps.fin {B0 : Nat} {g g' : Mem} {r : Except Er St} {w w' : World} {st : St} (h : r = .ok st) (hi : Inv B0 w' g' st) (hr : g'.r = g.r) (hn : g'.n ≤ g.n + 1) (hb : Below B0 w w') : Steps B0 g r w (.returned (.tuple #[])) w' := by
  subst h; exact ⟨rfl, ⟨g', hi, hr, hn⟩, hb⟩
theorem Steps.bad {B0 : Nat} {g : Mem} {r : Except Er St} {w w' : World} {l : Nat} {c : Int} (h : r = .error (l, c)) (hb : Below B0 w w') : Steps B0 g r w (wr l c) w' := by
  subst h; exact ⟨rfl, hb⟩
end Go.Proofs.YtbjekebkgidhaaaGreatDoor.Mf
end
section
set_option linter.unusedSimpArgs false
set_option linter.unusedVariables false
namespace Go.Proofs.YtbjekebkgidhaaaGreatDoor.Mf
open Go.RowKit Go.Lib Go.Shelf Go.Maps Go.WideMaps Go.WideElems Go.Proofs.YtbjekebkgidhaaaGreatDoorW.PrintWords Go.Proofs.YtbjekebkgidhaaaGreatDoor.U Go.Proofs.YtbjekebkgidhaaaGreatDoor.Sc Go.Proofs.YtbjekebkgidhaaaGreatDoor.P Go.Proofs.YtbjekebkgidhaaaGreatDoor.MapV
theorem look0 {w : World} {b n : Nat} {m : MapL} (h : OwnsM w b n m) (k : Txt) (hk : k.length ≤ maxLen) :
    (Instr.lookup 89 (.map (some b)) (.string (B k)) false).run Tryz.prog w = .ok (.string (B ((m k).getD []))) w := by
  obtain ⟨D, h, h1, h2⟩ := h
  have hkey : keyOf Tryz.prog 9 (.string (B k)) = some (.string k) := keyOf_string_mk Tryz.underlying9 (by rw [size_B]; exact hk)
  obtain ⟨v, ps, hrun, hv⟩ := h.lookup skeyed Tryz.underlying89 (szero w) (plainElem_string Tryz.underlying9 (by decide)) hkey
  obtain ⟨s, rfl, hs, _⟩ := plainElem_string_inv Tryz.underlying9 hv
  have hat := (Prod.mk.inj hs).1
  rw [hrun]
  have : s = B ((m k).getD []) := by
    cases hm : m k with
    | none =>
      show s = B []
      have hn : Maps.has D (.string k) = false := by rw [h1 k, hm]; rfl
      rw [Maps.atKey_of_not_has hn] at hat
      have : ([] : List UInt8) = s.data.toList := Lit.string.inj (DataW.lit.inj hat)
      have e := B_of s
      rw [← this] at e
      exact e
    | some t =>
      show s = B t
      rw [h2 k t hm] at hat
      have : t = s.data.toList := Lit.string.inj (DataW.lit.inj hat)
      have e := B_of s
      rw [← this] at e
      exact e
  rw [this]
theorem _root_.Go.Proofs.YtbjekebkgidhaaaGreatDoor.Sc.OwnsM.made_at {w : World} {b : Nat} (h : w.heap[b]? = some (.map #[] 0)) : OwnsM w b 0 none0 := by
  obtain ⟨D, ⟨es, clock, h1, h2⟩, r⟩ := OwnsM.made w
  have h3 := heap_alloc_new w (.map #[] 0)
  rw [h3] at h1
  obtain ⟨rfl, rfl⟩ : es = #[] ∧ clock = 0 := by
    have := Option.some.inj h1
    injection this with a b
    exact ⟨a.symm, b.symm⟩
  exact ⟨D, ⟨_, _, h, h2⟩, r⟩
theorem last_get {α : Type} (l : List α) (h : 0 < l.length) : l.getLast? = some (l[l.length - 1]'(by omega)) := by
  rw [List.getLast?_eq_getElem?, List.getElem?_eq_getElem (by omega)]
theorem Inv.shut {B0 : Nat} {w : World} {g : Mem} {st : St} (h : Inv B0 w g st) :
    Inv B0 ((w.setCell ⟨g.r, 6, none⟩ (.pointer none)).setCell ⟨g.r, 5, none⟩ .nilFunc) { g with line := g.line, vi := .nilFunc, vo := .pointer none } { st with inner := 0 } := by
  have h1 := blk_put h.hr 6 (.pointer none) rfl
  have h2 := blk_put h1 5 .nilFunc rfl
  exact h.reader (by simp) (fun b _ hb => by rw [Below.heap_setCell _ _ _ b hb, Below.heap_setCell _ _ _ b hb]) .nilFunc (.pointer none) g.line 0 h2 (.inl ⟨rfl, rfl, rfl⟩)
theorem below_set2 {B0 : Nat} {w : World} {g i j : Nat} {u v : Value} (hg : B0 ≤ g) : Below B0 w ((w.setCell ⟨g, i, none⟩ u).setCell ⟨g, j, none⟩ v) := ((Below.refl _ _).setCell hg _).setCell hg _
end Go.Proofs.YtbjekebkgidhaaaGreatDoor.Mf
end
section
set_option linter.unusedSimpArgs false
set_option linter.unusedVariables false
namespace Go.Proofs.YtbjekebkgidhaaaGreatDoor.RegG
open Go
section
variable {P : Program} {ops : Array Oper} {Q : Exit → Act → World → Prop} {md : Region.Mode} {S : World → Prop} {k : Nat}
def wpAnyG (P : Program) (md : Region.Mode) (ops : Array Oper) (Q : Exit → Act → World → Prop) (S : World → Prop) (k : Nat) : Nat → Array Bool → Act → World → Prop
  | 0, listed, a, w => Region.ready md ops listed = [] ∧ Q .normal a w
  | fuel + 1, listed, a, w =>
    (Region.ready md ops listed = [] → Q .normal a w) ∧
    ∀ i ∈ Region.ready md ops listed, wpOp P ops Q i (fun a' w' => ((listed.setIfInBounds i true).getD k true = false → S w') ∧ wpAnyG P md ops Q S k fuel (listed.setIfInBounds i true) a' w') a w
theorem wpAny_of_G : ∀ (fuel : Nat) (listed : Array Bool) (a : Act) (w : World), wpAnyG P md ops Q S k fuel listed a w → wpAny P md ops Q fuel listed a w
  | 0, _, _, _, h => h
  | fuel + 1, _, _, _, h => ⟨h.1, fun i hi => wpOp_mono (fun a' w' h' => wpAny_of_G fuel _ a' w' h'.2) (h.2 i hi)⟩
def waits (md : Region.Mode) (ops : Array Oper) (k i : Nat) : Bool :=
  match ops[k]? with
  | some o => o.after.any fun e => Region.binds md e && e.on == i
  | none => true
theorem not_ready {i : Nat} {listed : Array Bool} (hk : waits md ops k i = true) (hi : listed.getD i true = false) (hr : k ∈ Region.ready md ops listed) : False := by
  obtain ⟨_, o, ho, h⟩ := mem_ready.1 hr
  unfold waits at hk
  rw [ho] at hk
  simp only at hk
  rw [Array.any_eq_true] at hk
  obtain ⟨n, hn, hb⟩ := hk
  rw [Bool.and_eq_true] at hb
  have h1 := h _ (Array.getElem_mem hn) hb.1
  rw [eq_of_beq hb.2] at h1
  rcases Nat.lt_or_ge i listed.size with h' | h'
  · simp [h'] at hi h1; rw [hi] at h1; cases h1
  · simp [Array.getElem?_eq_none h'] at h1
theorem wpAnyG_first {i : Nat} {oi : Oper} {v : Value} {T : World → Prop} (hik : i ≠ k) (hi : ops[i]? = some oi) (hsel : ∀ (j : Nat) (o : Oper) cs b, ops[j]? = some o → o.op ≠ .select cs b)
    (hQ : ∀ c a w, Q (.panic c) (a.put oi.dst v) w → Q (.panic c) a w) (hT : (∀ w, T w) ∨ (waits md ops k i = true ∧ ∀ w, S w → T w)) :
    ∀ (fuel : Nat) (listed : Array Bool) (a : Act) (w : World),
      (∀ j oj, ops[j]? = some oj → j ≠ i → listed.getD j true = false → (∀ e ∈ oj.after, Region.binds md e = true → e.on ≠ i) → oi.apart ops oj = true) →
      i ∈ Region.ready md ops listed → YieldsIf P ops T oi v a → T w → ((∀ w, T w) ∨ listed.getD k true = false) → (listed.getD k true = false → S w) →
      wpAnyG P md ops Q S k fuel (listed.setIfInBounds i true) (a.put oi.dst v) w → wpAnyG P md ops Q S k (fuel + 1) listed a w := by
  have hset : ∀ (listed : Array Bool) (w : World), (listed.getD k true = false → S w) → ((listed.setIfInBounds i true).getD k true = false → S w) := fun listed w h hk => by
    rw [getD_set_ne true hik] at hk; exact h hk
  intro fuel
  induction fuel with
  | zero =>
    intro listed a w _ hr hy hTw hS1 hS H
    refine ⟨fun h => (by rw [h] at hr; cases hr), fun j hj => ?_⟩
    by_cases hji : j = i
    · subst hji; exact hy.wpOp hi hTw ⟨hset listed w hS, H⟩
    · have := ready_mono hj hji
      rw [H.1] at this
      cases this
  | succ fuel ih =>
    intro listed a w hfree hr hy hTw hS1 hS H
    refine ⟨fun h => (by rw [h] at hr; cases hr), fun j hj => ?_⟩
    by_cases hji : j = i
    · subst hji; exact hy.wpOp hi hTw ⟨hset listed w hS, H⟩
    · have h1 := H.2 j (ready_mono hj hji)
      obtain ⟨hjun, oj, hoj, hall⟩ := mem_ready.1 hj
      have hnot : ∀ e ∈ oj.after, Region.binds md e = true → e.on ≠ i := fun e he hb heq => by
        have h1 := hall e he hb
        have h0 := (mem_ready.1 hr).1
        rw [heq] at h1
        rcases Nat.lt_or_ge i listed.size with h' | h'
        · simp [h'] at h0 h1; rw [h0] at h1; cases h1
        · simp [Array.getElem?_eq_none h'] at h1
      have h2 := wpOp_putIf (S := T) hoj (hfree j oj hoj hji hjun hnot) (fun cs b => hsel i oi cs b hi) (fun cs b => hsel j oj cs b hoj) hQ hy h1
      have hfree' : ∀ k ok, ops[k]? = some ok → k ≠ i → (listed.setIfInBounds j true).getD k true = false →
          (∀ e ∈ ok.after, Region.binds md e = true → e.on ≠ i) → oi.apart ops ok = true := fun k ok hk hki hun hno => by
        refine hfree k ok hk hki ?_ hno
        by_cases hjk : j = k
        · subst hjk; exact hjun
        · rw [getD_set_ne true hjk] at hun; exact hun
      refine wpOp_mono (fun a' w' h3 => ?_) h2
      obtain ⟨h4, h5, h6⟩ := h3
      rw [Array.setIfInBounds_comm _ _ (Ne.symm hji)] at h5 h6
      have hS' : (listed.setIfInBounds j true).getD k true = false → S w' := fun hk => h5 (by rw [getD_set_ne true hik]; exact hk)
      have hS1' : (∀ w, T w) ∨ (listed.setIfInBounds j true).getD k true = false := by
        rcases hT with h' | ⟨hw, _⟩
        · exact .inl h'
        · rcases hS1 with h | h
          · exact .inl h
          · refine .inr ?_
            have hjk : j ≠ k := fun e => by subst e; exact not_ready hw (mem_ready.1 hr).1 hj
            rw [getD_set_ne true hjk]; exact h
      have hT' : T w' := by
        rcases hT with h' | ⟨_, h'⟩
        · exact h' w'
        · rcases hS1' with h | h
          · exact h w'
          · exact h' w' (hS' h)
      exact ⟨hS', ih (listed.setIfInBounds j true) a' w' hfree' (ready_mono hr (Ne.symm hji)) h4 hT' hS1' hS' h6⟩
theorem takeP {i : Nat} {oi : Oper} {v : Value} {fuel : Nat} {listed : Array Bool} {a : Act} {w : World} (hi : ops[i]? = some oi) (hik : (i != k) = true)
    (hs : Region.noSelect ops = true) (hf : Region.free md ops listed i = true) (hr : (Region.ready md ops listed).contains i = true)
    (hQ : ∀ c a w, Q (.panic c) (a.put oi.dst v) w → Q (.panic c) a w) (hy : Region.wanted oi (yielded ops a.tmps) = true) (hv : ∀ w, (execOp a.eval oi).run P w = .ok (.value v) w) (hS : listed.getD k true = false → S w)
    (h : wpAnyG P md ops Q S k fuel (listed.setIfInBounds i true) (a.put oi.dst v) w) : wpAnyG P md ops Q S k (fuel + 1) listed a w :=
  wpAnyG_first (T := fun _ => True) (by simpa using hik) hi (Region.noSelect_spec hs) hQ (.inl fun _ => trivial) fuel listed a w (Region.free_spec hi hf) (by simpa using hr) (.inl ⟨hy, fun w _ => hv w⟩) trivial (.inl fun _ => trivial) hS h
theorem takeS {i : Nat} {oi : Oper} {v : Value} {fuel : Nat} {listed : Array Bool} {a : Act} {w : World} (hi : ops[i]? = some oi) (hik : (i != k) = true) (hw : waits md ops k i = true) (hk : listed.getD k true = false)
    (hs : Region.noSelect ops = true) (hf : Region.free md ops listed i = true) (hr : (Region.ready md ops listed).contains i = true)
    (hQ : ∀ c a w, Q (.panic c) (a.put oi.dst v) w → Q (.panic c) a w) (hy : Region.wanted oi (yielded ops a.tmps) = true) (hv : ∀ w, S w → (execOp a.eval oi).run P w = .ok (.value v) w) (hS : S w)
    (h : wpAnyG P md ops Q S k fuel (listed.setIfInBounds i true) (a.put oi.dst v) w) : wpAnyG P md ops Q S k (fuel + 1) listed a w :=
  wpAnyG_first (T := S) (by simpa using hik) hi (Region.noSelect_spec hs) hQ (.inr ⟨hw, fun _ h => h⟩) fuel listed a w (Region.free_spec hi hf) (by simpa using hr) (.inl ⟨hy, hv⟩) hS (.inr hk) (fun _ => hS) h
def AllG (P : Program) (md : Region.Mode) (ops : Array Oper) (Q : Exit → Act → World → Prop) (S : World → Prop) (k fuel : Nat) (listed : Array Bool) (a : Act) (w : World) (rs : List Nat) : Prop :=
  ∀ i ∈ rs, wpOp P ops Q i (fun a' w' => ((listed.setIfInBounds i true).getD k true = false → S w') ∧ wpAnyG P md ops Q S k fuel (listed.setIfInBounds i true) a' w') a w
theorem AllG.nil {fuel : Nat} {listed : Array Bool} {a : Act} {w : World} : AllG P md ops Q S k fuel listed a w [] := fun _ h => by cases h
theorem AllG.cons {fuel : Nat} {listed : Array Bool} {a : Act} {w : World} {i : Nat} {o : Oper} {rs : List Nat} (ho : ops[i]? = some o)
    (h : ∀ K' : Act → World → Prop, Shut (∀ a w, S w → (S w → wpAnyG P md ops Q S k fuel (listed.setIfInBounds i true) a w) → K' a w) → if Region.wanted o (yielded ops a.tmps) = true then Oper.wp P o a w K' Q else K' (a.put o.dst undef) w)
    (hs : AllG P md ops Q S k fuel listed a w rs) : AllG P md ops Q S k fuel listed a w (i :: rs) := fun j hj => by
  rcases List.mem_cons.1 hj with rfl | hj
  · exact wpOp_step ho (fun K' hK => h K' (fun a w hS hW => hK a w ⟨fun _ => hS, hW hS⟩))
  · exact hs j hj
theorem AllG.last {fuel : Nat} {listed : Array Bool} {a : Act} {w : World} {i : Nat} {o : Oper} {rs : List Nat} (hk : (listed.setIfInBounds i true).getD k true = true) (ho : ops[i]? = some o)
    (h : ∀ K' : Act → World → Prop, Shut (∀ a w, wpAnyG P md ops Q S k fuel (listed.setIfInBounds i true) a w → K' a w) → if Region.wanted o (yielded ops a.tmps) = true then Oper.wp P o a w K' Q else K' (a.put o.dst undef) w)
    (hs : AllG P md ops Q S k fuel listed a w rs) : AllG P md ops Q S k fuel listed a w (i :: rs) := fun j hj => by
  rcases List.mem_cons.1 hj with rfl | hj
  · exact wpOp_step ho (fun K' hK => h K' (fun a w hW => hK a w ⟨fun e => (by rw [hk] at e; cases e), hW⟩))
  · exact hs j hj
theorem readyG {rs : List Nat} {fuel : Nat} {listed : Array Bool} {a : Act} {w : World} (hr : Region.ready md ops listed = rs) (hne : rs ≠ [])
    (h : AllG P md ops Q S k fuel listed a w rs) : wpAnyG P md ops Q S k (fuel + 1) listed a w := ⟨fun h0 => absurd (hr ▸ h0) hne, hr ▸ h⟩
theorem doneG {listed : Array Bool} {a : Act} {w : World} (hr : Region.ready md ops listed = []) (h : Q .normal a w) :
    ∀ fuel, wpAnyG P md ops Q S k fuel listed a w
  | 0 => ⟨hr, h⟩
  | _ + 1 => ⟨fun _ => h, by rw [hr]; simp⟩
theorem regionG {id : Nat} {a : Act} {w : World} (S : World → Prop) (k : Nat) (hm : P.follows .mixedOrders = true) (hS : S w.drew)
    (h : S w.drew → wpAnyG P .any ops Q S k ops.size (Array.replicate ops.size false) a w.drew) : (Code.region id ops true).wp P Q a w :=
  wp_region_any hm (wpAny_of_G _ _ _ _ (h hS))
end
end Go.Proofs.YtbjekebkgidhaaaGreatDoor.RegG
end
section
set_option linter.unusedSimpArgs false
set_option linter.unusedVariables false
namespace Go.Proofs.YtbjekebkgidhaaaGreatDoor.RegP
open Go Go.Proofs.YtbjekebkgidhaaaGreatDoor.RegG
def planOk (md : Region.Mode) (ops : Array Oper) (k : Nat) : List (Nat × Nat) → Array Bool → Bool
  | [], l => Region.ready md ops l == []
  | (t, i) :: r, l =>
    (match t with
    | 0 => (i != k) && Region.free md ops l i && (Region.ready md ops l).contains i
    | 1 => (i != k) && waits md ops k i && (l.getD k true == false) && Region.free md ops l i && (Region.ready md ops l).contains i
    | 2 => Region.ready md ops l == [i]
    | 3 => Region.ready md ops l == [i] && ((l.setIfInBounds i true).getD k true == true)
    | 4 => (i != k) && Region.free md ops l i && (Region.ready md ops l).contains i
    | _ => false) && planOk md ops k r (l.setIfInBounds i true)
section
variable {P : Program} {ops : Array Oper} {Q : Exit → Act → World → Prop} {S : World → Prop} {k : Nat}
def wpPlan (P : Program) (ops : Array Oper) (Q : Exit → Act → World → Prop) (S : World → Prop) : List (Nat × Nat) → Act → World → Prop
  | [], a, w => Q .normal a w
  | (t, i) :: r, a, w => ∃ o, ops[i]? = some o ∧
    match t with
    | 0 => ∃ v, (∀ c a w, Q (.panic c) (a.put o.dst v) w → Q (.panic c) a w) ∧ Region.wanted o (yielded ops a.tmps) = true ∧ (∀ w', (execOp a.eval o).run P w' = .ok (.value v) w') ∧ wpPlan P ops Q S r (a.put o.dst v) w
    | 1 => ∃ v, (∀ c a w, Q (.panic c) (a.put o.dst v) w → Q (.panic c) a w) ∧ Region.wanted o (yielded ops a.tmps) = true ∧ (∀ w', S w' → (execOp a.eval o).run P w' = .ok (.value v) w') ∧ wpPlan P ops Q S r (a.put o.dst v) w
    | 4 => (∀ c a w, Q (.panic c) (a.put o.dst undef) w → Q (.panic c) a w) ∧ Region.wanted o (yielded ops a.tmps) = false ∧ wpPlan P ops Q S r (a.put o.dst undef) w
    | 2 => ∀ K' : Act → World → Prop, Shut (∀ a w, S w → (S w → wpPlan P ops Q S r a w) → K' a w) → if Region.wanted o (yielded ops a.tmps) = true then Oper.wp P o a w K' Q else K' (a.put o.dst undef) w
    | _ => ∀ K' : Act → World → Prop, Shut (∀ a w, wpPlan P ops Q S r a w → K' a w) → if Region.wanted o (yielded ops a.tmps) = true then Oper.wp P o a w K' Q else K' (a.put o.dst undef) w
theorem any_of_plan (hs : Region.noSelect ops = true) : ∀ (plan : List (Nat × Nat)) (l : Array Bool) (a : Act) (w : World), planOk .any ops k plan l = true → (l.getD k true = false → S w) → wpPlan P ops Q S plan a w → wpAnyG P .any ops Q S k plan.length l a w
  | [], l, a, w, hok, _, h => doneG (by simpa [planOk] using hok) h _
  | (t, i) :: r, l, a, w, hok, hS, h => by
    obtain ⟨o, ho, h⟩ := h
    rcases t with _ | _ | _ | _ | _ | t
    · replace hok : (((i != k) && Region.free .any ops l i && (Region.ready .any ops l).contains i) && planOk .any ops k r (l.setIfInBounds i true)) = true := hok
      obtain ⟨h1, h2⟩ := Bool.and_eq_true_iff.1 hok
      simp only [Bool.and_eq_true] at h1
      obtain ⟨⟨e1, e2⟩, e3⟩ := h1
      obtain ⟨v, q1, q2, q3, q4⟩ := h
      have hik : i ≠ k := by simpa using e1
      exact takeP ho e1 hs e2 e3 q1 q2 q3 hS (any_of_plan hs r _ _ w h2 (fun e => hS (by rw [getD_set_ne true hik] at e; exact e)) q4)
    · replace hok : (((i != k) && waits .any ops k i && (l.getD k true == false) && Region.free .any ops l i && (Region.ready .any ops l).contains i) && planOk .any ops k r (l.setIfInBounds i true)) = true := hok
      obtain ⟨h1, h2⟩ := Bool.and_eq_true_iff.1 hok
      simp only [Bool.and_eq_true] at h1
      obtain ⟨⟨⟨⟨e1, e2⟩, e3⟩, e4⟩, e5⟩ := h1
      obtain ⟨v, q1, q2, q3, q4⟩ := h
      have hik : i ≠ k := by simpa using e1
      have hk : l.getD k true = false := by simpa using e3
      exact takeS ho e1 e2 hk hs e4 e5 q1 q2 q3 (hS hk) (any_of_plan hs r _ _ w h2 (fun e => hS hk) q4)
    · replace hok : ((Region.ready .any ops l == [i]) && planOk .any ops k r (l.setIfInBounds i true)) = true := hok
      obtain ⟨h1, h2⟩ := Bool.and_eq_true_iff.1 hok
      have hr : Region.ready .any ops l = [i] := eq_of_beq h1
      refine readyG hr (by simp) (AllG.cons ho (fun K' hK => ?_) AllG.nil)
      exact h K' (fun a w hS' hW => hK.out a w hS' (fun hS'' => any_of_plan hs r _ _ w h2 (fun _ => hS'') (hW hS'')))
    · replace hok : ((Region.ready .any ops l == [i] && ((l.setIfInBounds i true).getD k true == true)) && planOk .any ops k r (l.setIfInBounds i true)) = true := hok
      obtain ⟨h1, h2⟩ := Bool.and_eq_true_iff.1 hok
      simp only [Bool.and_eq_true] at h1
      obtain ⟨e1, e2⟩ := h1
      have hr : Region.ready .any ops l = [i] := eq_of_beq e1
      have hk : (l.setIfInBounds i true).getD k true = true := eq_of_beq e2
      refine readyG hr (by simp) (AllG.last hk ho (fun K' hK => ?_) AllG.nil)
      exact h K' (fun a w hW => hK.out a w (any_of_plan hs r _ _ w h2 (fun e => (by rw [hk] at e; cases e)) hW))
    · replace hok : (((i != k) && Region.free .any ops l i && (Region.ready .any ops l).contains i) && planOk .any ops k r (l.setIfInBounds i true)) = true := hok
      obtain ⟨h1, h2⟩ := Bool.and_eq_true_iff.1 hok
      simp only [Bool.and_eq_true] at h1
      obtain ⟨⟨e1, e2⟩, e3⟩ := h1
      obtain ⟨q1, q2, q4⟩ := h
      have hik : i ≠ k := by simpa using e1
      exact wpAnyG_first (v := undef) (T := fun _ => True) hik ho (Region.noSelect_spec hs) q1 (.inl fun _ => trivial) r.length l a w (Region.free_spec ho e2) (by simpa using e3) (.inr ⟨q2, rfl⟩) trivial (.inl fun _ => trivial) hS
        (any_of_plan hs r _ _ w h2 (fun e => hS (by rw [getD_set_ne true hik] at e; exact e)) q4)
    · replace hok : (false && planOk .any ops k r (l.setIfInBounds i true)) = true := hok
      simp at hok
theorem region {id : Nat} {a : Act} {w : World} (S : World → Prop) (k : Nat) (plan : List (Nat × Nat)) (hm : P.follows .mixedOrders = true) (hs : Region.noSelect ops = true) (hl : plan.length = ops.size) (hok : planOk .any ops k plan (Array.replicate ops.size false) = true)
    (hS : S w.drew) (h : wpPlan P ops Q S plan a w.drew) : (Code.region id ops true).wp P Q a w := by
  refine regionG S k hm hS fun hS' => ?_
  rw [← hl]
  rw [← hl] at hok
  exact any_of_plan hs plan _ a _ hok (fun _ => hS') h
theorem pure1 {i : Nat} {r : List (Nat × Nat)} {a : Act} {w : World} {o : Oper} {v : Value} (ho : ops[i]? = some o) (hQ : ∀ c a w, Q (.panic c) (a.put o.dst v) w → Q (.panic c) a w) (hw : Region.wanted o (yielded ops a.tmps) = true)
    (hv : ∀ w', (execOp a.eval o).run P w' = .ok (.value v) w') (h : wpPlan P ops Q S r (a.put o.dst v) w) : wpPlan P ops Q S ((0, i) :: r) a w := ⟨o, ho, v, hQ, hw, hv, h⟩
theorem held1 {i : Nat} {r : List (Nat × Nat)} {a : Act} {w : World} {o : Oper} {v : Value} (ho : ops[i]? = some o) (hQ : ∀ c a w, Q (.panic c) (a.put o.dst v) w → Q (.panic c) a w) (hw : Region.wanted o (yielded ops a.tmps) = true)
    (hv : ∀ w', S w' → (execOp a.eval o).run P w' = .ok (.value v) w') (h : wpPlan P ops Q S r (a.put o.dst v) w) : wpPlan P ops Q S ((1, i) :: r) a w := ⟨o, ho, v, hQ, hw, hv, h⟩
theorem skip1 {i : Nat} {r : List (Nat × Nat)} {a : Act} {w : World} {o : Oper} (ho : ops[i]? = some o) (hQ : ∀ c a w, Q (.panic c) (a.put o.dst undef) w → Q (.panic c) a w) (hw : Region.wanted o (yielded ops a.tmps) = false)
    (h : wpPlan P ops Q S r (a.put o.dst undef) w) : wpPlan P ops Q S ((4, i) :: r) a w := ⟨o, ho, hQ, hw, h⟩
theorem done1 {a : Act} {w : World} (h : Q .normal a w) : wpPlan P ops Q S [] a w := h
theorem ev1 {i : Nat} {r : List (Nat × Nat)} {a : Act} {w : World} {o : Oper} (ho : ops[i]? = some o)
    (h : ∀ K' : Act → World → Prop, Shut (∀ a w, S w → (S w → wpPlan P ops Q S r a w) → K' a w) → if Region.wanted o (yielded ops a.tmps) = true then Oper.wp P o a w K' Q else K' (a.put o.dst undef) w) : wpPlan P ops Q S ((2, i) :: r) a w := ⟨o, ho, h⟩
theorem last1 {i : Nat} {r : List (Nat × Nat)} {a : Act} {w : World} {o : Oper} (ho : ops[i]? = some o)
    (h : ∀ K' : Act → World → Prop, Shut (∀ a w, wpPlan P ops Q S r a w → K' a w) → if Region.wanted o (yielded ops a.tmps) = true then Oper.wp P o a w K' Q else K' (a.put o.dst undef) w) : wpPlan P ops Q S ((3, i) :: r) a w := ⟨o, ho, h⟩
def planOkH (md : Region.Mode) (ops : Array Oper) : List (Nat × Nat) → Array Bool → Bool
  | [], l => Region.ready md ops l == []
  | (t, i) :: r, l =>
    (match t with
    | 0 => Region.free md ops l i && (Region.ready md ops l).contains i
    | 1 => Region.free md ops l i && (Region.ready md ops l).contains i
    | 2 => Region.ready md ops l == [i]
    | 4 => Region.free md ops l i && (Region.ready md ops l).contains i
    | _ => false) && planOkH md ops r (l.setIfInBounds i true)
theorem any_of_planH (hs : Region.noSelect ops = true) : ∀ (plan : List (Nat × Nat)) (l : Array Bool) (a : Act) (w : World), planOkH .any ops plan l = true → S w → wpPlan P ops Q S plan a w → wpAnyH P .any ops Q S plan.length l a w
  | [], l, a, w, hok, _, h => wpAnyH_done (by simpa [planOkH] using hok) h _
  | (t, i) :: r, l, a, w, hok, hS, h => by
    obtain ⟨o, ho, h⟩ := h
    rcases t with _ | _ | _ | _ | _ | t
    · replace hok : ((Region.free .any ops l i && (Region.ready .any ops l).contains i) && planOkH .any ops r (l.setIfInBounds i true)) = true := hok
      obtain ⟨h1, h2⟩ := Bool.and_eq_true_iff.1 hok
      obtain ⟨e2, e3⟩ := Bool.and_eq_true_iff.1 h1
      obtain ⟨v, q1, q2, q3, q4⟩ := h
      exact wpAnyH_take ho hs e2 e3 q1 (.inl ⟨q2, fun w' _ => q3 w'⟩) hS (any_of_planH hs r _ _ w h2 hS q4)
    · replace hok : ((Region.free .any ops l i && (Region.ready .any ops l).contains i) && planOkH .any ops r (l.setIfInBounds i true)) = true := hok
      obtain ⟨h1, h2⟩ := Bool.and_eq_true_iff.1 hok
      obtain ⟨e2, e3⟩ := Bool.and_eq_true_iff.1 h1
      obtain ⟨v, q1, q2, q3, q4⟩ := h
      exact wpAnyH_take ho hs e2 e3 q1 (.inl ⟨q2, q3⟩) hS (any_of_planH hs r _ _ w h2 hS q4)
    · replace hok : ((Region.ready .any ops l == [i]) && planOkH .any ops r (l.setIfInBounds i true)) = true := hok
      obtain ⟨h1, h2⟩ := Bool.and_eq_true_iff.1 hok
      have hr : Region.ready .any ops l = [i] := eq_of_beq h1
      refine wpAnyH_ready hr (by simp) (AllReadyH.cons ho (fun K' hK => ?_) AllReadyH.nil)
      exact h K' (fun a w hS' hW => hK.out a w hS' (fun hS'' => any_of_planH hs r _ _ w h2 hS'' (hW hS'')))
    · replace hok : (false && planOkH .any ops r (l.setIfInBounds i true)) = true := hok
      simp at hok
    · replace hok : ((Region.free .any ops l i && (Region.ready .any ops l).contains i) && planOkH .any ops r (l.setIfInBounds i true)) = true := hok
      obtain ⟨h1, h2⟩ := Bool.and_eq_true_iff.1 hok
      obtain ⟨e2, e3⟩ := Bool.and_eq_true_iff.1 h1
      obtain ⟨q1, q2, q4⟩ := h
      exact wpAnyH_take (v := undef) ho hs e2 e3 q1 (.inr ⟨q2, rfl⟩) hS (any_of_planH hs r _ _ w h2 hS q4)
    · replace hok : (false && planOkH .any ops r (l.setIfInBounds i true)) = true := hok
      simp at hok
theorem regionH {id : Nat} {a : Act} {w : World} (S : World → Prop) (plan : List (Nat × Nat)) (hm : P.follows .mixedOrders = true) (hs : Region.noSelect ops = true) (hl : plan.length = ops.size) (hok : planOkH .any ops plan (Array.replicate ops.size false) = true)
    (hS : S w.drew) (h : wpPlan P ops Q S plan a w.drew) : (Code.region id ops true).wp P Q a w := by
  refine wp_region_held_drew hm hS fun hS' => ?_
  rw [← hl]
  rw [← hl] at hok
  exact any_of_planH hs plan _ a _ hok hS' h
end
end Go.Proofs.YtbjekebkgidhaaaGreatDoor.RegP
end
section
set_option linter.unusedSimpArgs false
set_option linter.unusedVariables false
namespace Go.Proofs.YtbjekebkgidhaaaGreatDoor.Mf
open Go.RowKit Go.Lib Go.Shelf Go.Proofs.YtbjekebkgidhaaaGreatDoorW.PrintWords Go.Proofs.YtbjekebkgidhaaaGreatDoor.U Go.Proofs.YtbjekebkgidhaaaGreatDoor.Sc Go.Proofs.YtbjekebkgidhaaaGreatDoor.P Go.Proofs.YtbjekebkgidhaaaGreatDoor.MapV
abbrev strs (l : List Txt) : List Value := l.map fun t => Value.string (B t)
theorem reps_str2 {R : ByteArray → List Value → Prop} (hR : ∀ x c, R x c → c = [Value.string x]) : ∀ (ps : List ByteArray) (cs : List Value), Reps R 1 ps cs → cs = ps.map Value.string := by
  intro ps cs h
  refine List.ext_getElem? fun j => ?_
  have hl := h.1
  rw [Nat.mul_one] at hl
  by_cases hj : j < ps.length
  · have h1 := hR _ _ (h.2 j _ (List.getElem?_eq_getElem hj))
    rw [Nat.mul_one] at h1
    have h2 : ((cs.drop j).take 1)[0]? = some (.string ps[j]) := by rw [h1]; rfl
    rw [List.getElem?_take_of_lt (by omega), List.getElem?_drop, Nat.add_zero] at h2
    rw [h2, List.getElem?_map, List.getElem?_eq_getElem hj]; rfl
  · rw [List.getElem?_eq_none (by omega), List.getElem?_eq_none (by simp; omega)]
theorem R_of_strs {w : World} {base : Nat} {v : Value} {l : List Txt} (h : w.ownsRow base 9 1 v l.length (strs l)) : Kd.R Kd.string 9 w base (fun _ => True) v (l.map B) :=
  Kd.R_of_own (enc := Value.string) (by simpa [encs, Function.comp_def] using h) (fun _ _ => trivial)
theorem strs_of_R {w : World} {base : Nat} {v : Value} {l : List Txt} (h : Kd.R Kd.string 9 w base (fun _ => True) v (l.map B)) : w.ownsRow base 9 1 v l.length (strs l) := by
  obtain ⟨_, inner, hown, hreps⟩ := h
  have hin := reps_str2 (fun _ _ h => h) _ _ hreps
  rw [hin, List.length_map, List.map_map] at hown
  exact hown
theorem own_slice {w : World} {base : Nat} {v : Value} {l : List Txt} (h : w.ownsRow base 9 1 v l.length (strs l)) :
    ∃ A c, v = .slice A l.length c ∧ l.length ≤ c ∧ Kd.C Kd.string w A l.length (l.map B) := by
  have hR := R_of_strs h
  obtain ⟨A, c, e⟩ := Kd.R_slice hR
  subst e
  have h1 := Kd.R_reads' hR
  refine ⟨A, c, by rw [List.length_map], by have := h1.2.1; simpa using this, ?_⟩
  have := h1.2.2
  simpa using this
section
variable {P : Program} {ops : Array Oper} {o : Oper} {a : Act} {Q : Exit → Act → World → Prop} {Kc : Act → World → Prop}
theorem step_strs {w0 W : World} (base : Nat) (hw : Region.wanted o (yielded ops a.tmps) = true) (s x : Operand)
    (ho : o.op = .call { callee := .builtin .append, args := #[s, x], argTypes := #[23, 23] })
    (v : Value) (xs ys : List Txt) (A : Option Addr) (c : Nat) (hs : a.eval s = v) (hx : a.eval x = .slice A ys.length c)
    (HO : W.ownsRow base 9 1 v xs.length (strs xs)) (HR : Kd.C Kd.string W A ys.length (ys.map B)) (HB : Below base w0 W) (hbase : base ≤ W.heap.size) (hl : (xs.length + ys.length) * 16 ≤ 140737488355328)
    (h : ∀ v1 w1, w1.ownsRow base 9 1 v1 (xs ++ ys).length (strs (xs ++ ys)) → Below base w0 w1 → W.grownBy w1 v.ownBlock → (v1.ownBlock = v.ownBlock ∨ ∃ b, v1.ownBlock = some b ∧ W.heap.size ≤ b) → Kc (a.put o.dst v1) w1) :
    if Region.wanted o (yielded ops a.tmps) = true then Oper.wp Tryz.prog o a W Kc Q else Kc (a.put o.dst undef) W := by
  refine Kd.R_append_rows_step Kd.string (w0 := w0) base hw s x 23 9 (.string ⟨#[]⟩) 16 ho Tryz.underlying23 infoStr rfl (by decide) (by decide) v (xs.map B) (ys.map B) A ys.length c (fun _ => True) (fun _ => False) hs hx (R_of_strs HO) HR (fun _ _ h => h) (fun _ h => h.elim) (fun _ _ => trivial) HB hbase (by rw [List.length_map]; exact hl) ?_
  intro v1 w1 hR hb hg ha
  exact h v1 w1 (strs_of_R (by rw [List.map_append]; exact hR)) hb hg ha
end
theorem Inv.defs {B0 : Nat} {w w1 : World} {g : Mem} {st : St} (h : Inv B0 w g st) (v1 : Value) (d : List Txt) (hd : (st.defs ++ d).length ≤ 400000000)
    (ho : w1.ownsRow B0 9 1 v1 (st.defs ++ d).length (strs (st.defs ++ d))) (hg : w.grownBy w1 g.vd.ownBlock) (ha : v1.ownBlock = g.vd.ownBlock ∨ ∃ b, v1.ownBlock = some b ∧ w.heap.size ≤ b) :
    ∃ g', Inv B0 (w1.setCell ⟨g.r, 3, none⟩ v1) g' { st with defs := st.defs ++ d } ∧ g'.r = g.r ∧ g'.n = g.n ∧ w1.cell? ⟨g.r, 3, none⟩ = some g.vd ∧ w1.frozen? ⟨g.r, 3, none⟩ = false := by
  have hrb : ∀ b, g.vd.ownBlock = some b → b < w.heap.size := fun b hb => own_lt h.od b hb
  let g' : Mem := { g with vd := v1, role := fun b => if b < w.heap.size then g.role b else if v1.ownBlock = some b then .drow else .still }
  have hrl : ∀ b, b < w.heap.size → g'.role b = g.role b := fun b hb => by show (if b < w.heap.size then _ else _) = _; rw [if_pos hb]
  have hne : some g.r ≠ g.vd.ownBlock := fun e => by have := h.rod g.r e.symm; rw [h.rr] at this; cases this
  have hr1 : w1.heap[g.r]? = some (.cells #[at0 g.fb, .map (some g.rm), g.ve, g.vd, .int .i64 (g.line : Int), g.vi, g.vo] 70 (0, 0)) := (hg.block _ (lt_blk h.hr) hne).trans h.hr
  have k : Grow st.rules.length st.edges.length (fun r => r = .reader ∨ r = .drow) w (w1.setCell ⟨g.r, 3, none⟩ v1) g g' := by
    refine ⟨by rw [World.size_setCell]; exact hg.size, fun b hb hx => ?_, hrl, rfl, fun _ _ => ⟨rfl, rfl⟩, fun _ _ => ⟨rfl, rfl, rfl, rfl, rfl, rfl, rfl⟩, Nat.le_refl _⟩
    have h1 : b ≠ g.r := fun e => hx (.inl (by rw [e]; exact h.rr))
    rw [Below.heap_setCell _ _ _ b h1]
    refine hg.block b hb (fun e => hx (.inr (h.rod b e.symm)))
  have hsz : v1.ownBlock ≠ some g.r := by
    intro e
    rcases ha with ha | ⟨b, hb, hb2⟩
    · exact hne (by rw [← ha, e])
    · rw [hb] at e
      injection e with e
      have := lt_blk h.hr
      omega
  refine ⟨g', ⟨?_, ?_, ?_, ?_, ?_, k.blk h.hf h.rf (by simp), ?_, k.mapM h.mf h.rfm (by simp), h.sf, ?_, k.mapV h.mr h.rrm (by simp), fun i hi => (h.rules i hi).grow k hi (by simp) (by simp), fun j hj => (h.edges j hj).grow k hj (Nat.le_refl _) (by simp) (by simp) (by simp), h.ne,
    k.row h.oe h.roe (by simp), k.rolev h.oe h.roe, ?_, ?_, hd, h.inn.grow k (by simp) rfl rfl rfl⟩, rfl, rfl, by rw [cell_of_heap hr1]; rfl, frozen_of_heap hr1 3⟩
  · rw [World.size_setCell]; exact Nat.le_trans h.base hg.size
  · intro b hb
    by_cases hlt : b < w.heap.size
    · rw [hrl b hlt] at hb; exact h.new b hb
    · have := h.base; omega
  · rw [hrl _ (lt_blk h.hr)]; exact h.rr
  · exact blk_put hr1 3 v1 rfl
  · exact k.roleb h.hf h.rf
  · exact (k.role _ h.mf.lt).trans h.rfm
  · exact (k.role _ h.mr.lt).trans h.rrm
  · exact own_move ho fun b hb => Below.heap_setCell _ _ _ b (fun e => hsz (by rw [hb, e]))
  · intro b hb
    rcases ha with ha | ⟨b', hb', hb2⟩
    · have hb3 : g.vd.ownBlock = some b := by rw [← ha]; exact hb
      rw [hrl b (hrb b hb3)]; exact h.rod b hb3
    · have : b = b' := by rw [show v1.ownBlock = some b from hb] at hb'; injection hb'
      subst this
      show (if b < w.heap.size then _ else _) = _
      rw [if_neg (by omega), if_pos hb]
set_option maxRecDepth 100000 in
set_option maxHeartbeats 8000000 in
theorem targets_any (B0 : Nat) (g : Mem) (st : St) (A : Option Addr) (c : Nat) (ws : List Txt) (w : World) (hI : Inv B0 w g st) (hin : st.inner = 0)
    (hW : Kd.C Kd.string w A ws.length (ws.map B)) (hc : ws.length ≤ c) (hn : ws.length ≤ 20000) (hl : ∀ t ∈ ws, t.length < 1000000000) (hd : st.defs.length ≤ 300000000) :
    Calls Tryz.prog 45 #[at0 g.r, .slice A ws.length c] w (Steps B0 g (targetsE st g.line ws) w) := by
  have hg0 := hI.new g.r (by rw [hI.rr]; decide)
  by_cases h2 : ws.length < 2
  · have hR : Hid (targetsE st g.line ws = .error (g.line, 10)) := by
      show _ = _
      cases ws with
      | nil => rfl
      | cons x r => cases r with
        | nil => rfl
        | cons y r => simp at h2; omega
    have hlt : decide ((1 : Int) < (ws.length : Int)) = false := by rw [decide_eq_false_iff_not]; omega
    have hrd := Lib.hid hI.rd
    clear hI hW
    generalize ws.length = n at *
    go_enter Tryz.func45, Tryz.ntmps45
    go_wp2_with fail
    refine (need_no g.r g.line 10 _ hrd.out.c4).mono ?_
    rintro e w1 ⟨rfl, rfl⟩
    exact ⟨rfl, Steps.bad hR.out (Below.refl _ _)⟩
  · obtain ⟨ad, hA, hq0⟩ := str_at hW 0 (by omega)
    subst hA
    clear hq0
    have hT : targetsE st g.line ws = match pathsE g.line st.file [] ws.tail with | .error e => .error e | .ok d => .ok { st with defs := st.defs ++ d } := by
      cases ws with
      | nil => simp at h2
      | cons x r => cases r with
        | nil => simp at h2
        | cons y r => rfl
    have hD := C_drop hW 1
    rw [List.drop_one] at hD
    have htl : ws.tail.length = ws.length - 1 := List.length_tail
    rw [← htl] at hD
    have hP : Hid (∀ (A' : Option Addr) (c' : Nat) (W : World), A' = some (ad.add 1) → Below w.heap.size w W → Calls Tryz.prog 75 #[at0 g.r, .slice A' ws.tail.length c'] W (GivesL (pathsE g.line st.file [] ws.tail) W)) := by
      intro A' c' W hA hb
      subst hA
      exact paths_any g.r g.line ⟨g.fb, g.fm, g.n, st.file⟩ (at0 g.fb) (some (ad.add 1)) c' ws.tail W (hI.rd.below hb) hI.getL (Kd.C_below hD hb) (by omega) (fun t ht => hl t (List.mem_of_mem_tail ht))
    have hadd : Hid (∀ x : Option Addr, x = some ⟨ad.block, ad.off + 1, none⟩ → x = some (ad.add 1)) := by
      intro x hx; rw [hx]; rfl
    have hlt : decide ((1 : Int) < (ws.length : Int)) = true := by rw [decide_eq_true_iff]; omega
    have hc1 : ¬ c = 1 := by omega
    have c3 : w.cell? ⟨g.r, 3, none⟩ = some g.vd := hI.cell 3
    have f3 := hI.free 3
    have hrl := lt_blk hI.hr
    have hH := Lib.hid hI
    have hTH := Lib.hid hT
    have htn : ws.length - 1 = ws.tail.length := htl.symm
    clear hI hT hW hD hl htl
    cases hp : pathsE g.line st.file [] ws.tail with
    | error er =>
      obtain ⟨l1, c1⟩ := er
      rw [hp] at hP hTH
      have hR : Hid (targetsE st g.line ws = .error (l1, c1)) := hTH.out
      clear hTH hp
      generalize ws.tail = tl at *
      generalize ws.length = n at *
      have h1n : (1 : Int) ≤ (n : Int) := by omega
      have hnc : (n : Int) ≤ (c : Int) := by omega
      go_enter Tryz.func45, Tryz.ntmps45
      go_wp2_with fail
      refine (need_ok _ _ _).mono ?_
      rintro e w1 ⟨rfl, rfl⟩
      go_wp2_with fail
      refine RegP.region (fun w' => w'.cell? ⟨g.r, 3, none⟩ = some g.vd) 9 [(0, 0), (0, 1), (0, 2), (0, 3), (1, 4), (0, 5), (0, 6), (0, 7), (2, 8), (3, 9), (0, 10), (0, 11), (3, 12)] (by kernel_rfl) (by kernel_rfl) (by rfl) (by kernel_rfl) (by go_keep) ?_
      refine RegP.pure1 (by (simp only [gA,gB,gC]); rfl) (by exact fun _ _ _ h => h) (by rfl) (by intro w'; go_simp; try with_reducible rfl) ?_
      try simp only [Act.put, pA,pB,pC]
      refine RegP.pure1 (by (simp only [gA,gB,gC]); rfl) (by exact fun _ _ _ h => h) (by rfl) (by intro w'; go_simp; try with_reducible rfl) ?_
      try simp only [Act.put, pA,pB,pC]
      refine RegP.pure1 (by (simp only [gA,gB,gC]); rfl) (by exact fun _ _ _ h => h) (by rfl) (by intro w'; go_simp; try with_reducible rfl) ?_
      try simp only [Act.put, pA,pB,pC]
      refine RegP.pure1 (by (simp only [gA,gB,gC]); rfl) (by exact fun _ _ _ h => h) (by rfl) (by intro w'; go_simp; try with_reducible rfl) ?_
      try simp only [Act.put, pA,pB,pC]
      refine RegP.held1 (by (simp only [gA,gB,gC]); rfl) (by exact fun _ _ _ h => h) (by rfl) (by intro w' hS_; (try dsimp only at hS_); go_split_ands; go_simp; try with_reducible rfl) ?_
      try simp only [Act.put, pA,pB,pC]
      refine RegP.pure1 (by (simp only [gA,gB,gC]); rfl) (by exact fun _ _ _ h => h) (by rfl) (by intro w'; go_simp; try with_reducible rfl) ?_
      try simp only [Act.put, pA,pB,pC]
      refine RegP.pure1 (by (simp only [gA,gB,gC]); rfl) (by exact fun _ _ _ h => h) (by rfl) (by intro w'; go_simp; try with_reducible rfl) ?_
      try simp only [Act.put, pA,pB,pC]
      refine RegP.pure1 (by (simp only [gA,gB,gC]); rfl) (by exact fun _ _ _ h => h) (by rfl) (by intro w'; go_simp; try with_reducible rfl) ?_
      try simp only [Act.put, pA,pB,pC]
      refine RegP.ev1 (by (simp only [gA,gB,gC]); rfl) (fun K hK => ?_)
      go_simp
      refine (hP.out _ _ _ (hadd.out _ rfl) (Below.refl _ _).drew).mono ?_
      rintro e w2 ⟨rfl, hb⟩
      exact ⟨rfl, Steps.bad hR.out ((((Below.refl _ _).drew).trans hb).mono hH.out.base)⟩
    | ok d =>
      rw [hp] at hP hTH
      have hdl : d.length ≤ 20000 := by
        have := pathsE_len _ _ _ _ _ hp
        rw [List.length_tail, List.length_nil] at this; omega
      have hR : Hid (targetsE st g.line ws = .ok { st with defs := st.defs ++ d }) := hTH.out
      clear hTH hp
      generalize ws.tail = tl at *
      generalize ws.length = n at *
      have h1n : (1 : Int) ≤ (n : Int) := by omega
      have hnc : (n : Int) ≤ (c : Int) := by omega
      go_enter Tryz.func45, Tryz.ntmps45
      go_wp2_with fail
      refine (need_ok _ _ _).mono ?_
      rintro e w1 ⟨rfl, rfl⟩
      go_wp2_with fail
      refine RegP.region (fun w' => w'.cell? ⟨g.r, 3, none⟩ = some g.vd) 9 [(0, 0), (0, 1), (0, 2), (0, 3), (1, 4), (0, 5), (0, 6), (0, 7), (2, 8), (3, 9), (0, 10), (0, 11), (3, 12)] (by kernel_rfl) (by kernel_rfl) (by rfl) (by kernel_rfl) (by go_keep) ?_
      refine RegP.pure1 (by (simp only [gA,gB,gC]); rfl) (by exact fun _ _ _ h => h) (by rfl) (by intro w'; go_simp; try with_reducible rfl) ?_
      try simp only [Act.put, pA,pB,pC]
      refine RegP.pure1 (by (simp only [gA,gB,gC]); rfl) (by exact fun _ _ _ h => h) (by rfl) (by intro w'; go_simp; try with_reducible rfl) ?_
      try simp only [Act.put, pA,pB,pC]
      refine RegP.pure1 (by (simp only [gA,gB,gC]); rfl) (by exact fun _ _ _ h => h) (by rfl) (by intro w'; go_simp; try with_reducible rfl) ?_
      try simp only [Act.put, pA,pB,pC]
      refine RegP.pure1 (by (simp only [gA,gB,gC]); rfl) (by exact fun _ _ _ h => h) (by rfl) (by intro w'; go_simp; try with_reducible rfl) ?_
      try simp only [Act.put, pA,pB,pC]
      refine RegP.held1 (by (simp only [gA,gB,gC]); rfl) (by exact fun _ _ _ h => h) (by rfl) (by intro w' hS_; (try dsimp only at hS_); go_split_ands; go_simp; try with_reducible rfl) ?_
      try simp only [Act.put, pA,pB,pC]
      refine RegP.pure1 (by (simp only [gA,gB,gC]); rfl) (by exact fun _ _ _ h => h) (by rfl) (by intro w'; go_simp; try with_reducible rfl) ?_
      try simp only [Act.put, pA,pB,pC]
      refine RegP.pure1 (by (simp only [gA,gB,gC]); rfl) (by exact fun _ _ _ h => h) (by rfl) (by intro w'; go_simp; try with_reducible rfl) ?_
      try simp only [Act.put, pA,pB,pC]
      refine RegP.pure1 (by (simp only [gA,gB,gC]); rfl) (by exact fun _ _ _ h => h) (by rfl) (by intro w'; go_simp; try with_reducible rfl) ?_
      try simp only [Act.put, pA,pB,pC]
      refine RegP.ev1 (by (simp only [gA,gB,gC]); rfl) (fun K hK => ?_)
      go_simp
      refine (hP.out _ _ _ (hadd.out _ rfl) (Below.refl _ _).drew).mono ?_
      rintro e w2 ⟨v2, rfl, ho2, hb2⟩
      have hB2 := Lib.hid ((((Below.refl _ w).drew).trans hb2))
      have hI2 := Lib.hid (hH.out.below hB2.out)
      have c32 : w2.cell? ⟨g.r, 3, none⟩ = some g.vd := hI2.out.cell 3
      have f32 := hI2.out.free 3
      obtain ⟨A2, cp2, rfl, hl2, hC2⟩ := own_slice ho2
      have hC2H := Lib.hid hC2
      clear ho2 hb2 hC2 c3 f3
      refine hK.out _ _ ?_ (fun hHeld => ?_)
      · (try dsimp only); go_keep
      clear hK K
      try simp only [Act.put, pA,pB,pC]
      refine RegP.last1 (by (simp only [gA,gB,gC]); rfl) (fun K hK => ?_)
      refine step_strs (w0 := w) B0 rfl _ _ rfl g.vd st.defs d A2 cp2 rfl rfl hI2.out.od hC2H.out (hB2.out.mono hH.out.base) (Nat.le_trans hH.out.base hB2.out.size) (by omega) ?_
      intro v3 w3 ho3 hb3 hg3 ha3
      obtain ⟨A3, cp3, hv3, _, _⟩ := own_slice ho3
      rw [List.length_append] at hv3
      subst hv3
      obtain ⟨g', q1, q2, q3, q4, q5⟩ := hI2.out.defs _ d (by rw [List.length_append]; omega) ho3 hg3 ha3
      have hq1 := Lib.hid q1
      have hb3' := Lib.hid hb3
      have c33 := q4
      have f33 := q5
      clear ho3 hb3 hg3 ha3 q1 q4 q5 c32 f32
      refine hK.out _ _ ?_
      clear hK K
      try simp only [Act.put, pA,pB,pC]
      refine RegP.pure1 (by (simp only [gA,gB,gC]); rfl) (by exact fun _ _ _ h => h) (by rfl) (by intro w'; go_simp; try with_reducible rfl) ?_
      try simp only [Act.put, pA,pB,pC]
      refine RegP.pure1 (by (simp only [gA,gB,gC]); rfl) (by exact fun _ _ _ h => h) (by rfl) (by intro w'; go_simp; try with_reducible rfl) ?_
      try simp only [Act.put, pA,pB,pC]
      refine RegP.last1 (by (simp only [gA,gB,gC]); rfl) (fun K hK => ?_)
      go_simp
      refine hK.out _ _ ?_
      clear hK K
      try simp only [Act.put, pA,pB,pC]
      show _
      go_end0
      exact Steps.fin hR.out hq1.out q2 (by omega) (hb3'.out.setCell hg0 _)
end Go.Proofs.YtbjekebkgidhaaaGreatDoor.Mf
end
section
set_option linter.unusedSimpArgs false
set_option linter.unusedVariables false
namespace Go.Proofs.YtbjekebkgidhaaaGreatDoor.Mf
open Go.RowKit Go.Lib Go.Shelf Go.Maps Go.Proofs.YtbjekebkgidhaaaGreatDoorW.PrintWords Go.Proofs.YtbjekebkgidhaaaGreatDoor.U Go.Proofs.YtbjekebkgidhaaaGreatDoor.Sc Go.Proofs.YtbjekebkgidhaaaGreatDoor.P Go.Proofs.YtbjekebkgidhaaaGreatDoor.MapV
theorem ruleAt_lt {rs : List RuleS} {k : Txt} {i : Nat} (h : ruleAt rs k = some i) : i < rs.length := by
  unfold ruleAt at h
  exact (List.findIdx?_eq_some_iff_getElem.1 h).1
theorem ruleAt_new {rs : List RuleS} {nm : Txt} (h : ruleAt rs nm = none) (r : RuleS) (hr : r.name = nm) (k : Txt) : ruleAt (rs ++ [r]) k = if k = nm then some rs.length else ruleAt rs k := by
  unfold ruleAt at h ⊢
  rw [List.findIdx?_append]
  by_cases hk : k = nm
  · subst hk
    rw [h, if_pos rfl]
    simp [List.findIdx?_cons, hr]
  · rw [if_neg hk]
    have : [r].findIdx? (fun x => x.name == k) = none := by
      simp [List.findIdx?_cons, hr, Ne.symm hk]
    rw [this]
    cases rs.findIdx? (fun x => x.name == k) <;> rfl
theorem Inv.ruleNew {B0 : Nat} {w w2 : World} {g : Mem} {st : St} (h : Inv B0 w g st) (nm : Txt) (hnm : nameL nm = true) (hno : ruleAt st.rules nm = none) (tm rbn p q : Nat)
    (ht : w.heap.size ≤ tm) (hrb : w.heap.size ≤ rbn) (hp : w.heap.size ≤ p) (hq : w.heap.size ≤ q) (hs : w.heap.size ≤ w2.heap.size)
    (hk : ∀ b, b < w.heap.size → b ≠ g.rm → w2.heap[b]? = w.heap[b]?)
    (c1 : w2.heap[rbn]? = some (.cells #[.map (some tm), .int .i64 (g.line : Int)] 101 (0, 0))) (c2 : OwnsM w2 tm 0 none0)
    (c3 : w2.heap[p]? = some (.cells #[at0 g.r] 62 (0, 0))) (c4 : w2.heap[q]? = some (.cells #[at0 rbn] 68 (0, 0)))
    (c5 : OwnsV w2 g.rm (g.n + 1) (updV (fun k => (ruleAt st.rules k).map fun i => at0 (g.rb i)) nm (at0 rbn))) :
    ∃ g', Inv B0 ((w2.setCell ⟨g.r, 6, none⟩ (at0 rbn)).setCell ⟨g.r, 5, none⟩ (.func (.func 72) #[] #[at0 p, at0 q])) g' { st with rules := st.rules ++ [⟨nm, none0, g.line⟩], inner := 1 } ∧ g'.r = g.r ∧ g'.n = g.n + 1 := by
  have hmc : ∀ b (cs : Array Value) t fr, w2.heap[b]? = some (.cells cs t fr) → b ≠ tm := by
    intro b cs t fr hb e
    subst e
    obtain ⟨D, ⟨es, clock, hm, _⟩, _⟩ := c2
    rw [hm] at hb; cases hb
  let nr := st.rules.length
  let vi : Value := .func (.func 72) #[] #[at0 p, at0 q]
  let g' : Mem := { g with rb := fun i => if i < nr then g.rb i else rbn, tb := fun i => if i < nr then g.tb i else tm, role := fun b => if b < w.heap.size then g.role b else if b = tm then .tmap nr else .still, vi := vi, vo := at0 rbn, n := g.n + 1 }
  have hrl : ∀ b, b < w.heap.size → g'.role b = g.role b := fun b hb => by show (if b < w.heap.size then _ else _) = _; rw [if_pos hb]
  have hst : ∀ b, w.heap.size ≤ b → b ≠ tm → g'.role b = .still := fun b hb hne => by show (if b < w.heap.size then _ else if b = tm then _ else _) = _; rw [if_neg (by omega), if_neg hne]
  have hrb' : ∀ i, i < nr → g'.rb i = g.rb i := fun i hi => by show (if i < nr then _ else _) = _; rw [if_pos hi]
  have htb' : ∀ i, i < nr → g'.tb i = g.tb i := fun i hi => by show (if i < nr then _ else _) = _; rw [if_pos hi]
  have hrbn : g'.rb nr = rbn := by show (if nr < nr then _ else _) = _; rw [if_neg (by omega)]
  have htbn : g'.tb nr = tm := by show (if nr < nr then _ else _) = _; rw [if_neg (by omega)]
  have hner : g.r ≠ g.rm := fun e => by have h1 := h.rr; rw [e, h.rrm] at h1; cases h1
  have hr2 := (hk _ (lt_blk h.hr) hner).trans h.hr
  have w3e : ∀ b, b ≠ g.r → ((w2.setCell ⟨g.r, 6, none⟩ (at0 rbn)).setCell ⟨g.r, 5, none⟩ vi).heap[b]? = w2.heap[b]? := fun b hb => by
    rw [Below.heap_setCell _ _ _ b hb, Below.heap_setCell _ _ _ b hb]
  have hnr : ∀ b, w.heap.size ≤ b → b ≠ g.r := fun b hb e => by have := lt_blk h.hr; omega
  have hr3 : ((w2.setCell ⟨g.r, 6, none⟩ (at0 rbn)).setCell ⟨g.r, 5, none⟩ vi).heap[g.r]? = some (.cells #[at0 g.fb, .map (some g.rm), g.ve, g.vd, .int .i64 (g.line : Int), vi, at0 rbn] 70 (0, 0)) :=
    blk_put (blk_put hr2 6 (at0 rbn) rfl) 5 vi rfl
  have k : Grow nr st.edges.length (fun r => r = .reader ∨ r = .rmap) w ((w2.setCell ⟨g.r, 6, none⟩ (at0 rbn)).setCell ⟨g.r, 5, none⟩ vi) g g' := by
    refine ⟨by rw [World.size_setCell, World.size_setCell]; exact hs, fun b hb hx => ?_, hrl, rfl, fun i hi => ⟨hrb' i hi, htb' i hi⟩, fun _ _ => ⟨rfl, rfl, rfl, rfl, rfl, rfl, rfl⟩, Nat.le_succ _⟩
    rw [w3e b (fun e => hx (.inl (by rw [e]; exact h.rr)))]
    exact hk b hb (fun e => hx (.inr (by rw [e]; exact h.rrm)))
  have hrmlt := h.mr.lt
  refine ⟨g', ⟨?_, ?_, ?_, hr3, k.roleb h.hf h.rf, k.blk h.hf h.rf (by simp), (k.role _ h.mf.lt).trans h.rfm, (k.mapM h.mf h.rfm (by simp)).mono (Nat.le_succ _), h.sf, (k.role _ hrmlt).trans h.rrm, ?_, ?_, ?_, h.ne, k.row h.oe h.roe (by simp), k.rolev h.oe h.roe, k.row h.od h.rod (by simp), k.rolev h.od h.rod, h.nd, ?_⟩, rfl, rfl⟩
  · rw [World.size_setCell, World.size_setCell]; exact Nat.le_trans h.base hs
  · intro b hb
    by_cases hlt : b < w.heap.size
    · rw [hrl b hlt] at hb; exact h.new b hb
    · have := h.base; omega
  · rw [hrl _ (lt_blk h.hr)]; exact h.rr
  · have c5' := c5.same (w3e g.rm (Ne.symm hner))
    have : (fun k => (ruleAt (st.rules ++ [⟨nm, none0, g.line⟩]) k).map fun i => at0 (g'.rb i)) = updV (fun k => (ruleAt st.rules k).map fun i => at0 (g.rb i)) nm (at0 rbn) := by
      funext x
      rw [ruleAt_new hno _ rfl, updV]
      by_cases hx : x = nm
      · rw [if_pos hx, if_pos hx]; show some (at0 (g'.rb nr)) = _; rw [hrbn]
      · rw [if_neg hx, if_neg hx]
        cases hra : ruleAt st.rules x with
        | none => rfl
        | some i => show some (at0 (g'.rb i)) = some (at0 (g.rb i)); rw [hrb' i (ruleAt_lt hra)]
    rw [this]; exact c5'
  · intro i hi
    rw [List.length_append, List.length_cons, List.length_nil] at hi
    by_cases hlt : i < nr
    · rw [List.getElem_append_left hlt]
      exact (h.rules i hlt).grow k hlt (by simp) (by simp)
    · obtain rfl : i = nr := by omega
      rw [List.getElem_append_right (Nat.le_refl _)]
      simp only [Nat.sub_self, List.getElem_cons_zero]
      refine ⟨?_, ?_, ?_, ?_, hnm, Short.none0 _⟩
      · rw [hrbn]; exact hst _ hrb (hmc _ _ _ _ c1)
      · rw [htbn]; show (if tm < w.heap.size then _ else if tm = tm then _ else _) = _; rw [if_neg (by omega), if_pos rfl]
      · rw [hrbn, htbn, w3e _ (hnr _ hrb)]; exact c1
      · rw [htbn]; exact (c2.same (w3e _ (hnr _ ht))).mono (Nat.zero_le _)
  · intro j hj
    exact (h.edges j hj).grow k hj (by rw [List.length_append]; omega) (by simp) (by simp) (by simp)
  · refine .inr (.inl ⟨rfl, by rw [List.length_append]; simp, ?_, p, q, rfl, hst _ hp (hmc _ _ _ _ c3), hst _ hq (hmc _ _ _ _ c4), ?_, ?_⟩)
    · rw [List.length_append, List.length_cons, List.length_nil, Nat.add_sub_cancel]; show at0 rbn = at0 (g'.rb nr); rw [hrbn]
    · rw [w3e _ (hnr _ hp)]; exact c3
    · rw [List.length_append, List.length_cons, List.length_nil, Nat.add_sub_cancel, w3e _ (hnr _ hq)]; show _ = some (Obj.cells #[at0 (g'.rb nr)] _ _); rw [hrbn]; exact c4
set_option maxRecDepth 100000 in
set_option maxHeartbeats 8000000 in
theorem rule_any (B0 : Nat) (g : Mem) (st : St) (A : Option Addr) (c : Nat) (ws : List Txt) (w : World) (hI : Inv B0 w g st) (hin : st.inner = 0)
    (hW : Kd.C Kd.string w A ws.length (ws.map B)) (hc : ws.length ≤ c) (hl : ∀ t ∈ ws, t.length ≤ 1000000) (hgn : g.n < 1000000) (hwl : ws.length ≤ 1000000) :
    Calls Tryz.prog 43 #[at0 g.r, .slice A ws.length c] w (Steps B0 g (ruleE st g.line ws) w) := by
  have hg0 := hI.new g.r (by rw [hI.rr]; decide)
  have hB0 := hI.base
  have hBox := Lib.hid ((Below.refl w.heap.size w).alloc (Nat.le_refl _) (.cells #[at0 g.r] 62))
  have hCell : Hid ((w.alloc (.cells #[at0 g.r] 62)).heap[w.heap.size]? = some (.cells #[at0 g.r] 62 (0, 0))) := heap_alloc_new w _
  have hI0 := Lib.hid (hI.below hBox.out)
  have hrd := hI.rd
  by_cases h2 : ws.length = 2
  · obtain ⟨x, nm, rfl⟩ : ∃ x nm, ws = [x, nm] := by
      rcases ws with _ | ⟨x, _ | ⟨y, _ | ⟨z, r⟩⟩⟩
      · simp at h2
      · simp at h2
      · exact ⟨x, y, rfl⟩
      · simp at h2
    obtain ⟨ad, hA, hq1⟩ := str_at hW 1 (by simp)
    subst hA
    have hq1' : w.cell? ⟨ad.block, ad.off + 1, none⟩ = some (.string (B nm)) := hq1
    have hnl : nm.length ≤ 1000000 := hl nm (by simp)
    have hc' : 2 ≤ c := hc
    have hN := Lib.hid (fun W => Name_any nm W)
    have hR0 : ruleE st g.line [x, nm] = if nameL nm = true ∧ ruleAt st.rules nm = none then .ok { st with rules := st.rules ++ [⟨nm, none0, g.line⟩], inner := 1 } else .error (g.line, 10) := rfl
    have hz57 : ∀ w : World, (zeroValue 68).run Tryz.prog w = .ok (.pointer none) w := fun w => by kernel_rfl
    have hSB : Hid (∀ W, Below w.heap.size w W → W.cell? ⟨ad.block, ad.off + 1, none⟩ = some (.string (B nm)) ∧ W.cell? ⟨g.r, 1, none⟩ = some (.map (some g.rm)) ∧
        (Instr.lookup 65 (.map (some g.rm)) (.string (B nm)) false).run Tryz.prog W = .ok (((ruleAt st.rules nm).map fun i => at0 (g.rb i)).getD (.pointer none)) W) := by
      intro W hb
      refine ⟨(hb.cell (World.block_lt_of_cell? w _ hq1')).trans hq1', (hI.below hb).cell 1, ?_⟩
      exact (hI.below hb).mr.look Tryz.underlying65 (hz57 W) nm (by unfold maxLen; omega)
    have hL2 : ([x, nm] : List Txt).length = 2 := rfl
    rw [hL2]
    clear hl hc h2 hwl hW hq1 hL2 hq1'
    cases hnm : nameL nm with
    | false =>
      have hR : Hid (ruleE st g.line [x, nm] = .error (g.line, 10)) := by show _ = _; rw [hR0, if_neg (by rw [hnm]; simp)]
      rw [hnm] at hN
      clear hR0 hnm hI
      have hi1 : (1 : Int) < 2 := by decide
      go_enter Tryz.func43, Tryz.ntmps43
      go_wp2_with fail
      generalize w.alloc (.cells #[at0 g.r] 62) = w0 at *
      have hc0 := (cell_of_heap (j := 0) hCell.out).trans rfl
      have hS0 : Hid (∀ W, Below w0.heap.size w0 W → W.cell? ⟨w.heap.size, 0, none⟩ = some (at0 g.r) ∧ W.cell? ⟨ad.block, ad.off + 1, none⟩ = some (.string (B nm)) ∧ W.cell? ⟨g.r, 1, none⟩ = some (.map (some g.rm)) ∧
          (Instr.lookup 65 (.map (some g.rm)) (.string (B nm)) false).run Tryz.prog W = .ok (((ruleAt st.rules nm).map fun i => at0 (g.rb i)).getD (.pointer none)) W) :=
        fun W hb => ⟨(hb.cell (World.block_lt_of_cell? w0 _ hc0)).trans hc0, hSB.out W (hBox.out.trans (hb.mono hBox.out.size))⟩
      refine RegP.regionH (fun w' => w'.cell? ⟨w.heap.size, 0, none⟩ = some (at0 g.r) ∧ w'.cell? ⟨ad.block, ad.off + 1, none⟩ = some (.string (B nm)) ∧ w'.cell? ⟨g.r, 1, none⟩ = some (.map (some g.rm)) ∧ (Instr.lookup 65 (.map (some g.rm)) (.string (B nm)) false).run Tryz.prog w' = .ok (((ruleAt st.rules nm).map fun i => at0 (g.rb i)).getD (.pointer none)) w') [(1, 0), (0, 1), (0, 2), (0, 3), (0, 4), (0, 5), (0, 6), (1, 7), (2, 8), (0, 9), (0, 10), (4, 11), (4, 12), (4, 13), (4, 14), (4, 15), (4, 16), (4, 17), (4, 18), (4, 19), (0, 20), (2, 21)] (by kernel_rfl) (by kernel_rfl) (by rfl) (by kernel_rfl) (by exact hS0.out _ ((Below.refl _ _).drew)) ?_
      refine RegP.held1 (by (simp only [gA,gB,gC]); rfl) (by exact fun _ _ _ h => h) (by rfl) (by intro w' hS_; (try dsimp only at hS_); go_split_ands; go_simp; try with_reducible rfl) ?_
      try simp only [Act.put, pA,pB,pC]
      refine RegP.pure1 (by (simp only [gA,gB,gC]); rfl) (by exact fun _ _ _ h => h) (by rfl) (by intro w'; go_simp; try with_reducible rfl) ?_
      try simp only [Act.put, pA,pB,pC]
      refine RegP.pure1 (by (simp only [gA,gB,gC]); rfl) (by exact fun _ _ _ h => h) (by rfl) (by intro w'; go_simp; try with_reducible rfl) ?_
      try simp only [Act.put, pA,pB,pC]
      refine RegP.pure1 (by (simp only [gA,gB,gC]); rfl) (by exact fun _ _ _ h => h) (by rfl) (by intro w'; go_simp; try with_reducible rfl) ?_
      try simp only [Act.put, pA,pB,pC]
      refine RegP.pure1 (by (simp only [gA,gB,gC]); rfl) (by exact fun _ _ _ h => h) (by rfl) (by intro w'; go_simp; try with_reducible rfl) ?_
      try simp only [Act.put, pA,pB,pC]
      refine RegP.pure1 (by (simp only [gA,gB,gC]); rfl) (by exact fun _ _ _ h => h) (by rfl) (by intro w'; go_simp; try with_reducible rfl) ?_
      try simp only [Act.put, pA,pB,pC]
      refine RegP.pure1 (by (simp only [gA,gB,gC]); rfl) (by exact fun _ _ _ h => h) (by rfl) (by intro w'; go_simp; try with_reducible rfl) ?_
      try simp only [Act.put, pA,pB,pC]
      refine RegP.held1 (by (simp only [gA,gB,gC]); rfl) (by exact fun _ _ _ h => h) (by rfl) (by intro w' hS_; (try dsimp only at hS_); go_split_ands; go_simp; try with_reducible rfl) ?_
      try simp only [Act.put, pA,pB,pC]
      refine RegP.ev1 (by (simp only [gA,gB,gC]); rfl) (fun K hK => ?_)
      go_simp
      refine (hN.out _).mono ?_
      rintro e w1 ⟨rfl, hb1⟩
      have hB1 := Lib.hid (((Below.refl w0.heap.size w0).drew).trans hb1)
      clear hb1
      refine hK.out _ _ ?_ (fun hHeld => ?_)
      · (try dsimp only); exact hS0.out _ hB1.out
      clear hK K
      try simp only [Act.put, pA,pB,pC]
      refine RegP.pure1 (by (simp only [gA,gB,gC]); rfl) (by exact fun _ _ _ h => h) (by rfl) (by intro w'; go_simp; try with_reducible rfl) ?_
      try simp only [Act.put, pA,pB,pC]
      refine RegP.pure1 (by (simp only [gA,gB,gC]); rfl) (by exact fun _ _ _ h => h) (by rfl) (by intro w'; go_simp; try with_reducible rfl) ?_
      try simp only [Act.put, pA,pB,pC]
      refine RegP.skip1 (by (simp only [gA,gB,gC]); rfl) (by exact fun _ _ _ h => h) (by rfl) ?_
      try simp only [Act.put, pA,pB,pC]
      refine RegP.skip1 (by (simp only [gA,gB,gC]); rfl) (by exact fun _ _ _ h => h) (by rfl) ?_
      try simp only [Act.put, pA,pB,pC]
      refine RegP.skip1 (by (simp only [gA,gB,gC]); rfl) (by exact fun _ _ _ h => h) (by rfl) ?_
      try simp only [Act.put, pA,pB,pC]
      refine RegP.skip1 (by (simp only [gA,gB,gC]); rfl) (by exact fun _ _ _ h => h) (by rfl) ?_
      try simp only [Act.put, pA,pB,pC]
      refine RegP.skip1 (by (simp only [gA,gB,gC]); rfl) (by exact fun _ _ _ h => h) (by rfl) ?_
      try simp only [Act.put, pA,pB,pC]
      refine RegP.skip1 (by (simp only [gA,gB,gC]); rfl) (by exact fun _ _ _ h => h) (by rfl) ?_
      try simp only [Act.put, pA,pB,pC]
      refine RegP.skip1 (by (simp only [gA,gB,gC]); rfl) (by exact fun _ _ _ h => h) (by rfl) ?_
      try simp only [Act.put, pA,pB,pC]
      refine RegP.skip1 (by (simp only [gA,gB,gC]); rfl) (by exact fun _ _ _ h => h) (by rfl) ?_
      try simp only [Act.put, pA,pB,pC]
      refine RegP.skip1 (by (simp only [gA,gB,gC]); rfl) (by exact fun _ _ _ h => h) (by rfl) ?_
      try simp only [Act.put, pA,pB,pC]
      refine RegP.pure1 (by (simp only [gA,gB,gC]); rfl) (by exact fun _ _ _ h => h) (by rfl) (by intro w'; go_simp; try with_reducible rfl) ?_
      try simp only [Act.put, pA,pB,pC]
      refine RegP.ev1 (by (simp only [gA,gB,gC]); rfl) (fun K hK => ?_)
      go_simp
      refine (need_no g.r g.line 10 _ (hI0.out.rd.below hB1.out).c4).mono ?_
      rintro e w2 ⟨rfl, rfl⟩
      exact ⟨rfl, Steps.bad hR.out ((hBox.out.mono hB0).trans (hB1.out.mono (Nat.le_trans hB0 hBox.out.size)))⟩
    | true =>
      rw [hnm] at hN hR0
      cases hra : ruleAt st.rules nm with
      | some i =>
        have hR : Hid (ruleE st g.line [x, nm] = .error (g.line, 10)) := by show _ = _; rw [hR0, hra, if_neg (by simp)]
        rw [hra] at hSB
        have hSB' : Hid (∀ W, Below w.heap.size w W → W.cell? ⟨ad.block, ad.off + 1, none⟩ = some (.string (B nm)) ∧ W.cell? ⟨g.r, 1, none⟩ = some (.map (some g.rm)) ∧
            (Instr.lookup 65 (.map (some g.rm)) (.string (B nm)) false).run Tryz.prog W = .ok (at0 (g.rb i)) W) := hSB.out
        clear hR0 hnm hI hra hSB
        have hi1 : (1 : Int) < 2 := by decide
        go_enter Tryz.func43, Tryz.ntmps43
        go_wp2_with fail
        generalize w.alloc (.cells #[at0 g.r] 62) = w0 at *
        have hc0 := (cell_of_heap (j := 0) hCell.out).trans rfl
        have hS0 : Hid (∀ W, Below w0.heap.size w0 W → W.cell? ⟨w.heap.size, 0, none⟩ = some (at0 g.r) ∧ W.cell? ⟨ad.block, ad.off + 1, none⟩ = some (.string (B nm)) ∧ W.cell? ⟨g.r, 1, none⟩ = some (.map (some g.rm)) ∧
            (Instr.lookup 65 (.map (some g.rm)) (.string (B nm)) false).run Tryz.prog W = .ok (at0 (g.rb i)) W) :=
          fun W hb => ⟨(hb.cell (World.block_lt_of_cell? w0 _ hc0)).trans hc0, hSB'.out W (hBox.out.trans (hb.mono hBox.out.size))⟩
        refine RegP.regionH (fun w' => w'.cell? ⟨w.heap.size, 0, none⟩ = some (at0 g.r) ∧ w'.cell? ⟨ad.block, ad.off + 1, none⟩ = some (.string (B nm)) ∧ w'.cell? ⟨g.r, 1, none⟩ = some (.map (some g.rm)) ∧ (Instr.lookup 65 (.map (some g.rm)) (.string (B nm)) false).run Tryz.prog w' = .ok (at0 (g.rb i)) w') [(1, 0), (0, 1), (0, 2), (0, 3), (0, 4), (0, 5), (0, 6), (1, 7), (2, 8), (0, 9), (0, 10), (1, 11), (0, 12), (0, 13), (1, 14), (0, 15), (0, 16), (1, 17), (1, 18), (0, 19), (0, 20), (2, 21)] (by kernel_rfl) (by kernel_rfl) (by rfl) (by kernel_rfl) (by exact hS0.out _ ((Below.refl _ _).drew)) ?_
        refine RegP.held1 (by (simp only [gA,gB,gC]); rfl) (by exact fun _ _ _ h => h) (by rfl) (by intro w' hS_; (try dsimp only at hS_); go_split_ands; go_simp; try with_reducible rfl) ?_
        try simp only [Act.put, pA,pB,pC]
        refine RegP.pure1 (by (simp only [gA,gB,gC]); rfl) (by exact fun _ _ _ h => h) (by rfl) (by intro w'; go_simp; try with_reducible rfl) ?_
        try simp only [Act.put, pA,pB,pC]
        refine RegP.pure1 (by (simp only [gA,gB,gC]); rfl) (by exact fun _ _ _ h => h) (by rfl) (by intro w'; go_simp; try with_reducible rfl) ?_
        try simp only [Act.put, pA,pB,pC]
        refine RegP.pure1 (by (simp only [gA,gB,gC]); rfl) (by exact fun _ _ _ h => h) (by rfl) (by intro w'; go_simp; try with_reducible rfl) ?_
        try simp only [Act.put, pA,pB,pC]
        refine RegP.pure1 (by (simp only [gA,gB,gC]); rfl) (by exact fun _ _ _ h => h) (by rfl) (by intro w'; go_simp; try with_reducible rfl) ?_
        try simp only [Act.put, pA,pB,pC]
        refine RegP.pure1 (by (simp only [gA,gB,gC]); rfl) (by exact fun _ _ _ h => h) (by rfl) (by intro w'; go_simp; try with_reducible rfl) ?_
        try simp only [Act.put, pA,pB,pC]
        refine RegP.pure1 (by (simp only [gA,gB,gC]); rfl) (by exact fun _ _ _ h => h) (by rfl) (by intro w'; go_simp; try with_reducible rfl) ?_
        try simp only [Act.put, pA,pB,pC]
        refine RegP.held1 (by (simp only [gA,gB,gC]); rfl) (by exact fun _ _ _ h => h) (by rfl) (by intro w' hS_; (try dsimp only at hS_); go_split_ands; go_simp; try with_reducible rfl) ?_
        try simp only [Act.put, pA,pB,pC]
        refine RegP.ev1 (by (simp only [gA,gB,gC]); rfl) (fun K hK => ?_)
        go_simp
        refine (hN.out _).mono ?_
        rintro e w1 ⟨rfl, hb1⟩
        have hB1 := Lib.hid (((Below.refl w0.heap.size w0).drew).trans hb1)
        clear hb1
        refine hK.out _ _ ?_ (fun hHeld => ?_)
        · (try dsimp only); exact hS0.out _ hB1.out
        clear hK K
        try simp only [Act.put, pA,pB,pC]
        refine RegP.pure1 (by (simp only [gA,gB,gC]); rfl) (by exact fun _ _ _ h => h) (by rfl) (by intro w'; go_simp; try with_reducible rfl) ?_
        try simp only [Act.put, pA,pB,pC]
        refine RegP.pure1 (by (simp only [gA,gB,gC]); rfl) (by exact fun _ _ _ h => h) (by rfl) (by intro w'; go_simp; try with_reducible rfl) ?_
        try simp only [Act.put, pA,pB,pC]
        refine RegP.held1 (by (simp only [gA,gB,gC]); rfl) (by exact fun _ _ _ h => h) (by rfl) (by intro w' hS_; (try dsimp only at hS_); go_split_ands; go_simp; try with_reducible rfl) ?_
        try simp only [Act.put, pA,pB,pC]
        refine RegP.pure1 (by (simp only [gA,gB,gC]); rfl) (by exact fun _ _ _ h => h) (by rfl) (by intro w'; go_simp; try with_reducible rfl) ?_
        try simp only [Act.put, pA,pB,pC]
        refine RegP.pure1 (by (simp only [gA,gB,gC]); rfl) (by exact fun _ _ _ h => h) (by rfl) (by intro w'; go_simp; try with_reducible rfl) ?_
        try simp only [Act.put, pA,pB,pC]
        refine RegP.held1 (by (simp only [gA,gB,gC]); rfl) (by exact fun _ _ _ h => h) (by rfl) (by intro w' hS_; (try dsimp only at hS_); go_split_ands; go_simp; try with_reducible rfl) ?_
        try simp only [Act.put, pA,pB,pC]
        refine RegP.pure1 (by (simp only [gA,gB,gC]); rfl) (by exact fun _ _ _ h => h) (by rfl) (by intro w'; go_simp; try with_reducible rfl) ?_
        try simp only [Act.put, pA,pB,pC]
        refine RegP.pure1 (by (simp only [gA,gB,gC]); rfl) (by exact fun _ _ _ h => h) (by rfl) (by intro w'; go_simp; try with_reducible rfl) ?_
        try simp only [Act.put, pA,pB,pC]
        refine RegP.held1 (by (simp only [gA,gB,gC]); rfl) (by exact fun _ _ _ h => h) (by rfl) (by intro w' hS_; (try dsimp only at hS_); go_split_ands; go_simp; try with_reducible rfl) ?_
        try simp only [Act.put, pA,pB,pC]
        refine RegP.held1 (by (simp only [gA,gB,gC]); rfl) (by exact fun _ _ _ h => h) (by rfl) (by intro w' hS_; (try dsimp only at hS_); go_split_ands; go_simp; try with_reducible rfl) ?_
        try simp only [Act.put, pA,pB,pC]
        refine RegP.pure1 (by (simp only [gA,gB,gC]); rfl) (by exact fun _ _ _ h => h) (by rfl) (by intro w'; go_simp; try with_reducible rfl) ?_
        try simp only [Act.put, pA,pB,pC]
        refine RegP.pure1 (by (simp only [gA,gB,gC]); rfl) (by exact fun _ _ _ h => h) (by rfl) (by intro w'; go_simp; try with_reducible rfl) ?_
        try simp only [Act.put, pA,pB,pC]
        refine RegP.ev1 (by (simp only [gA,gB,gC]); rfl) (fun K hK => ?_)
        go_simp
        refine (need_no g.r g.line 10 _ (hI0.out.rd.below hB1.out).c4).mono ?_
        rintro e w2 ⟨rfl, rfl⟩
        exact ⟨rfl, Steps.bad hR.out ((hBox.out.mono hB0).trans (hB1.out.mono (Nat.le_trans hB0 hBox.out.size)))⟩
      | none =>
        have hR : Hid (ruleE st g.line [x, nm] = .ok { st with rules := st.rules ++ [⟨nm, none0, g.line⟩], inner := 1 }) := by show _ = _; rw [hR0, hra, if_pos ⟨rfl, rfl⟩]
        rw [hra] at hSB
        have hSB' : Hid (∀ W, Below w.heap.size w W → W.cell? ⟨ad.block, ad.off + 1, none⟩ = some (.string (B nm)) ∧ W.cell? ⟨g.r, 1, none⟩ = some (.map (some g.rm)) ∧
            (Instr.lookup 65 (.map (some g.rm)) (.string (B nm)) false).run Tryz.prog W = .ok (.pointer none) W) := hSB.out
        have hIH := Lib.hid hI
        have hNm := Lib.hid hnm
        have hRa := Lib.hid hra
        clear hR0 hnm hI hra hSB
        have hi1 : (1 : Int) < 2 := by decide
        have hmm := @run_makeMap Tryz.prog
        have hmf : ∀ (fn : Fn) (first cap : Array Value) (w : World), (Instr.makeFunc fn first cap).run Tryz.prog w = .ok (.func fn first cap) w := fun _ _ _ _ => rfl
        go_enter Tryz.func43, Tryz.ntmps43
        go_wp2_with fail
        generalize w.alloc (.cells #[at0 g.r] 62) = w0 at *
        have hc0 := (cell_of_heap (j := 0) hCell.out).trans rfl
        have hS0 : Hid (∀ W, Below w0.heap.size w0 W → W.cell? ⟨w.heap.size, 0, none⟩ = some (at0 g.r) ∧ W.cell? ⟨ad.block, ad.off + 1, none⟩ = some (.string (B nm)) ∧ W.cell? ⟨g.r, 1, none⟩ = some (.map (some g.rm)) ∧
            (Instr.lookup 65 (.map (some g.rm)) (.string (B nm)) false).run Tryz.prog W = .ok (.pointer none) W) :=
          fun W hb => ⟨(hb.cell (World.block_lt_of_cell? w0 _ hc0)).trans hc0, hSB'.out W (hBox.out.trans (hb.mono hBox.out.size))⟩
        refine RegP.regionH (fun w' => w'.cell? ⟨w.heap.size, 0, none⟩ = some (at0 g.r) ∧ w'.cell? ⟨ad.block, ad.off + 1, none⟩ = some (.string (B nm)) ∧ w'.cell? ⟨g.r, 1, none⟩ = some (.map (some g.rm)) ∧ (Instr.lookup 65 (.map (some g.rm)) (.string (B nm)) false).run Tryz.prog w' = .ok (.pointer none) w') [(1, 0), (0, 1), (0, 2), (0, 3), (0, 4), (0, 5), (0, 6), (1, 7), (2, 8), (0, 9), (0, 10), (1, 11), (0, 12), (0, 13), (1, 14), (0, 15), (0, 16), (1, 17), (1, 18), (0, 19), (0, 20), (2, 21)] (by kernel_rfl) (by kernel_rfl) (by rfl) (by kernel_rfl) (by exact hS0.out _ ((Below.refl _ _).drew)) ?_
        refine RegP.held1 (by (simp only [gA,gB,gC]); rfl) (by exact fun _ _ _ h => h) (by rfl) (by intro w' hS_; (try dsimp only at hS_); go_split_ands; go_simp; try with_reducible rfl) ?_
        try simp only [Act.put, pA,pB,pC]
        refine RegP.pure1 (by (simp only [gA,gB,gC]); rfl) (by exact fun _ _ _ h => h) (by rfl) (by intro w'; go_simp; try with_reducible rfl) ?_
        try simp only [Act.put, pA,pB,pC]
        refine RegP.pure1 (by (simp only [gA,gB,gC]); rfl) (by exact fun _ _ _ h => h) (by rfl) (by intro w'; go_simp; try with_reducible rfl) ?_
        try simp only [Act.put, pA,pB,pC]
        refine RegP.pure1 (by (simp only [gA,gB,gC]); rfl) (by exact fun _ _ _ h => h) (by rfl) (by intro w'; go_simp; try with_reducible rfl) ?_
        try simp only [Act.put, pA,pB,pC]
        refine RegP.pure1 (by (simp only [gA,gB,gC]); rfl) (by exact fun _ _ _ h => h) (by rfl) (by intro w'; go_simp; try with_reducible rfl) ?_
        try simp only [Act.put, pA,pB,pC]
        refine RegP.pure1 (by (simp only [gA,gB,gC]); rfl) (by exact fun _ _ _ h => h) (by rfl) (by intro w'; go_simp; try with_reducible rfl) ?_
        try simp only [Act.put, pA,pB,pC]
        refine RegP.pure1 (by (simp only [gA,gB,gC]); rfl) (by exact fun _ _ _ h => h) (by rfl) (by intro w'; go_simp; try with_reducible rfl) ?_
        try simp only [Act.put, pA,pB,pC]
        refine RegP.held1 (by (simp only [gA,gB,gC]); rfl) (by exact fun _ _ _ h => h) (by rfl) (by intro w' hS_; (try dsimp only at hS_); go_split_ands; go_simp; try with_reducible rfl) ?_
        try simp only [Act.put, pA,pB,pC]
        refine RegP.ev1 (by (simp only [gA,gB,gC]); rfl) (fun K hK => ?_)
        go_simp
        refine (hN.out _).mono ?_
        rintro e w1 ⟨rfl, hb1⟩
        have hB1 := Lib.hid (((Below.refl w0.heap.size w0).drew).trans hb1)
        clear hb1
        refine hK.out _ _ ?_ (fun hHeld => ?_)
        · (try dsimp only); exact hS0.out _ hB1.out
        clear hK K
        try simp only [Act.put, pA,pB,pC]
        refine RegP.pure1 (by (simp only [gA,gB,gC]); rfl) (by exact fun _ _ _ h => h) (by rfl) (by intro w'; go_simp; try with_reducible rfl) ?_
        try simp only [Act.put, pA,pB,pC]
        refine RegP.pure1 (by (simp only [gA,gB,gC]); rfl) (by exact fun _ _ _ h => h) (by rfl) (by intro w'; go_simp; try with_reducible rfl) ?_
        try simp only [Act.put, pA,pB,pC]
        refine RegP.held1 (by (simp only [gA,gB,gC]); rfl) (by exact fun _ _ _ h => h) (by rfl) (by intro w' hS_; (try dsimp only at hS_); go_split_ands; go_simp; try with_reducible rfl) ?_
        try simp only [Act.put, pA,pB,pC]
        refine RegP.pure1 (by (simp only [gA,gB,gC]); rfl) (by exact fun _ _ _ h => h) (by rfl) (by intro w'; go_simp; try with_reducible rfl) ?_
        try simp only [Act.put, pA,pB,pC]
        refine RegP.pure1 (by (simp only [gA,gB,gC]); rfl) (by exact fun _ _ _ h => h) (by rfl) (by intro w'; go_simp; try with_reducible rfl) ?_
        try simp only [Act.put, pA,pB,pC]
        refine RegP.held1 (by (simp only [gA,gB,gC]); rfl) (by exact fun _ _ _ h => h) (by rfl) (by intro w' hS_; (try dsimp only at hS_); go_split_ands; go_simp; try with_reducible rfl) ?_
        try simp only [Act.put, pA,pB,pC]
        refine RegP.pure1 (by (simp only [gA,gB,gC]); rfl) (by exact fun _ _ _ h => h) (by rfl) (by intro w'; go_simp; try with_reducible rfl) ?_
        try simp only [Act.put, pA,pB,pC]
        refine RegP.pure1 (by (simp only [gA,gB,gC]); rfl) (by exact fun _ _ _ h => h) (by rfl) (by intro w'; go_simp; try with_reducible rfl) ?_
        try simp only [Act.put, pA,pB,pC]
        refine RegP.held1 (by (simp only [gA,gB,gC]); rfl) (by exact fun _ _ _ h => h) (by rfl) (by intro w' hS_; (try dsimp only at hS_); go_split_ands; go_simp; try with_reducible rfl) ?_
        try simp only [Act.put, pA,pB,pC]
        refine RegP.held1 (by (simp only [gA,gB,gC]); rfl) (by exact fun _ _ _ h => h) (by rfl) (by intro w' hS_; (try dsimp only at hS_); go_split_ands; go_simp; try with_reducible rfl) ?_
        try simp only [Act.put, pA,pB,pC]
        refine RegP.pure1 (by (simp only [gA,gB,gC]); rfl) (by exact fun _ _ _ h => h) (by rfl) (by intro w'; go_simp; try with_reducible rfl) ?_
        try simp only [Act.put, pA,pB,pC]
        refine RegP.pure1 (by (simp only [gA,gB,gC]); rfl) (by exact fun _ _ _ h => h) (by rfl) (by intro w'; go_simp; try with_reducible rfl) ?_
        try simp only [Act.put, pA,pB,pC]
        refine RegP.ev1 (by (simp only [gA,gB,gC]); rfl) (fun K hK => ?_)
        go_simp
        refine (need_ok _ _ _).mono ?_
        rintro e w2 ⟨rfl, rfl⟩
        refine hK.out _ _ ?_ (fun hHeld => ?_)
        · (try dsimp only); exact hS0.out _ hB1.out
        clear hK K
        try simp only [Act.put, pA,pB,pC]
        refine RegP.done1 ?_
        have d0 := (hS0.out _ hB1.out).1
        have d4 : w1.cell? ⟨g.r, 4, none⟩ = some (.int .i64 (g.line : Int)) := (hI0.out.below hB1.out).cell 4
        have hlt1 : w.heap.size < w1.heap.size := Nat.lt_of_lt_of_le (lt_blk hCell.out) hB1.out.size
        have hgr1 : g.r < w1.heap.size := Nat.lt_of_lt_of_le (lt_blk hI0.out.hr) hB1.out.size
        have d0a : (w1.alloc (.map #[] 0)).cell? ⟨w.heap.size, 0, none⟩ = some (at0 g.r) := (((Below.refl w1.heap.size w1).alloc (Nat.le_refl _) _).cell (p := ⟨w.heap.size, 0, none⟩) hlt1).trans d0
        have d4a : (w1.alloc (.map #[] 0)).cell? ⟨g.r, 4, none⟩ = some (.int .i64 (g.line : Int)) := (((Below.refl w1.heap.size w1).alloc (Nat.le_refl _) _).cell (p := ⟨g.r, 4, none⟩) hgr1).trans d4
        clear hHeld
        try dsimp only
        go_wp2_with fail
        have hBz := Lib.hid ((((Below.refl w1.heap.size w1).alloc (Nat.le_refl _) (.map #[] 0)).alloc (by simp) (.cells #[.map (some w1.heap.size), .int .i64 (g.line : Int)] 101)).alloc (by simp; omega) (.cells #[at0 (w1.heap.size + 1)] 68))
        have z1 : Hid ((((w1.alloc (.map #[] 0)).alloc (.cells #[.map (some w1.heap.size), .int .i64 (g.line : Int)] 101)).alloc (.cells #[at0 (w1.heap.size + 1)] 68)).heap[w1.heap.size]? = some (.map #[] 0)) :=
          (Below.heap_alloc _ _ _ (by simp; omega)).trans ((Below.heap_alloc _ _ _ (by simp)).trans (heap_alloc_new w1 _))
        have z2 : Hid ((((w1.alloc (.map #[] 0)).alloc (.cells #[.map (some w1.heap.size), .int .i64 (g.line : Int)] 101)).alloc (.cells #[at0 (w1.heap.size + 1)] 68)).heap[w1.heap.size + 1]? = some (.cells #[.map (some w1.heap.size), .int .i64 (g.line : Int)] 101 (0, 0))) := by
          have h0 := heap_alloc_new (w1.alloc (.map #[] 0)) (.cells #[.map (some w1.heap.size), .int .i64 (g.line : Int)] 101)
          rw [World.size_alloc] at h0
          exact (Below.heap_alloc _ _ _ (by simp)).trans h0
        have z3 : Hid ((((w1.alloc (.map #[] 0)).alloc (.cells #[.map (some w1.heap.size), .int .i64 (g.line : Int)] 101)).alloc (.cells #[at0 (w1.heap.size + 1)] 68)).heap[w1.heap.size + 1 + 1]? = some (.cells #[at0 (w1.heap.size + 1)] 68 (0, 0))) := by
          have h0 := heap_alloc_new ((w1.alloc (.map #[] 0)).alloc (.cells #[.map (some w1.heap.size), .int .i64 (g.line : Int)] 101)) (.cells #[at0 (w1.heap.size + 1)] 68)
          rw [World.size_alloc, World.size_alloc] at h0
          exact h0
        generalize ((w1.alloc (.map #[] 0)).alloc (.cells #[.map (some w1.heap.size), .int .i64 (g.line : Int)] 101)).alloc (.cells #[at0 (w1.heap.size + 1)] 68) = wz at *
        have hIz := Lib.hid ((hI0.out.below hB1.out).below hBz.out)
        have hIzd := Lib.hid (hIz.out.below (Below.refl _ _).drew)
        obtain ⟨v0, stp, w4, hrunE, hgE, hthen⟩ := hIzd.out.mr.entry Tryz.underlying65 hz57 (by unfold maxLen; omega) nm (at0 (w1.heap.size + 1)) (by unfold maxLen; omega)
        obtain ⟨w5, hrunS, hV5, hg5⟩ := hthen w4 rfl
        have hrmlt := hIH.out.mr.lt
        have hgrw : g.r < w.heap.size := lt_blk hIH.out.hr
        have hsz1 : w0.heap.size ≤ w1.heap.size := hB1.out.size
        have hszz : w1.heap.size ≤ wz.heap.size := hBz.out.size
        have hsz4 : wz.heap.size ≤ w4.heap.size := hgE.size
        have hsz5 : w4.heap.size ≤ w5.heap.size := hg5.size
        have hszb : w.heap.size ≤ w0.heap.size := hBox.out.size
        have kz5 : Hid (∀ b, b < wz.heap.size → b ≠ g.rm → w5.heap[b]? = wz.heap[b]?) := fun b hb hne =>
          (hg5.block b (by omega) (fun e => hne (by injection e))).trans (hgE.block b hb (fun e => hne (by injection e)))
        have kz4 : Hid (∀ b, b < wz.heap.size → b ≠ g.rm → w4.heap[b]? = wz.heap[b]?) := fun b hb hne => hgE.block b hb (fun e => hne (by injection e))
        have hne1 : g.r ≠ g.rm := fun e => by have h1 := hIH.out.rr; rw [e, hIH.out.rrm] at h1; cases h1
        have hz2lt := lt_blk z2.out
        have hz3lt := lt_blk z3.out
        have hadlt : ad.block < w0.heap.size := World.block_lt_of_cell? w0 ⟨ad.block, ad.off + 1, none⟩ (hS0.out _ (Below.refl _ _)).2.1
        have hcz : Hid (wz.cell? ⟨w.heap.size, 0, none⟩ = some (at0 g.r) ∧ wz.cell? ⟨ad.block, ad.off + 1, none⟩ = some (.string (B nm)) ∧ wz.cell? ⟨g.r, 1, none⟩ = some (.map (some g.rm)) ∧ wz.cell? ⟨w1.heap.size + 1 + 1, 0, none⟩ = some (at0 (w1.heap.size + 1))) := by
          have hb : Below w0.heap.size w0 wz := hB1.out.trans (hBz.out.mono hB1.out.size)
          exact ⟨(hS0.out _ hb).1, (hS0.out _ hb).2.1, (hS0.out _ hb).2.2.1, (cell_of_heap (j := 0) z3.out).trans rfl⟩
        have hadm : ad.block ≠ g.rm := fun e => by
          have h1 := hcz.out.2.1
          obtain ⟨D, ⟨es, clock, hm, _⟩, _⟩ := hIz.out.mr
          rw [← e] at hm
          unfold World.cell? at h1
          simp [hm] at h1
        have S4 : Hid (w4.cell? ⟨w.heap.size, 0, none⟩ = some (at0 g.r) ∧ w4.cell? ⟨ad.block, ad.off + 1, none⟩ = some (.string (B nm)) ∧ w4.cell? ⟨g.r, 1, none⟩ = some (.map (some g.rm)) ∧ w4.cell? ⟨w1.heap.size + 1 + 1, 0, none⟩ = some (at0 (w1.heap.size + 1))) :=
          ⟨(World.cell?_of_block (a := ⟨w.heap.size, 0, none⟩) (kz4.out _ (by show w.heap.size < _; omega) (by show w.heap.size ≠ _; omega))).trans hcz.out.1, (World.cell?_of_block (a := ⟨ad.block, ad.off + 1, none⟩) (kz4.out _ (by show ad.block < _; omega) hadm)).trans hcz.out.2.1,
           (World.cell?_of_block (a := ⟨g.r, 1, none⟩) (kz4.out _ (by show g.r < _; omega) hne1)).trans hcz.out.2.2.1, (World.cell?_of_block (a := ⟨w1.heap.size + 1 + 1, 0, none⟩) (kz4.out _ hz3lt (by show w1.heap.size + 1 + 1 ≠ _; omega))).trans hcz.out.2.2.2⟩
        have S5 : Hid (w5.cell? ⟨w.heap.size, 0, none⟩ = some (at0 g.r) ∧ w5.cell? ⟨ad.block, ad.off + 1, none⟩ = some (.string (B nm)) ∧ w5.cell? ⟨g.r, 1, none⟩ = some (.map (some g.rm)) ∧ w5.cell? ⟨w1.heap.size + 1 + 1, 0, none⟩ = some (at0 (w1.heap.size + 1))) :=
          ⟨(World.cell?_of_block (a := ⟨w.heap.size, 0, none⟩) (kz5.out _ (by show w.heap.size < _; omega) (by show w.heap.size ≠ _; omega))).trans hcz.out.1, (World.cell?_of_block (a := ⟨ad.block, ad.off + 1, none⟩) (kz5.out _ (by show ad.block < _; omega) hadm)).trans hcz.out.2.1,
           (World.cell?_of_block (a := ⟨g.r, 1, none⟩) (kz5.out _ (by show g.r < _; omega) hne1)).trans hcz.out.2.2.1, (World.cell?_of_block (a := ⟨w1.heap.size + 1 + 1, 0, none⟩) (kz5.out _ hz3lt (by show w1.heap.size + 1 + 1 ≠ _; omega))).trans hcz.out.2.2.2⟩
        have hr5 : Hid (w5.heap[g.r]? = some (.cells #[at0 g.fb, .map (some g.rm), g.ve, g.vd, .int .i64 (g.line : Int), g.vi, g.vo] 70 (0, 0))) := (kz5.out _ (by omega) hne1).trans hIz.out.hr
        have c6 : w5.cell? ⟨g.r, 6, none⟩ = some g.vo := (cell_of_heap (j := 6) hr5.out).trans rfl
        have f6 := frozen_of_heap hr5.out 6
        have hr6 : Hid ((w5.setCell ⟨g.r, 6, none⟩ (at0 (w1.heap.size + 1))).heap[g.r]? = some (.cells #[at0 g.fb, .map (some g.rm), g.ve, g.vd, .int .i64 (g.line : Int), g.vi, at0 (w1.heap.size + 1)] 70 (0, 0))) := blk_put hr5.out 6 _ rfl
        have c5 : (w5.setCell ⟨g.r, 6, none⟩ (at0 (w1.heap.size + 1))).cell? ⟨g.r, 5, none⟩ = some g.vi := (cell_of_heap (j := 5) hr6.out).trans rfl
        have f5 := frozen_of_heap hr6.out 5
        have hS6 : Hid ((w5.setCell ⟨g.r, 6, none⟩ (at0 (w1.heap.size + 1))).cell? ⟨w.heap.size, 0, none⟩ = some (at0 g.r) ∧ (w5.setCell ⟨g.r, 6, none⟩ (at0 (w1.heap.size + 1))).cell? ⟨ad.block, ad.off + 1, none⟩ = some (.string (B nm)) ∧ (w5.setCell ⟨g.r, 6, none⟩ (at0 (w1.heap.size + 1))).cell? ⟨g.r, 1, none⟩ = some (.map (some g.rm)) ∧ (w5.setCell ⟨g.r, 6, none⟩ (at0 (w1.heap.size + 1))).cell? ⟨w1.heap.size + 1 + 1, 0, none⟩ = some (at0 (w1.heap.size + 1))) := by
          have hgr0 := lt_blk hIH.out.hr
          refine ⟨(cell_far (a := ⟨w.heap.size, 0, none⟩) (p := ⟨g.r, 6, none⟩) (by show w.heap.size ≠ g.r; omega) _).trans S5.out.1, ?_, (cell_of_heap (j := 1) hr6.out).trans rfl, (cell_far (a := ⟨w1.heap.size + 1 + 1, 0, none⟩) (p := ⟨g.r, 6, none⟩) (by show w1.heap.size + 1 + 1 ≠ g.r; omega) _).trans S5.out.2.2.2⟩
          refine (cell_far (a := ⟨ad.block, ad.off + 1, none⟩) (p := ⟨g.r, 6, none⟩) (fun e => ?_) _).trans S5.out.2.1
          have h1 := hcz.out.2.1
          rw [show ad.block = g.r from e] at h1
          exact hIz.out.nostr _ _ h1
        have hfin := Lib.hid (hIH.out.ruleNew (w2 := w5) nm hNm.out hRa.out w1.heap.size (w1.heap.size + 1) w.heap.size (w1.heap.size + 1 + 1) (by omega) (by omega) (Nat.le_refl _) (by omega) (by omega)
          (fun b hb hne => ((kz5.out b (by omega) hne).trans (hBz.out.block b (by omega))).trans ((hB1.out.block b (by omega)).trans (hBox.out.block b hb)))
          ((kz5.out _ hz2lt (by omega)).trans z2.out) ((OwnsM.made_at z1.out).same (kz5.out _ (lt_blk z1.out) (by omega))) ((kz5.out _ (by omega) (by omega)).trans ((hBz.out.block _ hlt1).trans ((hB1.out.block _ (lt_blk hCell.out)).trans hCell.out))) ((kz5.out _ hz3lt (by omega)).trans z3.out) hV5)
        have hBf : Hid (Below B0 w w5) := by
          have h0 : Below w.heap.size w wz := hBox.out.trans ((hB1.out.mono hBox.out.size).trans (hBz.out.mono (by omega)))
          have h1 : Below B0 wz w4 := (((Below.refl B0 wz).drew).grown hgE (by show B0 ≤ wz.heap.size; omega) (fun k hk => by injection hk with hk; rw [← hk]; exact hIH.out.new _ (by rw [hIH.out.rrm]; decide)))
          exact (h0.mono hB0).trans (h1.grown hg5 (by omega) (fun k hk => by injection hk with hk; rw [← hk]; exact hIH.out.new _ (by rw [hIH.out.rrm]; decide)))
        have hC0 := Lib.hid hcz.out
        clear hthen hgE hg5 hV5 d0 d4 d0a d4a hrd hc0
        refine RegP.regionH (fun w' => w'.cell? ⟨w.heap.size, 0, none⟩ = some (at0 g.r) ∧ w'.cell? ⟨ad.block, ad.off + 1, none⟩ = some (.string (B nm)) ∧ w'.cell? ⟨g.r, 1, none⟩ = some (.map (some g.rm)) ∧ w'.cell? ⟨w1.heap.size + 1 + 1, 0, none⟩ = some (at0 (w1.heap.size + 1))) [(1, 0), (0, 1), (0, 2), (1, 3), (0, 4), (0, 5), (1, 6), (1, 7), (1, 8), (1, 9), (2, 10), (0, 11), (2, 12), (0, 13), (0, 14), (2, 15)] (by kernel_rfl) (by kernel_rfl) (by rfl) (by kernel_rfl) (by exact hC0.out) ?_
        refine RegP.held1 (by (simp only [gA,gB,gC]); rfl) (by exact fun _ _ _ h => h) (by rfl) (by intro w' hS_; (try dsimp only at hS_); go_split_ands; go_simp; try with_reducible rfl) ?_
        try simp only [Act.put, pA,pB,pC]
        refine RegP.pure1 (by (simp only [gA,gB,gC]); rfl) (by exact fun _ _ _ h => h) (by rfl) (by intro w'; go_simp; try with_reducible rfl) ?_
        try simp only [Act.put, pA,pB,pC]
        refine RegP.pure1 (by (simp only [gA,gB,gC]); rfl) (by exact fun _ _ _ h => h) (by rfl) (by intro w'; go_simp; try with_reducible rfl) ?_
        try simp only [Act.put, pA,pB,pC]
        refine RegP.held1 (by (simp only [gA,gB,gC]); rfl) (by exact fun _ _ _ h => h) (by rfl) (by intro w' hS_; (try dsimp only at hS_); go_split_ands; go_simp; try with_reducible rfl) ?_
        try simp only [Act.put, pA,pB,pC]
        refine RegP.pure1 (by (simp only [gA,gB,gC]); rfl) (by exact fun _ _ _ h => h) (by rfl) (by intro w'; go_simp; try with_reducible rfl) ?_
        try simp only [Act.put, pA,pB,pC]
        refine RegP.pure1 (by (simp only [gA,gB,gC]); rfl) (by exact fun _ _ _ h => h) (by rfl) (by intro w'; go_simp; try with_reducible rfl) ?_
        try simp only [Act.put, pA,pB,pC]
        refine RegP.held1 (by (simp only [gA,gB,gC]); rfl) (by exact fun _ _ _ h => h) (by rfl) (by intro w' hS_; (try dsimp only at hS_); go_split_ands; go_simp; try with_reducible rfl) ?_
        try simp only [Act.put, pA,pB,pC]
        refine RegP.held1 (by (simp only [gA,gB,gC]); rfl) (by exact fun _ _ _ h => h) (by rfl) (by intro w' hS_; (try dsimp only at hS_); go_split_ands; go_simp; try with_reducible rfl) ?_
        try simp only [Act.put, pA,pB,pC]
        refine RegP.held1 (by (simp only [gA,gB,gC]); rfl) (by exact fun _ _ _ h => h) (by rfl) (by intro w' hS_; (try dsimp only at hS_); go_split_ands; go_simp; try with_reducible rfl) ?_
        try simp only [Act.put, pA,pB,pC]
        refine RegP.held1 (by (simp only [gA,gB,gC]); rfl) (by exact fun _ _ _ h => h) (by rfl) (by intro w' hS_; (try dsimp only at hS_); go_split_ands; go_simp; try with_reducible rfl) ?_
        try simp only [Act.put, pA,pB,pC]
        refine RegP.ev1 (by (simp only [gA,gB,gC]); rfl) (fun K hK => ?_)
        go_simp
        refine hK.out _ _ ?_ (fun hHeld => ?_)
        · (try dsimp only); exact S4.out
        clear hK K
        try simp only [Act.put, pA,pB,pC]
        refine RegP.pure1 (by (simp only [gA,gB,gC]); rfl) (by exact fun _ _ _ h => h) (by rfl) (by intro w'; go_simp; try with_reducible rfl) ?_
        try simp only [Act.put, pA,pB,pC]
        refine RegP.ev1 (by (simp only [gA,gB,gC]); rfl) (fun K hK => ?_)
        go_simp
        refine hK.out _ _ ?_ (fun hHeld => ?_)
        · (try dsimp only); exact S5.out
        clear hK K
        try simp only [Act.put, pA,pB,pC]
        refine RegP.pure1 (by (simp only [gA,gB,gC]); rfl) (by exact fun _ _ _ h => h) (by rfl) (by intro w'; go_simp; try with_reducible rfl) ?_
        try simp only [Act.put, pA,pB,pC]
        refine RegP.pure1 (by (simp only [gA,gB,gC]); rfl) (by exact fun _ _ _ h => h) (by rfl) (by intro w'; go_simp; try with_reducible rfl) ?_
        try simp only [Act.put, pA,pB,pC]
        refine RegP.ev1 (by (simp only [gA,gB,gC]); rfl) (fun K hK => ?_)
        go_simp
        refine hK.out _ _ ?_ (fun hHeld => ?_)
        · (try dsimp only); exact hS6.out
        clear hK K
        try simp only [Act.put, pA,pB,pC]
        refine RegP.done1 ?_
        try dsimp only
        go_wp2_with fail
        go_end0
        obtain ⟨g', q1, q2, q3⟩ := hfin.out
        exact Steps.fin hR.out q1 q2 (by omega) ((hBf.out.setCell hg0 _).setCell hg0 _)
  · have hR : Hid (ruleE st g.line ws = .error (g.line, 10)) := by
      show _ = _
      rcases ws with _ | ⟨x, _ | ⟨y, _ | ⟨z, r⟩⟩⟩
      · rfl
      · rfl
      · simp at h2
      · rfl
    have hb2 : ((ws.length : Int) == 2) = false := by rw [beq_eq_false_iff_ne]; omega
    clear hl hI hW
    generalize ws.length = n at *
    go_enter Tryz.func43, Tryz.ntmps43
    go_wp2_with fail
    generalize w.alloc (.cells #[at0 g.r] 62) = w0 at *
    have hc0 := (cell_of_heap (j := 0) hCell.out).trans rfl
    refine RegP.regionH (fun w' => w'.cell? ⟨w.heap.size, 0, none⟩ = some (at0 g.r)) [(1, 0), (0, 1), (0, 2), (0, 3), (0, 4), (4, 5), (4, 6), (4, 7), (4, 8), (0, 9), (0, 10), (4, 11), (4, 12), (4, 13), (4, 14), (4, 15), (4, 16), (4, 17), (4, 18), (4, 19), (0, 20), (2, 21)] (by kernel_rfl) (by kernel_rfl) (by rfl) (by kernel_rfl) (by exact hc0) ?_
    refine RegP.held1 (by (simp only [gA,gB,gC]); rfl) (by exact fun _ _ _ h => h) (by rfl) (by intro w' hS_; (try dsimp only at hS_); go_split_ands; go_simp; try with_reducible rfl) ?_
    try simp only [Act.put, pA,pB,pC]
    refine RegP.pure1 (by (simp only [gA,gB,gC]); rfl) (by exact fun _ _ _ h => h) (by rfl) (by intro w'; go_simp; try with_reducible rfl) ?_
    try simp only [Act.put, pA,pB,pC]
    refine RegP.pure1 (by (simp only [gA,gB,gC]); rfl) (by exact fun _ _ _ h => h) (by rfl) (by intro w'; go_simp; try with_reducible rfl) ?_
    try simp only [Act.put, pA,pB,pC]
    refine RegP.pure1 (by (simp only [gA,gB,gC]); rfl) (by exact fun _ _ _ h => h) (by rfl) (by intro w'; go_simp; try with_reducible rfl) ?_
    try simp only [Act.put, pA,pB,pC]
    refine RegP.pure1 (by (simp only [gA,gB,gC]); rfl) (by exact fun _ _ _ h => h) (by rfl) (by intro w'; go_simp; try with_reducible rfl) ?_
    try simp only [Act.put, pA,pB,pC]
    refine RegP.skip1 (by (simp only [gA,gB,gC]); rfl) (by exact fun _ _ _ h => h) (by rfl) ?_
    try simp only [Act.put, pA,pB,pC]
    refine RegP.skip1 (by (simp only [gA,gB,gC]); rfl) (by exact fun _ _ _ h => h) (by rfl) ?_
    try simp only [Act.put, pA,pB,pC]
    refine RegP.skip1 (by (simp only [gA,gB,gC]); rfl) (by exact fun _ _ _ h => h) (by rfl) ?_
    try simp only [Act.put, pA,pB,pC]
    refine RegP.skip1 (by (simp only [gA,gB,gC]); rfl) (by exact fun _ _ _ h => h) (by rfl) ?_
    try simp only [Act.put, pA,pB,pC]
    refine RegP.pure1 (by (simp only [gA,gB,gC]); rfl) (by exact fun _ _ _ h => h) (by rfl) (by intro w'; go_simp; try with_reducible rfl) ?_
    try simp only [Act.put, pA,pB,pC]
    refine RegP.pure1 (by (simp only [gA,gB,gC]); rfl) (by exact fun _ _ _ h => h) (by rfl) (by intro w'; go_simp; try with_reducible rfl) ?_
    try simp only [Act.put, pA,pB,pC]
    refine RegP.skip1 (by (simp only [gA,gB,gC]); rfl) (by exact fun _ _ _ h => h) (by rfl) ?_
    try simp only [Act.put, pA,pB,pC]
    refine RegP.skip1 (by (simp only [gA,gB,gC]); rfl) (by exact fun _ _ _ h => h) (by rfl) ?_
    try simp only [Act.put, pA,pB,pC]
    refine RegP.skip1 (by (simp only [gA,gB,gC]); rfl) (by exact fun _ _ _ h => h) (by rfl) ?_
    try simp only [Act.put, pA,pB,pC]
    refine RegP.skip1 (by (simp only [gA,gB,gC]); rfl) (by exact fun _ _ _ h => h) (by rfl) ?_
    try simp only [Act.put, pA,pB,pC]
    refine RegP.skip1 (by (simp only [gA,gB,gC]); rfl) (by exact fun _ _ _ h => h) (by rfl) ?_
    try simp only [Act.put, pA,pB,pC]
    refine RegP.skip1 (by (simp only [gA,gB,gC]); rfl) (by exact fun _ _ _ h => h) (by rfl) ?_
    try simp only [Act.put, pA,pB,pC]
    refine RegP.skip1 (by (simp only [gA,gB,gC]); rfl) (by exact fun _ _ _ h => h) (by rfl) ?_
    try simp only [Act.put, pA,pB,pC]
    refine RegP.skip1 (by (simp only [gA,gB,gC]); rfl) (by exact fun _ _ _ h => h) (by rfl) ?_
    try simp only [Act.put, pA,pB,pC]
    refine RegP.skip1 (by (simp only [gA,gB,gC]); rfl) (by exact fun _ _ _ h => h) (by rfl) ?_
    try simp only [Act.put, pA,pB,pC]
    refine RegP.pure1 (by (simp only [gA,gB,gC]); rfl) (by exact fun _ _ _ h => h) (by rfl) (by intro w'; go_simp; try with_reducible rfl) ?_
    try simp only [Act.put, pA,pB,pC]
    refine RegP.ev1 (by (simp only [gA,gB,gC]); rfl) (fun K hK => ?_)
    go_simp
    refine (need_no g.r g.line 10 _ (hI0.out.rd.below ((Below.refl w0.heap.size w0).drew)).c4).mono ?_
    rintro e w2 ⟨rfl, rfl⟩
    exact ⟨rfl, Steps.bad hR.out ((hBox.out.mono hB0).trans (((Below.refl w0.heap.size w0).drew).mono (Nat.le_trans hB0 hBox.out.size)))⟩
end Go.Proofs.YtbjekebkgidhaaaGreatDoor.Mf
end
section
set_option linter.unusedSimpArgs false
set_option linter.unusedVariables false
namespace Go.Proofs.YtbjekebkgidhaaaGreatDoor.Mf
open Go.RowKit Go.Lib Go.Shelf Go.Maps Go.Proofs.YtbjekebkgidhaaaGreatDoorW.PrintWords Go.Proofs.YtbjekebkgidhaaaGreatDoor.U Go.Proofs.YtbjekebkgidhaaaGreatDoor.Sc Go.Proofs.YtbjekebkgidhaaaGreatDoor.P Go.Proofs.YtbjekebkgidhaaaGreatDoor.MapV
theorem onLast_get {α : Type} (f : α → α) : ∀ (l : List α) (i : Nat), (onLast f l)[i]? = if i + 1 = l.length then (l[i]?).map f else l[i]?
  | [], i => by simp [onLast]
  | [x], i => by
    cases i with
    | zero => simp [onLast]
    | succ i => simp [onLast]
  | x :: y :: r, i => by
    cases i with
    | zero => simp [onLast]
    | succ i =>
      have := onLast_get f (y :: r) i
      simp only [onLast, List.getElem?_cons_succ, List.length_cons] at this ⊢
      rw [this]
      by_cases h : i + 1 = r.length + 1
      · rw [if_pos h, if_pos (by omega)]
      · rw [if_neg h, if_neg (by omega)]
theorem onLast_len {α : Type} (f : α → α) : ∀ l : List α, (onLast f l).length = l.length
  | [] => rfl
  | [x] => rfl
  | x :: y :: r => by simp only [onLast, List.length_cons]; rw [onLast_len f (y :: r)]; rfl
theorem onLast_map {α β : Type} (f : α → α) (p : α → β) (hf : ∀ x, p (f x) = p x) : ∀ l : List α, (onLast f l).map p = l.map p
  | [] => rfl
  | [x] => by simp [onLast, hf]
  | x :: y :: r => by simp only [onLast, List.map_cons]; rw [onLast_map f p hf (y :: r)]; rfl
theorem ruleAt_map (rs : List RuleS) (k : Txt) : ruleAt rs k = (rs.map (·.name)).findIdx? (fun n => n == k) := by
  unfold ruleAt; rw [List.findIdx?_map]; rfl
theorem onLast_at {α : Type} (f : α → α) (l : List α) (i : Nat) (h : i < (onLast f l).length) (h' : i < l.length) : (onLast f l)[i] = if i + 1 = l.length then f l[i] else l[i] := by
  have := onLast_get f l i
  rw [List.getElem?_eq_getElem h, List.getElem?_eq_getElem h'] at this
  by_cases e : i + 1 = l.length
  · rw [if_pos e] at this ⊢; exact Option.some.inj this
  · rw [if_neg e] at this ⊢; exact Option.some.inj this
def Inner (B0 : Nat) (g : Mem) (s0 : St) (r : Except Er St) (w : World) (e : Ending) (w' : World) : Prop :=
  match r with
  | .ok st => e = .returned (.tuple #[]) ∧ (∃ g', Inv B0 w' g' st ∧ g'.r = g.r ∧ g'.n ≤ g.n + 1) ∧ Below B0 w w' ∧ ∀ b, b < w.heap.size → (∀ i, i < s0.rules.length → b ≠ g.tb i) → (∀ j, j < s0.edges.length → b ≠ g.mb j) → w'.heap[b]? = w.heap[b]?
  | .error x => e = wr x.1 x.2 ∧ Below B0 w w'
theorem Inner.fin {B0 : Nat} {s0 : St} {g g' : Mem} {r : Except Er St} {w w' : World} {st : St} (h : r = .ok st) (hi : Inv B0 w' g' st) (hr : g'.r = g.r) (hn : g'.n ≤ g.n + 1) (hb : Below B0 w w') (he : ∀ b, b < w.heap.size → (∀ i, i < s0.rules.length → b ≠ g.tb i) → (∀ j, j < s0.edges.length → b ≠ g.mb j) → w'.heap[b]? = w.heap[b]?) : Inner B0 g s0 r w (.returned (.tuple #[])) w' := by
  subst h; exact ⟨rfl, ⟨g', hi, hr, hn⟩, hb, he⟩
theorem Inner.bad {B0 : Nat} {s0 : St} {g : Mem} {r : Except Er St} {w w' : World} {l : Nat} {c : Int} (h : r = .error (l, c)) (hb : Below B0 w w') : Inner B0 g s0 r w (wr l c) w' := by
  subst h; exact ⟨rfl, hb⟩
theorem Inv.ruleSet {B0 : Nat} {w w' : World} {g : Mem} {st : St} (h : Inv B0 w g st) (hl : 0 < st.rules.length) (hg : w.grownBy w' (some (g.tb (st.rules.length - 1)))) (k t : Txt) (ht : t.length ≤ 16384)
    (ho : OwnsM w' (g.tb (st.rules.length - 1)) (g.n + 1) (upd (st.rules[st.rules.length - 1]).texts k t)) :
    Inv B0 w' { g with n := g.n + 1 } { st with rules := onLast (fun r => { r with texts := upd r.texts k t }) st.rules } := by
  have hru := h.rules (st.rules.length - 1) (by omega)
  have hlen : (onLast (fun r : RuleS => { r with texts := upd r.texts k t }) st.rules).length = st.rules.length := onLast_len _ _
  have K : Grow st.rules.length st.edges.length (fun r => r = .tmap (st.rules.length - 1)) w w' g { g with n := g.n + 1 } := by
    refine ⟨hg.size, fun b hb hx => hg.block b hb (fun e => hx ?_), fun _ _ => rfl, rfl, fun _ _ => ⟨rfl, rfl⟩, fun _ _ => ⟨rfl, rfl, rfl, rfl, rfl, rfl, rfl⟩, Nat.le_succ _⟩
    injection e with e; rw [e]; exact hru.rt
  have hm : (fun x => (ruleAt (onLast (fun r : RuleS => { r with texts := upd r.texts k t }) st.rules) x).map fun i => at0 (g.rb i)) = fun x => (ruleAt st.rules x).map fun i => at0 (g.rb i) := by
    funext x
    rw [ruleAt_map, ruleAt_map, onLast_map (fun r : RuleS => { r with texts := upd r.texts k t }) (·.name) (fun _ => rfl)]
  refine ⟨Nat.le_trans h.base K.size, h.new, h.rr, K.blk h.hr h.rr (by simp), h.rf, K.blk h.hf h.rf (by simp), h.rfm, (K.mapM h.mf h.rfm (by simp)).mono (Nat.le_succ _), h.sf, h.rrm, ?_, ?_, ?_, h.ne, K.row h.oe h.roe (by simp), h.roe, K.row h.od h.rod (by simp), h.rod, h.nd, ?_⟩
  · show OwnsV w' g.rm (g.n + 1) _
    rw [hm]; exact (K.mapV h.mr h.rrm (by simp)).mono (Nat.le_succ _)
  · intro i hi
    have hi' : i < st.rules.length := by rw [← hlen]; exact hi
    have hri := h.rules i hi'
    show RuleAt w' _ i (onLast _ st.rules)[i]
    rw [onLast_at _ _ i hi hi']
    by_cases e : i + 1 = st.rules.length
    · obtain rfl : i = st.rules.length - 1 := by omega
      rw [if_pos e]
      exact ⟨hri.rr, hri.rt, K.blk hri.hb hri.rr (by simp), ho, hri.nm, hri.sh.upd ht⟩
    · rw [if_neg e]
      exact hri.grow K hi' (by simp) (by simp; omega)
  · intro j hj
    exact (h.edges j hj).grow K hj (by show _ ≤ (onLast _ st.rules).length; rw [hlen]; exact Nat.le_refl _) (by simp) (by simp) (by simp)
  · have h0 := h.inn.grow K (by simp) rfl rfl rfl
    unfold InnAt at h0 ⊢
    simp only [hlen]
    exact h0
def isKey (nm : Txt) : Bool := containsS [B kCommand, B kDepfile, B kDescription] (B nm)
theorem isKey_iff (nm : Txt) : isKey nm = true ↔ (nm = kCommand ∨ nm = kDepfile ∨ nm = kDescription) := by
  unfold isKey
  rw [containsS_iff]
  simp only [List.mem_cons, List.not_mem_nil, or_false]
  constructor
  · rintro (h | h | h)
    · exact .inl (B_inj h)
    · exact .inr (.inl (B_inj h))
    · exact .inr (.inr (B_inj h))
  · rintro (h | h | h)
    · exact .inl (by rw [h])
    · exact .inr (.inl (by rw [h]))
    · exact .inr (.inr (by rw [h]))
theorem keys_any (nm : Txt) (b : Nat) (W : World) (h : W.heap[b]? = some (.cells #[.string ⟨#[99, 111, 109, 109, 97, 110, 100]⟩, .string ⟨#[100, 101, 112, 102, 105, 108, 101]⟩, .string ⟨#[100, 101, 115, 99, 114, 105, 112, 116, 105, 111, 110]⟩] 9 (0, 0))) :
    Calls Tryz.prog 73 #[.slice (some ⟨b, 0, none⟩) 3 3, .string (B nm)] W fun e w' => e = .returned (.bool (isKey nm)) ∧ W = w' := by
  refine (Tryz.slices_Contains_string b 0 3 3 [B kCommand, B kDepfile, B kDescription] (B nm) W (by decide) (by decide) (fun j hj => ?_)).mono fun e w' ⟨h1, h2⟩ => ⟨h1, h2.symm⟩
  rw [Nat.zero_add, cell_of_heap h]
  match j, hj with
  | 0, _ => rfl
  | 1, _ => rfl
  | 2, _ => rfl
set_option maxRecDepth 100000 in
set_option maxHeartbeats 8000000 in
theorem ruleIn_any (B0 : Nat) (g : Mem) (st : St) (nm text : Txt) (p q : Nat) (w : World) (hI : Inv B0 w g st) (hin : st.inner = 1) (hvi : g.vi = .func (.func 72) #[] #[at0 p, at0 q])
    (hnl : nm.length ≤ 1000000) (htl : text.length ≤ 16384) (hgn : g.n < 1000000) :
    Calls Tryz.prog 72 #[.string (B nm), .string (B text), at0 p, at0 q] w
      (Inner B0 g st (if nm = kCommand ∨ nm = kDepfile ∨ nm = kDescription then .ok { st with rules := onLast (fun r => { r with texts := upd r.texts nm text }) st.rules } else .error (g.line, 10)) w) := by
  obtain ⟨RR, hRR⟩ : ∃ RR, (if nm = kCommand ∨ nm = kDepfile ∨ nm = kDescription then Except.ok { st with rules := onLast (fun r => { r with texts := upd r.texts nm text }) st.rules } else .error (g.line, 10) : Except Er St) = RR := ⟨_, rfl⟩
  rw [hRR]
  obtain ⟨hlp, hpr, hqr, hp, hq⟩ : 0 < st.rules.length ∧ g.role p = .still ∧ g.role q = .still ∧ w.heap[p]? = some (.cells #[at0 g.r] 62 (0, 0)) ∧ w.heap[q]? = some (.cells #[at0 (g.rb (st.rules.length - 1))] 68 (0, 0)) := by
    rcases hI.inn with ⟨a, _⟩ | ⟨a, b, _, p', q', c, d, e, f, k⟩ | ⟨a, _⟩
    · omega
    · rw [hvi] at c
      injection c with c1 c2 c3
      have h1 : p = p' := by have := congrArg (fun x => x[0]?) c3; simpa [at0] using this
      have h2 : q = q' := by have := congrArg (fun x => x[1]?) c3; simpa [at0] using this
      subst h1 h2
      exact ⟨b, d, e, f, k⟩
    · omega
  have hru := hI.rules (st.rules.length - 1) (by omega)
  have hB0 := hI.base
  have hKeys := Lib.hid (fun b W h => keys_any nm b W h)
  have c0 : w.cell? ⟨p, 0, none⟩ = some (at0 g.r) := (cell_of_heap (j := 0) hp).trans rfl
  have hplt := lt_blk hp
  have hbA := Lib.hid (((Below.refl w.heap.size w).alloc (Nat.le_refl _) (.cells #[.string ⟨#[99, 111, 109, 109, 97, 110, 100]⟩, .string ⟨#[100, 101, 112, 102, 105, 108, 101]⟩, .string ⟨#[100, 101, 115, 99, 114, 105, 112, 116, 105, 111, 110]⟩] 9)).drew)
  have hnA : Hid (((w.alloc (.cells #[.string ⟨#[99, 111, 109, 109, 97, 110, 100]⟩, .string ⟨#[100, 101, 112, 102, 105, 108, 101]⟩, .string ⟨#[100, 101, 115, 99, 114, 105, 112, 116, 105, 111, 110]⟩] 9)).drew).heap[w.heap.size]? = some (.cells #[.string ⟨#[99, 111, 109, 109, 97, 110, 100]⟩, .string ⟨#[100, 101, 112, 102, 105, 108, 101]⟩, .string ⟨#[100, 101, 115, 99, 114, 105, 112, 116, 105, 111, 110]⟩] 9 (0, 0))) := heap_alloc_new w _
  have hcA : ((w.alloc (.cells #[.string ⟨#[99, 111, 109, 109, 97, 110, 100]⟩, .string ⟨#[100, 101, 112, 102, 105, 108, 101]⟩, .string ⟨#[100, 101, 115, 99, 114, 105, 112, 116, 105, 111, 110]⟩] 9)).drew).cell? ⟨p, 0, none⟩ = some (at0 g.r) := (hbA.out.cell (p := ⟨p, 0, none⟩) hplt).trans c0
  cases hk : isKey nm with
  | false =>
    have hR : Hid (RR = .error (g.line, 10)) := by
      show RR = _
      rw [← hRR, if_neg]
      intro hc
      rw [(isKey_iff nm).2 hc] at hk; cases hk
    have hrdA := Lib.hid (hI.rd.below hbA.out)
    rw [hk] at hKeys
    clear hk hRR hI hvi hru hp hq
    go_enter Tryz.func72, Tryz.ntmps72
    go_wp2_with fail
    refine RegP.regionH (fun w' => w'.cell? ⟨p, 0, none⟩ = some (at0 g.r)) [(1, 0), (0, 2), (2, 1), (2, 3), (2, 4)] (by kernel_rfl) (by kernel_rfl) (by rfl) (by kernel_rfl) (by exact c0) ?_
    refine RegP.held1 (by (simp only [gA,gB,gC]); rfl) (by exact fun _ _ _ h => h) (by rfl) (by intro w' hS_; (try dsimp only at hS_); go_split_ands; go_simp; try with_reducible rfl) ?_
    try simp only [Act.put, pA,pB,pC]
    refine RegP.pure1 (by (simp only [gA,gB,gC]); rfl) (by exact fun _ _ _ h => h) (by rfl) (by intro w'; go_simp; try with_reducible rfl) ?_
    try simp only [Act.put, pA,pB,pC]
    refine RegP.ev1 (by (simp only [gA,gB,gC]); rfl) (fun K hK => ?_)
    go_simp
    generalize (w.alloc (.cells #[.string ⟨#[99, 111, 109, 109, 97, 110, 100]⟩, .string ⟨#[100, 101, 112, 102, 105, 108, 101]⟩, .string ⟨#[100, 101, 115, 99, 114, 105, 112, 116, 105, 111, 110]⟩] 9)).drew = wA at *
    refine hK.out _ _ ?_ (fun hHeld => ?_)
    · (try dsimp only); exact hcA
    clear hK K
    try simp only [Act.put, pA,pB,pC]
    refine RegP.ev1 (by (simp only [gA,gB,gC]); rfl) (fun K hK => ?_)
    go_simp
    refine (hKeys.out w.heap.size _ hnA.out).mono ?_
    rintro e w3 ⟨rfl, rfl⟩
    refine hK.out _ _ ?_ (fun hHeld => ?_)
    · (try dsimp only); exact hcA
    clear hK K
    try simp only [Act.put, pA,pB,pC]
    refine RegP.ev1 (by (simp only [gA,gB,gC]); rfl) (fun K hK => ?_)
    go_simp
    refine (need_no g.r g.line 10 _ hrdA.out.c4).mono ?_
    rintro e w4 ⟨rfl, rfl⟩
    exact ⟨rfl, Inner.bad hR.out (hbA.out.mono hB0)⟩
  | true =>
    have hR : Hid (RR = .ok { st with rules := onLast (fun r => { r with texts := upd r.texts nm text }) st.rules }) := by
      show RR = _
      rw [← hRR, if_pos ((isKey_iff nm).1 hk)]
    have hIA := Lib.hid (hI.below hbA.out)
    have hruA := hIA.out.rules (st.rules.length - 1) (by omega)
    have d0 : ((w.alloc (.cells #[.string ⟨#[99, 111, 109, 109, 97, 110, 100]⟩, .string ⟨#[100, 101, 112, 102, 105, 108, 101]⟩, .string ⟨#[100, 101, 115, 99, 114, 105, 112, 116, 105, 111, 110]⟩] 9)).drew).cell? ⟨q, 0, none⟩ = some (at0 (g.rb (st.rules.length - 1))) := (hbA.out.cell (p := ⟨q, 0, none⟩) (lt_blk hq)).trans ((cell_of_heap (j := 0) hq).trans rfl)
    have d1 : ((w.alloc (.cells #[.string ⟨#[99, 111, 109, 109, 97, 110, 100]⟩, .string ⟨#[100, 101, 112, 102, 105, 108, 101]⟩, .string ⟨#[100, 101, 115, 99, 114, 105, 112, 116, 105, 111, 110]⟩] 9)).drew).cell? ⟨g.rb (st.rules.length - 1), 0, none⟩ = some (.map (some (g.tb (st.rules.length - 1)))) := (cell_of_heap (j := 0) hruA.hb).trans rfl
    obtain ⟨w5, hrun, hO, hg5⟩ := hruA.ht.store (by unfold maxLen; omega) nm text (by unfold maxLen; omega) (by unfold maxLen; omega)
    have hfin := Lib.hid (hIA.out.ruleSet hlp hg5 nm text htl hO)
    have hrm : Hid (B0 ≤ g.tb (st.rules.length - 1)) := hI.new _ (by rw [hru.rt]; simp)
    have hner : Hid (some g.r ≠ some (g.tb (st.rules.length - 1))) := by
      intro e; injection e with e
      have h1 := hI.rr; rw [e, hru.rt] at h1; cases h1
    have hgr := lt_blk hI.hr
    have hbf : Hid (Below B0 w w5 ∧ ∀ b, b < w.heap.size → (∀ i, i < st.rules.length → b ≠ g.tb i) → (∀ j, j < st.edges.length → b ≠ g.mb j) → w5.heap[b]? = w.heap[b]?) := by
      refine ⟨(hbA.out.mono hB0).grown hg5 (Nat.le_trans hB0 hbA.out.size) (fun k hk => by injection hk with hk; rw [← hk]; exact hrm.out), ?_⟩
      intro b hb h1 h2
      exact (hg5.block _ (Nat.lt_of_lt_of_le hb hbA.out.size) (fun e => h1 (st.rules.length - 1) (by omega) (by injection e))).trans (hbA.out.block _ hb)
    rw [hk] at hKeys
    clear hk hRR hI hvi hru hp hq hO hg5 hruA
    generalize g.rb (st.rules.length - 1) = rbl at *
    generalize g.tb (st.rules.length - 1) = tbl at *
    go_enter Tryz.func72, Tryz.ntmps72
    go_wp2_with fail
    refine RegP.regionH (fun w' => w'.cell? ⟨p, 0, none⟩ = some (at0 g.r)) [(1, 0), (0, 2), (2, 1), (2, 3), (2, 4)] (by kernel_rfl) (by kernel_rfl) (by rfl) (by kernel_rfl) (by exact c0) ?_
    refine RegP.held1 (by (simp only [gA,gB,gC]); rfl) (by exact fun _ _ _ h => h) (by rfl) (by intro w' hS_; (try dsimp only at hS_); go_split_ands; go_simp; try with_reducible rfl) ?_
    try simp only [Act.put, pA,pB,pC]
    refine RegP.pure1 (by (simp only [gA,gB,gC]); rfl) (by exact fun _ _ _ h => h) (by rfl) (by intro w'; go_simp; try with_reducible rfl) ?_
    try simp only [Act.put, pA,pB,pC]
    refine RegP.ev1 (by (simp only [gA,gB,gC]); rfl) (fun K hK => ?_)
    go_simp
    generalize (w.alloc (.cells #[.string ⟨#[99, 111, 109, 109, 97, 110, 100]⟩, .string ⟨#[100, 101, 112, 102, 105, 108, 101]⟩, .string ⟨#[100, 101, 115, 99, 114, 105, 112, 116, 105, 111, 110]⟩] 9)).drew = wA at *
    refine hK.out _ _ ?_ (fun hHeld => ?_)
    · (try dsimp only); exact hcA
    clear hK K
    try simp only [Act.put, pA,pB,pC]
    refine RegP.ev1 (by (simp only [gA,gB,gC]); rfl) (fun K hK => ?_)
    go_simp
    refine (hKeys.out w.heap.size _ hnA.out).mono ?_
    rintro e w3 ⟨rfl, rfl⟩
    refine hK.out _ _ ?_ (fun hHeld => ?_)
    · (try dsimp only); exact hcA
    clear hK K
    try simp only [Act.put, pA,pB,pC]
    refine RegP.ev1 (by (simp only [gA,gB,gC]); rfl) (fun K hK => ?_)
    go_simp
    refine (need_ok _ _ _).mono ?_
    rintro e w4 ⟨rfl, rfl⟩
    refine hK.out _ _ ?_ (fun hHeld => ?_)
    · (try dsimp only); exact hcA
    clear hK K
    try simp only [Act.put, pA,pB,pC]
    refine RegP.done1 ?_
    clear hHeld
    try dsimp only
    go_wp2_with fail
    go_end0
    exact Inner.fin hR.out hfin.out rfl (Nat.le_refl _) hbf.out.1 hbf.out.2
end Go.Proofs.YtbjekebkgidhaaaGreatDoor.Mf
end
section
set_option linter.unusedSimpArgs false
set_option linter.unusedVariables false
namespace Go.Proofs.YtbjekebkgidhaaaGreatDoor.Mf
open Go.RowKit Go.Lib Go.Shelf Go.Maps Go.Proofs.YtbjekebkgidhaaaGreatDoorW.PrintWords Go.Proofs.YtbjekebkgidhaaaGreatDoor.U Go.Proofs.YtbjekebkgidhaaaGreatDoor.Sc Go.Proofs.YtbjekebkgidhaaaGreatDoor.P Go.Proofs.YtbjekebkgidhaaaGreatDoor.MapV
structure Made (w W : World) (g : Mem) (ri mb sb eb p q : Nat) (v0 v1 v2 v3 : Value) : Prop where
  below : Below w.heap.size w W
  lm : w.heap.size ≤ mb
  ls : w.heap.size ≤ sb
  le : w.heap.size ≤ eb
  lp : w.heap.size ≤ p
  lq : w.heap.size ≤ q
  hm : W.heap[mb]? = some (.map #[] 0)
  hs : W.heap[sb]? = some (.cells #[at0 g.fb, .map (some mb)] 91 (0, 0))
  he : W.heap[eb]? = some (.cells #[v0, v1, v2, v3, .string (B []), .string (B []), at0 (g.rb ri), at0 sb, .int .i64 (g.line : Int)] 103 (0, 0))
  hp : W.heap[p]? = some (.cells #[at0 g.r] 62 (0, 0))
  hq : W.heap[q]? = some (.cells #[at0 eb] 74 (0, 0))
section
variable {w W W' : World} {g : Mem} {ri mb sb eb p q : Nat} {v0 v1 v2 v3 : Value}
theorem Made.more (h : Made w W g ri mb sb eb p q v0 v1 v2 v3) (hb : Below W.heap.size W W') : Made w W' g ri mb sb eb p q v0 v1 v2 v3 :=
  ⟨h.below.trans (hb.mono h.below.size), h.lm, h.ls, h.le, h.lp, h.lq, (hb.block _ (lt_blk h.hm)).trans h.hm, (hb.block _ (lt_blk h.hs)).trans h.hs, (hb.block _ (lt_blk h.he)).trans h.he, (hb.block _ (lt_blk h.hp)).trans h.hp, (hb.block _ (lt_blk h.hq)).trans h.hq⟩
theorem ne_of_cells {w : World} {a b : Nat} {c1 c2 : Array Value} {t1 t2 : TypeId} {f1 f2 : Nat × Nat} (h1 : w.heap[a]? = some (.cells c1 t1 f1)) (h2 : w.heap[b]? = some (.cells c2 t2 f2)) (ht : t1 ≠ t2) : a ≠ b := by
  rintro rfl
  rw [h1] at h2
  injection h2 with h2
  injection h2 with _ h2 _
  exact ht h2
theorem ne_of_map {w : World} {a b : Nat} {c1 : Array Value} {t1 : TypeId} {f1 : Nat × Nat} {es : Array MapEntry} {k : Nat} (h1 : w.heap[a]? = some (.cells c1 t1 f1)) (h2 : w.heap[b]? = some (.map es k)) : a ≠ b := by
  rintro rfl
  rw [h1] at h2
  cases h2
theorem Made.set (h : Made w W g ri mb sb eb p q v0 v1 v2 v3) (i : Nat) (u : Value) (v0' v1' v2' v3' : Value)
    (e : (#[v0, v1, v2, v3, .string (B []), .string (B []), at0 (g.rb ri), at0 sb, .int .i64 (g.line : Int)] : Array Value).setIfInBounds i u = #[v0', v1', v2', v3', .string (B []), .string (B []), at0 (g.rb ri), at0 sb, .int .i64 (g.line : Int)]) :
    Made w (W.setCell ⟨eb, i, none⟩ u) g ri mb sb eb p q v0' v1' v2' v3' := by
  refine ⟨h.below.setCell h.le _, h.lm, h.ls, h.le, h.lp, h.lq, ?_, ?_, blk_put h.he i u e, ?_, ?_⟩
  · rw [Below.heap_setCell _ _ _ _ (show mb ≠ eb from (ne_of_map h.he h.hm).symm)]; exact h.hm
  · rw [Below.heap_setCell _ _ _ _ (show sb ≠ eb from ne_of_cells h.hs h.he (by decide))]; exact h.hs
  · rw [Below.heap_setCell _ _ _ _ (show p ≠ eb from ne_of_cells h.hp h.he (by decide))]; exact h.hp
  · rw [Below.heap_setCell _ _ _ _ (show q ≠ eb from ne_of_cells h.hq h.he (by decide))]; exact h.hq
end
theorem own_lower {w : World} {b b' : Nat} {e size n : Nat} {v : Value} {xs : List Value} (h : w.ownsRow b e size v n xs) (hb : b' ≤ b) : w.ownsRow b' e size v n xs := by
  refine ⟨h.1, ?_⟩
  rcases h.2 with h2 | ⟨g, cap, cur, h3, h4, r⟩
  · exact .inl h2
  · exact .inr ⟨g, cap, cur, h3, Nat.le_trans hb h4, r⟩
theorem Inv.edgeNew {B0 : Nat} {w W w2 : World} {g : Mem} {st : St} (h : Inv B0 w g st) (hin : st.inner = 0) (ri mb sb eb p q : Nat) (v0 v1 v2 v3 ve1 : Value) (o i m d : List Txt) (hM : Made w W g ri mb sb eb p q v0 v1 v2 v3)
    (hri : ri < st.rules.length) (h0 : W.ownsRow w.heap.size 9 1 v0 o.length (strs o)) (h1 : W.ownsRow w.heap.size 9 1 v1 i.length (strs i)) (h2 : W.ownsRow w.heap.size 9 1 v2 m.length (strs m)) (h3 : W.ownsRow w.heap.size 9 1 v3 d.length (strs d))
    (f0 : few o) (f1 : few i) (hne : st.edges.length < 200)
    (ho : w2.ownsRow B0 74 1 ve1 (st.edges.length + 1) ((List.range st.edges.length).map (fun j => at0 (g.eb j)) ++ [at0 eb])) (hg : W.grownBy w2 g.ve.ownBlock) (ha : ve1.ownBlock = g.ve.ownBlock ∨ ∃ b, ve1.ownBlock = some b ∧ W.heap.size ≤ b) :
    ∃ g', Inv B0 ((w2.setCell ⟨g.r, 2, none⟩ ve1).setCell ⟨g.r, 5, none⟩ (.func (.func 76) #[] #[at0 q, at0 p])) g' { st with edges := st.edges ++ [⟨o, i, m, d, ri, none0, g.line⟩], inner := 2 } ∧ g'.r = g.r ∧ g'.n = g.n ∧
      w2.cell? ⟨g.r, 2, none⟩ = some g.ve ∧ w2.frozen? ⟨g.r, 2, none⟩ = false ∧ (w2.setCell ⟨g.r, 2, none⟩ ve1).cell? ⟨g.r, 5, none⟩ = some g.vi ∧ (w2.setCell ⟨g.r, 2, none⟩ ve1).frozen? ⟨g.r, 5, none⟩ = false := by
  have hW := h.below hM.below
  let ne := st.edges.length
  let vi : Value := .func (.func 76) #[] #[at0 q, at0 p]
  have hvo : g.vo = .pointer none := by
    rcases h.inn with ⟨_, _, a⟩ | ⟨a, _⟩ | ⟨a, _⟩
    · exact a
    · omega
    · omega
  let up : (Nat → Value) → Value → Nat → Value := fun f v j => if j < ne then f j else v
  let upn : (Nat → Nat) → Nat → Nat → Nat := fun f v j => if j < ne then f j else v
  let g' : Mem := { g with eb := upn g.eb eb, sb := upn g.sb sb, mb := upn g.mb mb, e0 := up g.e0 v0, e1 := up g.e1 v1, e2 := up g.e2 v2, e3 := up g.e3 v3, ve := ve1, vi := vi, role := fun b => if b < w.heap.size then g.role b else if b = mb then .omap ne else if b = eb then .edge ne else if W.heap.size ≤ b ∧ ve1.ownBlock = some b then .erow else .still }
  have upo : ∀ f v j, j < ne → up f v j = f j := fun f v j hj => if_pos hj
  have upno : ∀ f v j, j < ne → upn f v j = f j := fun f v j hj => if_pos hj
  have upl : ∀ f v, up f v ne = v := fun f v => if_neg (by omega)
  have upnl : ∀ f v, upn f v ne = v := fun f v => if_neg (by omega)
  have hrl : ∀ b, b < w.heap.size → g'.role b = g.role b := fun b hb => if_pos hb
  have hsW : w.heap.size ≤ W.heap.size := hM.below.size
  have hst : ∀ b, w.heap.size ≤ b → b < W.heap.size → b ≠ mb → b ≠ eb → g'.role b = .still := by
    intro b h1 h2 h3 h4
    show (if b < w.heap.size then _ else if b = mb then _ else if b = eb then _ else if W.heap.size ≤ b ∧ _ then _ else _) = _
    rw [if_neg (by omega), if_neg h3, if_neg h4, if_neg (by omega)]
  have hner : some g.r ≠ g.ve.ownBlock := fun e => by have := h.roe g.r e.symm; rw [h.rr] at this; cases this
  have hrlt := lt_blk h.hr
  have hr2 : w2.heap[g.r]? = some (.cells #[at0 g.fb, .map (some g.rm), g.ve, g.vd, .int .i64 (g.line : Int), g.vi, g.vo] 70 (0, 0)) := (hg.block _ (lt_blk hW.hr) hner).trans hW.hr
  have hveb : ∀ b, g.ve.ownBlock = some b → b < w.heap.size := fun b hb => own_lt h.oe b hb
  have hv1r : ve1.ownBlock ≠ some g.r := by
    intro e
    rcases ha with ha | ⟨b, hb, hb2⟩
    · exact hner (by rw [← ha, e])
    · rw [hb] at e; injection e with e; have := lt_blk hW.hr; omega
  have w3e : ∀ b, b ≠ g.r → ((w2.setCell ⟨g.r, 2, none⟩ ve1).setCell ⟨g.r, 5, none⟩ vi).heap[b]? = w2.heap[b]? := fun b hb => by
    rw [Below.heap_setCell _ _ _ b hb, Below.heap_setCell _ _ _ b hb]
  have w2e : ∀ b, w.heap.size ≤ b → b < W.heap.size → w2.heap[b]? = W.heap[b]? := fun b h1 h2 => hg.block b h2 (fun e => by have := hveb b e.symm; omega)
  have w3n : ∀ b, w.heap.size ≤ b → b < W.heap.size → ((w2.setCell ⟨g.r, 2, none⟩ ve1).setCell ⟨g.r, 5, none⟩ vi).heap[b]? = W.heap[b]? := fun b h1 h2 => (w3e b (by omega)).trans (w2e b h1 h2)
  have hr3 := blk_put (blk_put hr2 2 ve1 rfl) 5 vi rfl
  have k : Grow st.rules.length ne (fun r => r = .reader ∨ r = .erow) w ((w2.setCell ⟨g.r, 2, none⟩ ve1).setCell ⟨g.r, 5, none⟩ vi) g g' := by
    refine ⟨by rw [World.size_setCell, World.size_setCell]; exact Nat.le_trans hsW hg.size, fun b hb hx => ?_, hrl, rfl, fun _ _ => ⟨rfl, rfl⟩, fun j hj => ⟨upno _ _ _ hj, upno _ _ _ hj, upno _ _ _ hj, upo _ _ _ hj, upo _ _ _ hj, upo _ _ _ hj, upo _ _ _ hj⟩, Nat.le_refl _⟩
    rw [w3e b (fun e => hx (.inl (by rw [e]; exact h.rr)))]
    exact (hg.block b (by omega) (fun e => hx (.inr (h.roe b e.symm)))).trans (hM.below.block b hb)
  have rowk : ∀ (v : Value) (l : List Txt), W.ownsRow w.heap.size 9 1 v l.length (strs l) → SlA B0 ((w2.setCell ⟨g.r, 2, none⟩ ve1).setCell ⟨g.r, 5, none⟩ vi) g' v l := by
    intro v l hv
    refine ⟨own_lower (own_move hv fun b hb => w3n b (own_base hv b hb) (own_lt hv b hb)) h.base, fun b hb => ?_⟩
    obtain ⟨cs, hcs⟩ := own_typed hv b hb
    exact hst b (own_base hv b hb) (own_lt hv b hb) (ne_of_map hcs hM.hm) (ne_of_cells hcs hM.he (by decide))
  refine ⟨g', ⟨?_, ?_, ?_, ?_, k.roleb h.hf h.rf, k.blk h.hf h.rf (by simp), (k.role _ h.mf.lt).trans h.rfm, k.mapM h.mf h.rfm (by simp), h.sf, (k.role _ h.mr.lt).trans h.rrm, k.mapV h.mr h.rrm (by simp),
    fun i hi => (h.rules i hi).grow k hi (by simp) (by simp), ?_, ?_, ?_, ?_, k.row h.od h.rod (by simp), k.rolev h.od h.rod, h.nd, ?_⟩, rfl, rfl, by rw [cell_of_heap hr2]; rfl, frozen_of_heap hr2 2, by rw [cell_of_heap (blk_put hr2 2 ve1 rfl)]; rfl, frozen_of_heap (blk_put hr2 2 ve1 rfl) 5⟩
  · rw [World.size_setCell, World.size_setCell]; exact Nat.le_trans h.base (Nat.le_trans hsW hg.size)
  · intro b hb
    by_cases hlt : b < w.heap.size
    · rw [hrl b hlt] at hb; exact h.new b hb
    · have := h.base; omega
  · rw [hrl _ hrlt]; exact h.rr
  · exact hr3
  · intro j hj
    rw [List.length_append, List.length_cons, List.length_nil] at hj
    by_cases hlt : j < ne
    · rw [List.getElem_append_left hlt]
      exact (h.edges j hlt).grow k hlt (Nat.le_refl _) (by simp) (by simp) (by simp)
    · obtain rfl : j = ne := by omega
      rw [List.getElem_append_right (Nat.le_refl _)]
      simp only [Nat.sub_self, List.getElem_cons_zero]
      have hmb : mb ≠ eb := (ne_of_map hM.he hM.hm).symm
      refine ⟨?_, ?_, ?_, ?_, ?_, ?_, hri, ?_, ?_, ?_, ?_, Short.none0 _, f0, f1⟩
      · show g'.role (upn g.eb eb ne) = _
        rw [upnl]
        show (if eb < w.heap.size then _ else if eb = mb then _ else if eb = eb then _ else _) = _
        rw [if_neg (by have := hM.le; omega), if_neg (Ne.symm hmb), if_pos rfl]
      · show g'.role (upn g.sb sb ne) = _
        rw [upnl]
        exact hst sb hM.ls (lt_blk hM.hs) (ne_of_map hM.hs hM.hm) (ne_of_cells hM.hs hM.he (by decide))
      · show g'.role (upn g.mb mb ne) = _
        rw [upnl]
        show (if mb < w.heap.size then _ else if mb = mb then _ else _) = _
        rw [if_neg (by have := hM.lm; omega), if_pos rfl]
      · show ((w2.setCell ⟨g.r, 2, none⟩ ve1).setCell ⟨g.r, 5, none⟩ vi).heap[upn g.eb eb ne]? = some (.cells #[up g.e0 v0 ne, up g.e1 v1 ne, up g.e2 v2 ne, up g.e3 v3 ne, _, _, _, at0 (upn g.sb sb ne), _] _ _)
        rw [upnl, upnl, upl, upl, upl, upl, w3n _ hM.le (lt_blk hM.he)]; exact hM.he
      · show ((w2.setCell ⟨g.r, 2, none⟩ ve1).setCell ⟨g.r, 5, none⟩ vi).heap[upn g.sb sb ne]? = some (.cells #[_, .map (some (upn g.mb mb ne))] _ _)
        rw [upnl, upnl, w3n _ hM.ls (lt_blk hM.hs)]; exact hM.hs
      · show OwnsM _ (upn g.mb mb ne) _ _
        rw [upnl]
        exact (OwnsM.made_at ((w3n _ hM.lm (lt_blk hM.hm)).trans hM.hm)).mono (Nat.zero_le _)
      · show SlA _ _ _ (up g.e0 v0 ne) _; rw [upl]; exact rowk v0 o h0
      · show SlA _ _ _ (up g.e1 v1 ne) _; rw [upl]; exact rowk v1 i h1
      · show SlA _ _ _ (up g.e2 v2 ne) _; rw [upl]; exact rowk v2 m h2
      · show SlA _ _ _ (up g.e3 v3 ne) _; rw [upl]; exact rowk v3 d h3
  · rw [List.length_append, List.length_cons, List.length_nil]; omega
  · rw [List.length_append, List.length_cons, List.length_nil, List.range_succ, List.map_append]
    have e1 : (List.range st.edges.length).map (fun j => at0 (g'.eb j)) = (List.range st.edges.length).map (fun j => at0 (g.eb j)) := by
      refine List.map_congr_left fun j hj => ?_
      show at0 (upn g.eb eb j) = _
      rw [upno _ _ _ (List.mem_range.1 hj)]
    have e2 : [st.edges.length].map (fun j => at0 (g'.eb j)) = [at0 eb] := by
      show [at0 (upn g.eb eb ne)] = _
      rw [upnl]
    rw [e1, e2]
    exact own_move ho fun b hb => w3e b (fun e => hv1r (by rw [hb, e]))
  · intro b hb
    rcases ha with ha | ⟨b', hb', hb2⟩
    · have hb3 : g.ve.ownBlock = some b := by rw [← ha]; exact hb
      rw [hrl b (hveb b hb3)]; exact h.roe b hb3
    · have : b = b' := by rw [show ve1.ownBlock = some b from hb] at hb'; injection hb'
      subst this
      have e1 : b ≠ mb := by have := lt_blk hM.hm; omega
      have e2 : b ≠ eb := by have := lt_blk hM.he; omega
      show (if b < w.heap.size then _ else if b = mb then _ else if b = eb then _ else if W.heap.size ≤ b ∧ _ then _ else _) = _
      rw [if_neg (by omega), if_neg e1, if_neg e2, if_pos ⟨hb2, hb⟩]
  · refine .inr (.inr ⟨rfl, by rw [List.length_append]; simp, hvo, q, p, rfl, ?_, ?_, ?_, ?_⟩)
    · exact hst q hM.lq (lt_blk hM.hq) (ne_of_map hM.hq hM.hm) (ne_of_cells hM.hq hM.he (by decide))
    · exact hst p hM.lp (lt_blk hM.hp) (ne_of_map hM.hp hM.hm) (ne_of_cells hM.hp hM.he (by decide))
    · rw [List.length_append, List.length_cons, List.length_nil, Nat.add_sub_cancel, w3n _ hM.lq (lt_blk hM.hq)]
      show _ = some (Obj.cells #[at0 (upn g.eb eb ne)] _ _)
      rw [upnl]; exact hM.hq
    · rw [w3n _ hM.lp (lt_blk hM.hp)]; exact hM.hp
end Go.Proofs.YtbjekebkgidhaaaGreatDoor.Mf
end
section
set_option linter.unusedSimpArgs false
set_option linter.unusedVariables false
namespace Go.Proofs.YtbjekebkgidhaaaGreatDoor.RegP
open Go Go.Proofs.YtbjekebkgidhaaaGreatDoor.RegG
inductive Tree
  | nil
  | cons (t i : Nat) (r : Tree)
  | fork (i1 : Nat) (r1 : Tree) (i2 : Nat) (r2 : Tree)
def treeOk (md : Region.Mode) (ops : Array Oper) : Nat → Tree → Array Bool → Bool
  | _, .nil, l => Region.ready md ops l == []
  | n + 1, .cons t i r, l =>
    (match t with
    | 0 => Region.free md ops l i && (Region.ready md ops l).contains i
    | 1 => Region.free md ops l i && (Region.ready md ops l).contains i
    | 2 => Region.ready md ops l == [i]
    | _ => false) && treeOk md ops n r (l.setIfInBounds i true)
  | n + 1, .fork i1 r1 i2 r2, l => Region.ready md ops l == [i1, i2] && (treeOk md ops n r1 (l.setIfInBounds i1 true) && treeOk md ops n r2 (l.setIfInBounds i2 true))
  | 0, _, _ => false
section
variable {P : Program} {ops : Array Oper} {Q : Exit → Act → World → Prop} {S : World → Prop}
def wpTree (P : Program) (ops : Array Oper) (Q : Exit → Act → World → Prop) (S : World → Prop) : Tree → Act → World → Prop
  | .nil, a, w => Q .normal a w
  | .cons t i r, a, w => ∃ o, ops[i]? = some o ∧
    match t with
    | 0 => ∃ v, (∀ c a w, Q (.panic c) (a.put o.dst v) w → Q (.panic c) a w) ∧ Region.wanted o (yielded ops a.tmps) = true ∧ (∀ w', (execOp a.eval o).run P w' = .ok (.value v) w') ∧ wpTree P ops Q S r (a.put o.dst v) w
    | 1 => ∃ v, (∀ c a w, Q (.panic c) (a.put o.dst v) w → Q (.panic c) a w) ∧ Region.wanted o (yielded ops a.tmps) = true ∧ (∀ w', S w' → (execOp a.eval o).run P w' = .ok (.value v) w') ∧ wpTree P ops Q S r (a.put o.dst v) w
    | _ => ∀ K' : Act → World → Prop, Shut (∀ a w, S w → (S w → wpTree P ops Q S r a w) → K' a w) → if Region.wanted o (yielded ops a.tmps) = true then Oper.wp P o a w K' Q else K' (a.put o.dst undef) w
  | .fork i1 r1 i2 r2, a, w => ∃ o1 o2, ops[i1]? = some o1 ∧ ops[i2]? = some o2 ∧
    (∀ K' : Act → World → Prop, Shut (∀ a w, S w → (S w → wpTree P ops Q S r1 a w) → K' a w) → if Region.wanted o1 (yielded ops a.tmps) = true then Oper.wp P o1 a w K' Q else K' (a.put o1.dst undef) w) ∧
    (∀ K' : Act → World → Prop, Shut (∀ a w, S w → (S w → wpTree P ops Q S r2 a w) → K' a w) → if Region.wanted o2 (yielded ops a.tmps) = true then Oper.wp P o2 a w K' Q else K' (a.put o2.dst undef) w)
theorem any_of_tree (hs : Region.noSelect ops = true) : ∀ (n : Nat) (t : Tree) (l : Array Bool) (a : Act) (w : World), treeOk .any ops n t l = true → S w → wpTree P ops Q S t a w → wpAnyH P .any ops Q S n l a w
  | n, .nil, l, a, w, hok, _, h => by
    cases n <;> exact wpAnyH_done (by simpa [treeOk] using hok) h _
  | n + 1, .cons t i r, l, a, w, hok, hS, h => by
    obtain ⟨o, ho, h⟩ := h
    rcases t with _ | _ | _ | t
    · replace hok : ((Region.free .any ops l i && (Region.ready .any ops l).contains i) && treeOk .any ops n r (l.setIfInBounds i true)) = true := hok
      obtain ⟨h1, h2⟩ := Bool.and_eq_true_iff.1 hok
      obtain ⟨e2, e3⟩ := Bool.and_eq_true_iff.1 h1
      obtain ⟨v, q1, q2, q3, q4⟩ := h
      exact wpAnyH_take ho hs e2 e3 q1 (.inl ⟨q2, fun w' _ => q3 w'⟩) hS (any_of_tree hs n r _ _ w h2 hS q4)
    · replace hok : ((Region.free .any ops l i && (Region.ready .any ops l).contains i) && treeOk .any ops n r (l.setIfInBounds i true)) = true := hok
      obtain ⟨h1, h2⟩ := Bool.and_eq_true_iff.1 hok
      obtain ⟨e2, e3⟩ := Bool.and_eq_true_iff.1 h1
      obtain ⟨v, q1, q2, q3, q4⟩ := h
      exact wpAnyH_take ho hs e2 e3 q1 (.inl ⟨q2, q3⟩) hS (any_of_tree hs n r _ _ w h2 hS q4)
    · replace hok : ((Region.ready .any ops l == [i]) && treeOk .any ops n r (l.setIfInBounds i true)) = true := hok
      obtain ⟨h1, h2⟩ := Bool.and_eq_true_iff.1 hok
      have hr : Region.ready .any ops l = [i] := eq_of_beq h1
      refine wpAnyH_ready hr (by simp) (AllReadyH.cons ho (fun K' hK => ?_) AllReadyH.nil)
      exact h K' (fun a w hS' hW => hK.out a w hS' (fun hS'' => any_of_tree hs n r _ _ w h2 hS'' (hW hS'')))
    · replace hok : (false && treeOk .any ops n r (l.setIfInBounds i true)) = true := hok
      simp at hok
  | n + 1, .fork i1 r1 i2 r2, l, a, w, hok, hS, h => by
    obtain ⟨o1, o2, ho1, ho2, h1, h2⟩ := h
    replace hok : (Region.ready .any ops l == [i1, i2] && (treeOk .any ops n r1 (l.setIfInBounds i1 true) && treeOk .any ops n r2 (l.setIfInBounds i2 true))) = true := hok
    obtain ⟨e1, e2⟩ := Bool.and_eq_true_iff.1 hok
    obtain ⟨e2, e3⟩ := Bool.and_eq_true_iff.1 e2
    have hr : Region.ready .any ops l = [i1, i2] := eq_of_beq e1
    refine wpAnyH_ready hr (by simp) (AllReadyH.cons ho1 (fun K' hK => ?_) (AllReadyH.cons ho2 (fun K' hK => ?_) AllReadyH.nil))
    · exact h1 K' (fun a w hS' hW => hK.out a w hS' (fun hS'' => any_of_tree hs n r1 _ _ w e2 hS'' (hW hS'')))
    · exact h2 K' (fun a w hS' hW => hK.out a w hS' (fun hS'' => any_of_tree hs n r2 _ _ w e3 hS'' (hW hS'')))
  | 0, .cons _ _ _, l, a, w, hok, _, _ => by simp [treeOk] at hok
  | 0, .fork _ _ _ _, l, a, w, hok, _, _ => by simp [treeOk] at hok
theorem regionT {id : Nat} {a : Act} {w : World} (S : World → Prop) (t : Tree) (hm : P.follows .mixedOrders = true) (hs : Region.noSelect ops = true) (hok : treeOk .any ops ops.size t (Array.replicate ops.size false) = true)
    (hS : S w.drew) (h : wpTree P ops Q S t a w.drew) : (Code.region id ops true).wp P Q a w := by
  refine wp_region_held_drew hm hS fun hS' => ?_
  exact any_of_tree hs _ t _ a _ hok hS' h
theorem pureT {i : Nat} {r : Tree} {a : Act} {w : World} {o : Oper} {v : Value} (ho : ops[i]? = some o) (hQ : ∀ c a w, Q (.panic c) (a.put o.dst v) w → Q (.panic c) a w) (hw : Region.wanted o (yielded ops a.tmps) = true)
    (hv : ∀ w', (execOp a.eval o).run P w' = .ok (.value v) w') (h : wpTree P ops Q S r (a.put o.dst v) w) : wpTree P ops Q S (.cons 0 i r) a w := ⟨o, ho, v, hQ, hw, hv, h⟩
theorem heldT {i : Nat} {r : Tree} {a : Act} {w : World} {o : Oper} {v : Value} (ho : ops[i]? = some o) (hQ : ∀ c a w, Q (.panic c) (a.put o.dst v) w → Q (.panic c) a w) (hw : Region.wanted o (yielded ops a.tmps) = true)
    (hv : ∀ w', S w' → (execOp a.eval o).run P w' = .ok (.value v) w') (h : wpTree P ops Q S r (a.put o.dst v) w) : wpTree P ops Q S (.cons 1 i r) a w := ⟨o, ho, v, hQ, hw, hv, h⟩
theorem doneT {a : Act} {w : World} (h : Q .normal a w) : wpTree P ops Q S .nil a w := h
theorem evT {i : Nat} {r : Tree} {a : Act} {w : World} {o : Oper} (ho : ops[i]? = some o)
    (h : ∀ K' : Act → World → Prop, Shut (∀ a w, S w → (S w → wpTree P ops Q S r a w) → K' a w) → if Region.wanted o (yielded ops a.tmps) = true then Oper.wp P o a w K' Q else K' (a.put o.dst undef) w) : wpTree P ops Q S (.cons 2 i r) a w := ⟨o, ho, h⟩
theorem forkT {i1 i2 : Nat} {r1 r2 : Tree} {a : Act} {w : World} {o1 o2 : Oper} (ho1 : ops[i1]? = some o1) (ho2 : ops[i2]? = some o2)
    (h1 : ∀ K' : Act → World → Prop, Shut (∀ a w, S w → (S w → wpTree P ops Q S r1 a w) → K' a w) → if Region.wanted o1 (yielded ops a.tmps) = true then Oper.wp P o1 a w K' Q else K' (a.put o1.dst undef) w)
    (h2 : ∀ K' : Act → World → Prop, Shut (∀ a w, S w → (S w → wpTree P ops Q S r2 a w) → K' a w) → if Region.wanted o2 (yielded ops a.tmps) = true then Oper.wp P o2 a w K' Q else K' (a.put o2.dst undef) w) : wpTree P ops Q S (.fork i1 r1 i2 r2) a w := ⟨o1, o2, ho1, ho2, h1, h2⟩
end
end Go.Proofs.YtbjekebkgidhaaaGreatDoor.RegP
end
section
set_option linter.unusedSimpArgs false
set_option linter.unusedVariables false
namespace Go.Proofs.YtbjekebkgidhaaaGreatDoor.Mf
open Go.RowKit Go.Lib Go.Shelf Go.Maps Go.Proofs.YtbjekebkgidhaaaGreatDoorW.PrintWords Go.Proofs.YtbjekebkgidhaaaGreatDoor.U Go.Proofs.YtbjekebkgidhaaaGreatDoor.Sc Go.Proofs.YtbjekebkgidhaaaGreatDoor.P Go.Proofs.YtbjekebkgidhaaaGreatDoor.MapV
theorem heapAt (w : World) (o : Obj) (i : Nat) : (w.alloc o).heap[i]? = if i = w.heap.size then some o else w.heap[i]? := by
  show (w.heap.push o)[i]? = _
  rw [Array.getElem?_push]
theorem heapAt_eq {w : World} {o : Obj} {i : Nat} (h : i = w.heap.size) : (w.alloc o).heap[i]? = some o := by rw [heapAt, if_pos h]
theorem heapAt_lt {w : World} {o : Obj} {i : Nat} (h : i < w.heap.size) : (w.alloc o).heap[i]? = w.heap[i]? := by rw [heapAt, if_neg (by omega)]
theorem cleanL_few (s : Txt) (h : (cleanL s).2 = 0) : (cleanL s).1.length ≤ 100 := by
  unfold cleanL at h ⊢
  generalize foldP (splitK 47 0 s) [] = F at *
  by_cases h1 : 1000 < s.length
  · rw [if_pos h1] at h; exact absurd h (by decide)
  rw [if_neg h1] at h ⊢
  by_cases h2 : s.head? = some 47 ∨ s.all plainB = false
  · rw [if_pos h2] at h; exact absurd h (by decide)
  rw [if_neg h2] at h ⊢
  cases F with
  | none => exact absurd h (show ¬ ((5 : Int) = 0) by decide)
  | some ps =>
    by_cases h4 : joinP ps = []
    · simp only [if_pos h4] at h; exact absurd h (by decide)
    by_cases h5 : 100 < (joinP ps).length
    · simp only [if_neg h4, if_pos h5] at h; exact absurd h (by decide)
    simp only [if_neg h4, if_neg h5]
    exact Nat.le_of_not_lt h5
theorem cleanE_few {line : Nat} {s p : Txt} (h : cleanE line s = .ok p) : p.length ≤ 100 := by
  unfold cleanE at h
  split at h
  · rename_i h1
    injection h with h
    rw [← h]; exact cleanL_few s h1
  · cases h
theorem pathsE_few (line : Nat) (file : MapL) : ∀ (ws acc d : List Txt), pathsE line file acc ws = .ok d → (∀ t ∈ acc, t.length ≤ 100) → ∀ t ∈ d, t.length ≤ 100 := by
  intro ws
  induction ws with
  | nil =>
    intro acc d h ha
    obtain rfl : acc = d := by simpa [pathsE] using h
    exact ha
  | cons x r ih =>
    intro acc d h ha
    unfold pathsE at h
    split at h
    · cases h
    · rename_i p hp
      refine ih _ _ h fun t ht => ?_
      rcases List.mem_append.1 ht with ht | ht
      · exact ha t ht
      · rw [List.mem_singleton.1 ht]
        unfold pathE at hp
        split at hp
        · cases hp
        · split at hp
          · cases hp
          · exact cleanE_few hp
theorem pathsE_few0 {line : Nat} {file : MapL} {ws d : List Txt} (h : pathsE line file [] ws = .ok d) (hn : ws.length ≤ 20000) : few d := by
  refine ⟨?_, pathsE_few line file ws [] d h (by simp)⟩
  have := pathsE_len _ _ _ _ _ h
  rw [List.length_nil] at this; omega
section
variable {w W W' : World} {g : Mem} {ri mb sb eb p q : Nat} {v0 v1 v2 v3 : Value}
theorem Made.row (hM : Made w W g ri mb sb eb p q v0 v1 v2 v3) {n k : Nat} {v : Value} {xs : List Value} (h : W.ownsRow n 9 1 v k xs) (i : Nat) (u : Value) : (W.setCell ⟨eb, i, none⟩ u).ownsRow n 9 1 v k xs := by
  refine own_move h fun b hb => Below.heap_setCell _ _ _ b ?_
  obtain ⟨cs, hcs⟩ := own_typed h b hb
  exact ne_of_cells hcs hM.he (by decide)
theorem row_more {n k : Nat} {v : Value} {xs : List Value} (h : W.ownsRow n 9 1 v k xs) (hb : Below W.heap.size W W') : W'.ownsRow n 9 1 v k xs :=
  own_move h fun b hb' => hb.block b (own_lt h b hb')
theorem Made.box (hM : Made w W g ri mb sb eb p q v0 v1 v2 v3) : W.cell? ⟨q, 0, none⟩ = some (at0 eb) ∧ W.cell? ⟨p, 0, none⟩ = some (at0 g.r) :=
  ⟨(cell_of_heap (j := 0) hM.hq).trans rfl, (cell_of_heap (j := 0) hM.hp).trans rfl⟩
theorem Made.grown {B0 : Nat} {st : St} {w2 : World} (hM : Made w W g ri mb sb eb p q v0 v1 v2 v3) (h : Inv B0 w g st) (hg : W.grownBy w2 g.ve.ownBlock) :
    w2.cell? ⟨q, 0, none⟩ = some (at0 eb) ∧ w2.cell? ⟨p, 0, none⟩ = some (at0 g.r) ∧ w2.cell? ⟨g.r, 2, none⟩ = some g.ve := by
  have hveb : ∀ b, g.ve.ownBlock = some b → b < w.heap.size := fun b hb => own_lt h.oe b hb
  have hq := (hg.block q (lt_blk hM.hq) (fun e => by have := hveb q e.symm; have := hM.lq; omega)).trans hM.hq
  have hp := (hg.block p (lt_blk hM.hp) (fun e => by have := hveb p e.symm; have := hM.lp; omega)).trans hM.hp
  have hW := h.below hM.below
  have hr := (hg.block g.r (lt_blk hW.hr) (fun e => by have := h.roe g.r e.symm; rw [h.rr] at this; cases this)).trans hW.hr
  exact ⟨(cell_of_heap (j := 0) hq).trans rfl, (cell_of_heap (j := 0) hp).trans rfl, (cell_of_heap (j := 2) hr).trans rfl⟩
end
structure Six (w wx : World) (g : Mem) (rn : Txt) (ri : Nat) (ad : Addr) : Prop where
  below : Below w.heap.size w wx
  hp : wx.heap[w.heap.size]? = some (.cells #[at0 g.r] 62 (0, 0))
  all : ∀ W, Below wx.heap.size wx W → W.cell? ⟨w.heap.size, 0, none⟩ = some (at0 g.r) ∧ W.cell? ⟨g.r, 1, none⟩ = some (.map (some g.rm)) ∧ W.cell? ad = some (.string (B rn)) ∧
    (Instr.lookup 65 (.map (some g.rm)) (.string (B rn)) false).run Tryz.prog W = .ok (at0 (g.rb ri)) W ∧ W.cell? ⟨g.r, 0, none⟩ = some (at0 g.fb) ∧ W.cell? ⟨g.r, 4, none⟩ = some (.int .i64 (g.line : Int))
theorem Six.mk' {B0 : Nat} {st : St} {w wx : World} {g : Mem} {rn : Txt} {ri : Nat} {ad : Addr} (hI : Inv B0 w g st) (hb : Below w.heap.size w wx) (hp : wx.heap[w.heap.size]? = some (.cells #[at0 g.r] 62 (0, 0)))
    (ha : wx.cell? ad = some (.string (B rn))) (hl : ∀ W, Below wx.heap.size wx W → (Instr.lookup 65 (.map (some g.rm)) (.string (B rn)) false).run Tryz.prog W = .ok (at0 (g.rb ri)) W) : Six w wx g rn ri ad := by
  refine ⟨hb, hp, fun W hW => ?_⟩
  have hI2 := (hI.below hb).below hW
  exact ⟨(cell_of_heap (j := 0) ((hW.block _ (lt_blk hp)).trans hp)).trans rfl, hI2.cell 1, (hW.cell (World.block_lt_of_cell? wx _ ha)).trans ha, hl W hW, hI2.cell 0, hI2.cell 4⟩
theorem Six.ordA {w x : World} {g : Mem} {rn : Txt} {ri : Nat} {ad : Addr} (h : Six w x g rn ri ad) : Made w ((((x.alloc (.cells #[at0 (x.heap.size + 1 + 1 + 1)] 74)).alloc (.map #[] 0)).alloc (.cells #[at0 g.fb, .map (some (x.heap.size + 1))] 91)).alloc (.cells #[.slice none 0 0, .slice none 0 0, .slice none 0 0, .slice none 0 0, .string (B []), .string (B []), at0 (g.rb ri), at0 (x.heap.size + 1 + 1), .int .i64 (g.line : Int)] 103)).drew g ri (x.heap.size + 1) (x.heap.size + 1 + 1) (x.heap.size + 1 + 1 + 1) w.heap.size (x.heap.size) (.slice none 0 0) (.slice none 0 0) (.slice none 0 0) (.slice none 0 0) := by
  have hs := h.below.size
  have hlt := lt_blk h.hp
  have hb : Below x.heap.size x ((((x.alloc (.cells #[at0 (x.heap.size + 1 + 1 + 1)] 74)).alloc (.map #[] 0)).alloc (.cells #[at0 g.fb, .map (some (x.heap.size + 1))] 91)).alloc (.cells #[.slice none 0 0, .slice none 0 0, .slice none 0 0, .slice none 0 0, .string (B []), .string (B []), at0 (g.rb ri), at0 (x.heap.size + 1 + 1), .int .i64 (g.line : Int)] 103)).drew := by (repeat (first | exact Below.refl _ _ | refine Below.drew ?_ | refine Below.setCell ?_ (by simp <;> omega) _ | refine Below.alloc ?_ (by simp <;> omega) _))
  refine ⟨h.below.trans (hb.mono hs), by omega, by omega, by omega, by omega, by omega, ?_, ?_, ?_, (hb.block _ hlt).trans h.hp, ?_⟩
  all_goals
    show (((((x.alloc (.cells #[at0 (x.heap.size + 1 + 1 + 1)] 74)).alloc (.map #[] 0)).alloc (.cells #[at0 g.fb, .map (some (x.heap.size + 1))] 91)).alloc (.cells #[.slice none 0 0, .slice none 0 0, .slice none 0 0, .slice none 0 0, .string (B []), .string (B []), at0 (g.rb ri), at0 (x.heap.size + 1 + 1), .int .i64 (g.line : Int)] 103))).heap[_]? = _
    repeat (first | exact heapAt_eq (by simp) | refine (heapAt_lt (by simp <;> omega)).trans ?_)
theorem Six.ordB {w x : World} {g : Mem} {rn : Txt} {ri : Nat} {ad : Addr} (h : Six w x g rn ri ad) : Made w ((((x.alloc (.map #[] 0)).alloc (.cells #[at0 g.fb, .map (some (x.heap.size))] 91)).alloc (.cells #[at0 (x.heap.size + 1 + 1 + 1)] 74)).alloc (.cells #[.slice none 0 0, .slice none 0 0, .slice none 0 0, .slice none 0 0, .string (B []), .string (B []), at0 (g.rb ri), at0 (x.heap.size + 1), .int .i64 (g.line : Int)] 103)).drew g ri (x.heap.size) (x.heap.size + 1) (x.heap.size + 1 + 1 + 1) w.heap.size (x.heap.size + 1 + 1) (.slice none 0 0) (.slice none 0 0) (.slice none 0 0) (.slice none 0 0) := by
  have hs := h.below.size
  have hlt := lt_blk h.hp
  have hb : Below x.heap.size x ((((x.alloc (.map #[] 0)).alloc (.cells #[at0 g.fb, .map (some (x.heap.size))] 91)).alloc (.cells #[at0 (x.heap.size + 1 + 1 + 1)] 74)).alloc (.cells #[.slice none 0 0, .slice none 0 0, .slice none 0 0, .slice none 0 0, .string (B []), .string (B []), at0 (g.rb ri), at0 (x.heap.size + 1), .int .i64 (g.line : Int)] 103)).drew := by (repeat (first | exact Below.refl _ _ | refine Below.drew ?_ | refine Below.setCell ?_ (by simp <;> omega) _ | refine Below.alloc ?_ (by simp <;> omega) _))
  refine ⟨h.below.trans (hb.mono hs), by omega, by omega, by omega, by omega, by omega, ?_, ?_, ?_, (hb.block _ hlt).trans h.hp, ?_⟩
  all_goals
    show (((((x.alloc (.map #[] 0)).alloc (.cells #[at0 g.fb, .map (some (x.heap.size))] 91)).alloc (.cells #[at0 (x.heap.size + 1 + 1 + 1)] 74)).alloc (.cells #[.slice none 0 0, .slice none 0 0, .slice none 0 0, .slice none 0 0, .string (B []), .string (B []), at0 (g.rb ri), at0 (x.heap.size + 1), .int .i64 (g.line : Int)] 103))).heap[_]? = _
    repeat (first | exact heapAt_eq (by simp) | refine (heapAt_lt (by simp <;> omega)).trans ?_)
theorem Six.ordC {w x : World} {g : Mem} {rn : Txt} {ri : Nat} {ad : Addr} (h : Six w x g rn ri ad) : Made w ((((x.alloc (.map #[] 0)).alloc (.cells #[at0 g.fb, .map (some (x.heap.size))] 91)).alloc (.cells #[.slice none 0 0, .slice none 0 0, .slice none 0 0, .slice none 0 0, .string (B []), .string (B []), at0 (g.rb ri), at0 (x.heap.size + 1), .int .i64 (g.line : Int)] 103)).alloc (.cells #[at0 (x.heap.size + 1 + 1)] 74)).drew g ri (x.heap.size) (x.heap.size + 1) (x.heap.size + 1 + 1) w.heap.size (x.heap.size + 1 + 1 + 1) (.slice none 0 0) (.slice none 0 0) (.slice none 0 0) (.slice none 0 0) := by
  have hs := h.below.size
  have hlt := lt_blk h.hp
  have hb : Below x.heap.size x ((((x.alloc (.map #[] 0)).alloc (.cells #[at0 g.fb, .map (some (x.heap.size))] 91)).alloc (.cells #[.slice none 0 0, .slice none 0 0, .slice none 0 0, .slice none 0 0, .string (B []), .string (B []), at0 (g.rb ri), at0 (x.heap.size + 1), .int .i64 (g.line : Int)] 103)).alloc (.cells #[at0 (x.heap.size + 1 + 1)] 74)).drew := by (repeat (first | exact Below.refl _ _ | refine Below.drew ?_ | refine Below.setCell ?_ (by simp <;> omega) _ | refine Below.alloc ?_ (by simp <;> omega) _))
  refine ⟨h.below.trans (hb.mono hs), by omega, by omega, by omega, by omega, by omega, ?_, ?_, ?_, (hb.block _ hlt).trans h.hp, ?_⟩
  all_goals
    show (((((x.alloc (.map #[] 0)).alloc (.cells #[at0 g.fb, .map (some (x.heap.size))] 91)).alloc (.cells #[.slice none 0 0, .slice none 0 0, .slice none 0 0, .slice none 0 0, .string (B []), .string (B []), at0 (g.rb ri), at0 (x.heap.size + 1), .int .i64 (g.line : Int)] 103)).alloc (.cells #[at0 (x.heap.size + 1 + 1)] 74))).heap[_]? = _
    repeat (first | exact heapAt_eq (by simp) | refine (heapAt_lt (by simp <;> omega)).trans ?_)
theorem Inv.paths {B0 : Nat} {w w5 W : World} {g : Mem} {st : St} (hI : Inv B0 w g st) (h1 : Below w.heap.size w W) (h2 : Below w5.heap.size w5 W) (A : Option Addr) (c : Nat) (ws : List Txt) (n : Nat) (hn : ws.length = n)
    (hk : Kd.C Kd.string w5 A n (ws.map B)) (hl : n ≤ 20000) (hs : ∀ t ∈ ws, t.length ≤ 1000000) : Calls Tryz.prog 75 #[at0 g.r, .slice A n c] W (GivesL (pathsE g.line st.file [] ws) W) := by
  subst hn
  exact paths_any g.r g.line ⟨g.fb, g.fm, g.n, st.file⟩ (at0 g.fb) A c ws W (hI.below h1).rd hI.getL (Kd.C_below hk h2) (by omega) (fun t ht => Nat.lt_of_le_of_lt (hs t ht) (by decide))
theorem Made.s8 {B0 : Nat} {st : St} {w W W2 : World} {g : Mem} {ri mb sb eb p q : Nat} {v0 v1 v2 v3 : Value} (hM : Made w W g ri mb sb eb p q v0 v1 v2 v3) (h : Inv B0 w g st) (hb : Below W.heap.size W W2) :
    W2.cell? ⟨q, 0, none⟩ = some (at0 eb) ∧ W2.cell? ⟨p, 0, none⟩ = some (at0 g.r) ∧ W2.cell? ⟨g.r, 2, none⟩ = some g.ve :=
  ⟨(hM.more hb).box.1, (hM.more hb).box.2, (h.below (hM.more hb).below).cell 2⟩
theorem infoEdge : (Tryz.prog.info? 74).map (fun i => (i.zero, i.size, i.bytes)) = some (some (.pointer none), 1, 8) := by kernel_rfl
theorem own_row {w : World} {b n : Nat} {t : TypeId} {v : Value} {xs : List Value} (h : w.ownsRow b t 1 v n xs) : ∃ A c, v = .slice A n c := by
  rcases h.2 with ⟨e, e2⟩ | ⟨b, cap, _, e, _⟩
  · exact ⟨none, 0, by rw [e, e2]⟩
  · exact ⟨_, _, e⟩
end Go.Proofs.YtbjekebkgidhaaaGreatDoor.Mf
end
