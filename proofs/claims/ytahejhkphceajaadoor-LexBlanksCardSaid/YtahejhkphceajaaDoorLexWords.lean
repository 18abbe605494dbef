/- The walk of lex.Words and of its closure. -/
import Derived.Test.YtahejhkphceajaaDoorLex
import Derived.Test.YtahejhkphceajaaDoorLexSign
import Derived.WalkKit
import Derived.WalkSpells
import Derived.Outline
import Derived.Deep.RegionHeld3
import Derived.Deep.RegionLaw
import Derived.Deep.AppendLies
import Derived.RegionTactic
import Derived.OneCell
import Derived.Lib.Hide
set_option linter.unusedSimpArgs false
set_option linter.unusedVariables false
namespace Go.Proofs.YtahejhkphceajaaDoor.P
open Go.RowKit Go.Proofs.YtahejhkphceajaaDoorW.PrintWords Go.Proofs.YtahejhkphceajaaDoorW.PrintLast Go.Proofs.YtahejhkphceajaaDoorW.PrintMore Go.Proofs.YtahejhkphceajaaDoor.U Go.Proofs.YtahejhkphceajaaDoor.Lex

/-- The call's own memory: block b holds the variable out, block b + 1 the variable word. -/
structure WInv (b : Nat) (wd : List UInt8) (xs : List (List UInt8)) (w : World) : Prop where
  out : ∃ v, w.heap[b]? = some (.cells #[v] 30 (0, 0)) ∧ w.ownsRow (b + 2) 9 1 v xs.length (xs.map fun x => Value.string (B x))
  word : w.heap[b + 1]? = some (.cells #[.string (B wd)] 9 (0, 0))

theorem infoS : (Tryd.prog.info? 9).map (fun i => (i.zero, i.size, i.bytes)) = some (some (.string ⟨#[]⟩), 1, 16) := by kernel_rfl

/-- Behind an append to the row and a store of the row into its variable. -/
theorem WInv.push {b : Nat} {wd : List UInt8} {xs : List (List UInt8)} {w w1 : World} {v v' : Value} (x : List UInt8) (o : Obj)
    (hv : w.heap[b]? = some (.cells #[v] 30 (0, 0))) (hown : w.ownsRow (b + 2) 9 1 v xs.length (xs.map fun x => Value.string (B x)))
    (hw : w.heap[b + 1]? = some (.cells #[.string (B wd)] 9 (0, 0)))
    (hown' : w1.ownsRow (b + 2) 9 1 v' (xs.length + 1) ((xs.map fun x => Value.string (B x)) ++ [.string (B x)])) (hg : (w.alloc o).grownBy w1 v.ownBlock) :
    w1.cell? ⟨b, 0, none⟩ = some v ∧ w1.frozen? ⟨b, 0, none⟩ = false ∧ (∃ g c, v' = .slice (some ⟨g, 0, none⟩) (xs.length + 1) c) ∧ Below b w w1 ∧ WInv b wd (xs ++ [x]) (w1.setCell ⟨b, 0, none⟩ v') ∧ Below b w (w1.setCell ⟨b, 0, none⟩ v') := by
  have hlt := lt_of_block hw
  have hne : ∀ k, k < b + 2 → some k ≠ v.ownBlock := fun k hk e => by
    have := own_base hown k e.symm; omega
  have keep : ∀ k, k < b + 2 → w1.heap[k]? = w.heap[k]? := fun k hk => (hg.block k (by simp; omega) (hne k hk)).trans (Below.heap_alloc _ _ _ (by omega))
  have hv1 := (keep b (by omega)).trans hv
  have hw1 := (keep (b + 1) (by omega)).trans hw
  have hb : Below b w w1 := ((Below.refl b w).alloc (by omega) o).grown hg (by simp; omega) (fun k hk => by have := own_base hown k hk; omega)
  refine ⟨cell_of_one hv1, free_of_one hv1, ?_, hb, ⟨⟨v', one_setCell hv1, ?_⟩, ?_⟩, hb.setCell (Nat.le_refl _) _⟩
  · rcases hown'.2 with ⟨_, h0⟩ | ⟨g, cap, _, h, _⟩
    · omega
    · exact ⟨g, cap, h⟩
  · have := ownsRow_setCell_below hown' (a := ⟨b, 0, none⟩) (by show b < b + 2; omega) v'
    simpa using this
  · exact (Below.heap_setCell _ _ _ _ (by show b + 1 ≠ b; omega)).trans hw1
theorem grown_undrew {w w1 : World} {r : Option Nat} (h : w.drew.grownBy w1 r) : w.grownBy w1 r := ⟨h.os, h.tape, h.output, h.size, h.block⟩
/-- Behind a store into the variable word. -/
theorem WInv.word_set {b : Nat} {wd : List UInt8} {xs : List (List UInt8)} {w : World} (h : WInv b wd xs w) (y : List UInt8) :
    WInv b y xs (w.setCell ⟨b + 1, 0, none⟩ (.string (B y))) := by
  obtain ⟨⟨v, hv, hown⟩, hw⟩ := h
  exact ⟨⟨v, (Below.heap_setCell _ _ _ _ (by show b ≠ b + 1; omega)).trans hv, ownsRow_setCell_below hown (a := ⟨b + 1, 0, none⟩) (by show b + 1 < b + 2; omega) _⟩, one_setCell hw⟩
theorem WInv.drawn {b : Nat} {wd : List UInt8} {xs : List (List UInt8)} {w : World} (h : WInv b wd xs w) : WInv b wd xs w.drew := ⟨h.out, h.word⟩
theorem WInv.alloc {b : Nat} {wd : List UInt8} {xs : List (List UInt8)} {w : World} (h : WInv b wd xs w) (o : Obj) : WInv b wd xs (w.alloc o) := by
  obtain ⟨⟨v, hv, hown⟩, hw⟩ := h
  exact ⟨⟨v, (Below.heap_alloc _ _ _ (lt_of_block hv)).trans hv, hown.alloc _⟩, (Below.heap_alloc _ _ _ (lt_of_block hw)).trans hw⟩
theorem WInv.below {b : Nat} {wd : List UInt8} {xs : List (List UInt8)} {w w1 : World} (h : WInv b wd xs w) (hb : Below w.heap.size w w1) : WInv b wd xs w1 := by
  obtain ⟨⟨v, hv, hown⟩, hw⟩ := h
  exact ⟨⟨v, (hb.block _ (lt_of_block hv)).trans hv, pw_own_below hown hb⟩, (hb.block _ (lt_of_block hw)).trans hw⟩
theorem WInv.lt {b : Nat} {wd : List UInt8} {xs : List (List UInt8)} {w : World} (h : WInv b wd xs w) : b + 2 ≤ w.heap.size := lt_of_block h.word

set_option maxRecDepth 100000 in
set_option maxHeartbeats 1000000 in
theorem end_any (b : Nat) (wd : List UInt8) (xs : List (List UInt8)) (w : World) (h : WInv b wd xs w) (hn : xs.length < 1000000000) :
    Calls Tryd.prog 18 #[.pointer (some ⟨b + 1, 0, none⟩), .pointer (some ⟨b, 0, none⟩)] w fun e w' => e = .returned (.tuple #[]) ∧ WInv b [] (xs ++ flushL wd) w' ∧ Below b w w' := by
  have h0 := Lib.hid h
  have hlt := h.lt
  obtain ⟨⟨v, hv, hown⟩, hw⟩ := h
  obtain ⟨i0, hi, hz0, hz1, hz2⟩ := info_parts infoS
  have cO := cell_of_one hv
  have fO := free_of_one hv
  have cW := cell_of_one hw
  have fW := free_of_one hw
  by_cases hwd : wd = []
  · subst hwd
    go_enter Tryd.func18, Tryd.ntmps18
    go_wp2
    go_end0
    refine ⟨rfl, ?_, (Below.refl _ _).setCell (Nat.le_succ _) _⟩
    simpa [flushL] using h0.out.word_set []
  · have hem : wd.isEmpty = false := by simpa using hwd
    go_enter Tryd.func18, Tryd.ntmps18
    go_wp2_with (at_builtin; refine wpList_append_own _ rfl _ _ 30 rfl (b + 2) 9 i0 (.string ⟨#[]⟩) 1 16 Tryd.underlying30 hi hz0 hz1 hz2 rfl (by decide) _ _ _ rfl (hown.alloc _) ⟨w.heap.size, 0, none⟩ 1 1 [.string (B wd)] rfl rfl (cell_one_new _ _ _) (by simp [Value.oneCell']) (by unfold maxLen; omega) (by omega) (by simp; omega) ?_)
    intro v' w1 hown' hg _
    obtain ⟨c1, f1, ⟨g, c, rfl⟩, hb1, hinv, hb2⟩ := WInv.push wd _ hv hown hw hown' hg
    have c2 : (w1.setCell ⟨b, 0, none⟩ (.slice (some ⟨g, 0, none⟩) (xs.length + 1) c)).cell? ⟨b + 1, 0, none⟩ = some (.string (B wd)) := cell_of_one hinv.word
    have f2 : (w1.setCell ⟨b, 0, none⟩ (.slice (some ⟨g, 0, none⟩) (xs.length + 1) c)).frozen? ⟨b + 1, 0, none⟩ = false := free_of_one hinv.word
    clear hown' hg hown cO cW fO fW hv hw
    go_wp2
    go_end0
    refine ⟨rfl, ?_, hb2.setCell (Nat.le_succ _) _⟩
    rw [flushL, if_neg hwd]
    exact hinv.word_set []

def lex_Words.f (a0 : ByteArray) : Option (List ByteArray) := if a0.size ≤ 1048576 then some ((words a0.data.toList).map B) else none

set_option maxRecDepth 100000 in
set_option maxHeartbeats 4000000 in
theorem lex_Words.calls (a0 : ByteArray) (r : List ByteArray) (w : World) (h : lex_Words.f a0 = some r) :
    Calls Tryd.prog 9 #[.string a0] w fun e w' => ∃ v0_ : Value, e = .returned (v0_) ∧ Kd.R Kd.string 9 w' w.heap.size (fun _ => True) v0_ r ∧ Below w.heap.size w w' := by
  unfold lex_Words.f at h
  split at h
  case isFalse => cases h
  rename_i hsz
  obtain rfl := Option.some.inj h
  clear h
  go_enter Tryd.func9, Tryd.ntmps9
  go_wp2
  go_step3
  go_wp2
  go_step3
  go_wp2
  go_loopg [0, 6] a0.size (fun gk s0 s6 wr => ∃ (s wd : List UInt8) (xs : List (List UInt8)), s0 = .string (B s) ∧ s.length ≤ gk ∧ xs.length + s.length + wd.length ≤ 1048576 ∧
      Hid (xs ++ wordsGo s wd = words a0.data.toList) ∧ Hid (WInv w.heap.size wd xs wr) ∧ Hid (Below w.heap.size w wr))
  case atStart =>
    refine ⟨a0.data.toList, [], [], ?_, ?_, ?_, rfl, ?_, ?_⟩
    · rw [← B_of]
    · simp
    · simp; exact hsz
    · refine ⟨⟨.slice none 0 0, ?_, ?_⟩, ?_⟩
      · exact (Below.heap_alloc _ _ _ (by simp)).trans (heap_alloc_new _ _)
      · exact own_nil _ _ _ _
      · have := heap_alloc_new (w.alloc (.cells #[.slice none 0 0] 30)) (.cells #[.string (B [])] 9)
        simpa using this
    · exact ((Below.refl _ w).alloc (Nat.le_refl _) _).alloc (by simp) _
  case round =>
    obtain ⟨s, wd, xs, rfl, hk, hn, hW, hI, hB⟩ := hrel
    have cW := cell_of_one hI.out.word
    have fW := free_of_one hI.out.word
    obtain ⟨v, hv, hown⟩ := hI.out.out
    have cO := cell_of_one hv
    have fO := free_of_one hv
    have hlt := hI.out.lt
    cases s with
    | nil =>
      simp only [List.length_nil] at hn hk
      go_wp2_with (go_at_call 18; refine (end_any w.heap.size wd xs _ hI.out (by omega)).mono ?_; rintro e w2 ⟨rfl, hI2, hB2⟩; obtain ⟨v2, hv2, hown2⟩ := hI2.out; have cO2 := cell_of_one hv2)
      rw [Exit.noGoto_ret]
      go_ret
      rename_i hv2 hown2 cO2
      refine ⟨v2, rfl, ?_, ?_⟩
      · have hfin : (words a0.data.toList).map B = (xs ++ flushL wd).map B := by rw [← hW.out, wordsGo]
        rw [hfin]
        refine Kd.R_lower (Kd.R_of_own (enc := Value.string) (by simpa [encs, Function.comp_def] using hown2) (fun _ _ => trivial)) (Nat.le_add_right _ 2)
      · exact hB.out.trans ‹_›
    | cons c s =>
      simp only [List.length_cons] at hn hk
      cases gk with
      | zero => omega
      | succ gk =>
      have h0 : ∀ h : 0 < (B (c :: s)).size, (((B (c :: s))[0]'h).toNat : Int) = (c.toNat : Int) := fun h => rfl
      have hsB : (B (c :: s)).size = s.length + 1 := by rw [size_B]; rfl
      have hcr := c.toNat_lt
      by_cases hA : c = 36 ∧ s ≠ []
      · obtain ⟨rfl, hs⟩ := hA
        obtain ⟨d, s, rfl⟩ : ∃ d s', s = d :: s' := by cases s with | nil => exact absurd rfl hs | cons d s => exact ⟨d, s, rfl⟩
        simp only [List.length_cons] at hn hk hsB
        have e1 : (B (36 :: d :: s)).extract 2 (s.length + 1 + 1) = B s := by rw [extract_B]; simp
        have e2 : B wd ++ (B (36 :: d :: s)).extract 0 2 = B (wd ++ [36, d]) := by rw [extract_B, B_append]; simp
        have E1 := Lib.hid e1
        have E2 := Lib.hid e2
        clear e1 e2
        go_wp2_with fail
        go_region
        all_goals go_wp2
        all_goals go_roundg gk
        case measure => omega
        case rel =>
          rw [E1.out, E2.out]
          refine ⟨s, wd ++ [36, d], xs, rfl, by omega, by simp; omega, ?_, (hI.out.word_set _).drawn, ?_⟩
          · have := hW.out; rw [go_pair] at this; exact this
          · exact (hB.out.setCell (Nat.le_succ _) _).drew
      · have HSG := Lib.hid (sign_B (c :: s))
        by_cases hne : signL (c :: s) = []
        · have hno := sign_none c s hne
          rw [hne] at HSG
          have h36 : c ≠ 36 ∨ s = [] := by
            by_cases h1 : c = 36
            · exact .inr (Classical.byContradiction fun h2 => hA ⟨h1, h2⟩)
            · exact .inl h1
          clear hA hne
          by_cases h32 : c = 32
          · subst h32
            go_wp2_with fail
            refine (lex_sign.calls 4 _ _ _ HSG.out).mono ?_
            rintro e w2 ⟨rfl, hB2⟩
            have hI2 := Lib.hid (hI.out.below hB2)
            clear cW fW cO fO hv hown
            go_wp2_with fail
            refine (end_any w.heap.size wd xs _ hI2.out (by omega)).mono ?_
            rintro e w3 ⟨rfl, hI3, hB3⟩
            have HI3 := Lib.hid hI3
            clear hI3
            have e1 : (B (32 :: s)).extract 1 (s.length + 1) = B s := by rw [extract_B]; simp
            have E1 := Lib.hid e1
            clear e1
            go_wp2
            all_goals go_roundg gk
            case measure => omega
            case rel =>
              rw [E1.out]
              refine ⟨s, [], xs ++ flushL wd, rfl, by omega, by have := flush_len wd; simp; omega, ?_, HI3.out, (hB.out.trans (hB2.mono (by omega))).trans hB3⟩
              have := hW.out; rw [go_blank] at this; rw [List.append_assoc]; exact this
          · have q32 : ((c.toNat : Int) == 32) = false := by
              rw [beq_eq_false_iff_ne]; intro e; exact h32 ((toNat_eq c 32 (by omega)).1 e)
            have e1 : (B (c :: s)).extract 1 (s.length + 1) = B s := by rw [extract_B]; simp
            have e2 : B wd ++ (B (c :: s)).extract 0 1 = B (wd ++ [c]) := by rw [extract_B, B_append]; simp
            have E1 := Lib.hid e1
            have E2 := Lib.hid e2
            have hgo := Lib.hid (go_plain c s wd h36 hno.1 hno.2 h32)
            clear e1 e2 h32 hno
            have q36 : (((c.toNat : Int) == 36) = false) ∨ (c = 36 ∧ s = []) := by
              by_cases h1 : c = 36
              · rcases h36 with h | h
                · exact absurd h1 h
                · exact .inr ⟨h1, h⟩
              · exact .inl (by rw [beq_eq_false_iff_ne]; intro e; exact h1 ((toNat_eq c 36 (by omega)).1 e))
            clear h36
            rcases q36 with q36 | ⟨rfl, rfl⟩
            all_goals
              go_wp2_with fail
              refine (lex_sign.calls 4 _ _ _ HSG.out).mono ?_
              rintro e w2 ⟨rfl, hB2⟩
              have hI2 := Lib.hid (hI.out.below hB2)
              have cW2 := cell_of_one hI2.out.word
              have fW2 := free_of_one hI2.out.word
              clear cW fW cO fO hv hown
              go_wp2_with fail
              go_region
              all_goals go_wp2
              all_goals go_roundg gk
              case measure => omega
              case rel =>
                rw [E2.out]
                first
                  | rw [E1.out]
                  | rw [show ByteArray.empty = B [] from rfl]
                refine ⟨_, wd ++ [_], xs, rfl, by simp at hk ⊢; try omega, by simp at hn ⊢; omega, ?_, (hI2.out.word_set _).drawn, ?_⟩
                · have := hW.out; rw [hgo.out] at this; exact this
                · exact ((hB.out.trans (hB2.mono (by omega))).setCell (Nat.le_succ _) _).drew
        · obtain ⟨rest, hcs, hgo, h36⟩ := sign_step c s wd hne
          obtain ⟨sg, hsg⟩ : ∃ sg, sg = signL (c :: s) := ⟨_, rfl⟩
          rw [← hsg] at HSG hne hcs hgo
          have q36 : ((c.toNat : Int) == 36) = false := by
            rw [beq_eq_false_iff_ne]; intro e; exact h36 ((toNat_eq c 36 (by omega)).1 e)
          have hsge : sg.isEmpty = false := by simpa using hne
          have hlen : sg.length + rest.length = s.length + 1 := by have := congrArg List.length hcs; simp at this; omega
          have hpos : 0 < sg.length := List.length_pos_iff.2 hne
          have e1 : (B (c :: s)).extract sg.length (s.length + 1) = B rest := by rw [extract_B, hcs, List.take_of_length_le (by simp; omega)]; simp
          have E1 := Lib.hid e1
          have HGO := Lib.hid hgo
          have hl1 : (sg.length : Int) ≤ (s.length : Int) + 1 := by omega
          have HLEN := Lib.hid hlen
          clear e1 hgo hcs hsg hA hne h36 hlen
          go_wp2_with fail
          refine (lex_sign.calls 4 _ _ _ HSG.out).mono ?_
          rintro e w2 ⟨rfl, hB2⟩
          have hI2 := Lib.hid (hI.out.below hB2)
          clear cW fW cO fO hv hown
          go_wp2_with fail
          refine (end_any w.heap.size wd xs _ hI2.out (by omega)).mono ?_
          rintro e w3 ⟨rfl, hI3, hB3⟩
          have HI3 := Lib.hid hI3
          obtain ⟨v3, hv3, hown3⟩ := hI3.out
          have cO3 := cell_of_one hv3
          have fO3 := free_of_one hv3
          have hlt3 := hI3.lt
          have hfl := flush_len wd
          have hn3 : (xs ++ flushL wd).length ≤ 1048576 := by simp; omega
          clear hI3
          obtain ⟨i0, hi, hz0, hz1, hz2⟩ := info_parts infoS
          have cO3a : (w3.alloc (.cells #[.string (B sg)] 9)).cell? ⟨w.heap.size, 0, none⟩ = some v3 := cell_of_one ((Below.heap_alloc _ _ _ (lt_of_block hv3)).trans hv3)
          go_wp2_with fail
          go_region_law (refine step_append_lies _ (by rfl) _ _ _ (by rfl) (w.heap.size + 2) 9 i0 _ 1 16 Tryd.underlying30 hi hz0 hz1 hz2 rfl (by omega) v3 (xs ++ flushL wd).length ((xs ++ flushL wd).map fun x => Value.string (B x)) (by rfl) ((hown3.alloc _).drew) ⟨w3.heap.size, 0, none⟩ 1 1 [.string (B sg)] (by rfl) (by rfl) (World.news_of_block (cs := #[.string (B sg)]) (t := 9) (fr := (0, 0)) (heap_alloc_new w3 _)) (by simp [Value.oneCell']) (by omega) (by unfold maxLen; omega) (by omega) (by simp; omega) (w3.heap.size + 1) (by simp) ?_; intro gg cap w4 hown4 hgrow hat hlt4; have HP := WInv.push sg _ hv3 hown3 HI3.out.word hown4 (grown_undrew hgrow); have cO4 := HP.1; have fO4 := HP.2.1)
          all_goals go_wp2
          all_goals go_roundg gk
          case measure => omega
          case rel =>
            rw [E1.out]
            simp only [List.length_append] at HP
            have hL := HLEN.out
            refine ⟨rest, [], xs ++ flushL wd ++ [sg], rfl, by omega, by simp; omega, ?_, HP.2.2.2.2.1, ((hB.out.trans (hB2.mono (by omega))).trans hB3).trans HP.2.2.2.2.2⟩
            have := hW.out; rw [HGO.out] at this; rw [List.append_assoc, List.append_assoc]; exact this
          case measure => omega
          case rel =>
            rw [E1.out]
            simp only [List.length_append] at HP
            have hL := HLEN.out
            refine ⟨rest, [], xs ++ flushL wd ++ [sg], rfl, by omega, by simp; omega, ?_, HP.2.2.2.2.1, ((hB.out.trans (hB2.mono (by omega))).trans hB3).trans HP.2.2.2.2.2⟩
            have := hW.out; rw [HGO.out] at this; rw [List.append_assoc, List.append_assoc]; exact this
end Go.Proofs.YtahejhkphceajaaDoor.P
