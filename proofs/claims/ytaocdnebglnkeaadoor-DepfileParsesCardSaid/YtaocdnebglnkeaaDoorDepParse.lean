/- depfile.Parse walked. -/
import Derived.Test.YtaocdnebglnkeaaDoorDepWords
import Derived.Test.YtaocdnebglnkeaaDoorFields
import Derived.Test.YtaocdnebglnkeaaDoorPathTh
import Derived.Test.YtaocdnebglnkeaaDoorMaxCell
import Derived.Maps.Own
import Derived.Maps.OwnSet
import Derived.Maps.OwnOps
import Derived.Maps.Views
import Derived.Maps.StringElems
import Derived.Maps.AppendAt
import Derived.ProofKit
set_option linter.unusedSimpArgs false
set_option linter.unusedVariables false
namespace Go.Proofs.YtaocdnebglnkeaaDoor.P
open Go.RowKit Go.Lib Go.Shelf Go.Maps Go.WideMaps Go.WideElems Go.Proofs.YtaocdnebglnkeaaDoorW.PrintWords Go.Proofs.YtaocdnebglnkeaaDoorW.PrintLast Go.Proofs.YtaocdnebglnkeaaDoorW.PrintMore Go.Proofs.YtaocdnebglnkeaaDoor.U Go.Proofs.YtaocdnebglnkeaaDoor.Dp

theorem skeyed : Keyed Tryd.prog 9 := string_keyed Tryd.underlying9
theorem bzero (w : World) : (zeroValue 4).run Tryd.prog w = .ok (.bool false) w := by kernel_rfl
theorem plainElem_bool_inv {H : Type} {P : Program} {e : TypeId} (he : P.underlying e = some .bool) {v : Value} {z : DataW H × List MemPlace} (h : plainElem P e v = some z) : ∃ x, v = .bool x ∧ z = (.lit (.bool x), []) := by
  unfold plainElem at h
  rw [he] at h
  cases v <;> simp at h
  exact ⟨_, rfl, h.symm⟩
/-- Block b of w is a map of at most n entries: those of S, each true. -/
def OwnsS (w : World) (b n : Nat) (S : List Txt) : Prop :=
  ∃ D : DataW Unit, w.ownsMap Tryd.prog 9 (plainElem Tryd.prog 4) b n D ∧ (∀ k, Maps.has D (.string k) = decide (k ∈ S)) ∧ (∀ k, k ∈ S → ∀ z, D.atKey (.string k) z = .lit (.bool true))
theorem OwnsS.lt {w : World} {b n : Nat} {S : List Txt} (h : OwnsS w b n S) : b < w.heap.size := by
  obtain ⟨D, h, _⟩ := h
  exact h.lt
theorem OwnsS.same {w w' : World} {b n : Nat} {S : List Txt} (h : OwnsS w b n S) (hb : w'.heap[b]? = w.heap[b]?) : OwnsS w' b n S := by
  obtain ⟨D, ⟨es, clock, h1, h2⟩, r⟩ := h
  exact ⟨D, ⟨es, clock, hb.trans h1, h2⟩, r⟩
theorem OwnsS.made (w : World) : OwnsS (w.alloc (.map #[] 0)) w.heap.size 0 [] :=
  ⟨.map [], World.ownsMap_made w _ _ _, fun _ => rfl, fun k h => by cases h⟩
theorem OwnsS.look {w : World} {b n : Nat} {S : List Txt} (h : OwnsS w b n S) (k : Txt) (hk : k.length ≤ maxLen) :
    (Instr.lookup 38 (.map (some b)) (.string (B k)) false).run Tryd.prog w = .ok (.bool (decide (k ∈ S))) w := by
  obtain ⟨D, h, h1, h2⟩ := h
  have hkey : keyOf Tryd.prog 9 (.string (B k)) = some (.string k) := keyOf_string_mk Tryd.underlying9 (by rw [size_B]; exact hk)
  obtain ⟨v, ps, hrun, hv⟩ := h.lookup skeyed Tryd.underlying38 (bzero w) (plainElem_bool Tryd.underlying4 false) hkey
  obtain ⟨x, rfl, hs⟩ := plainElem_bool_inv Tryd.underlying4 hv
  have hat := (Prod.mk.inj hs).1
  rw [hrun]
  have : x = decide (k ∈ S) := by
    by_cases hm : k ∈ S
    · rw [h2 k hm] at hat
      have : true = x := Lit.bool.inj (DataW.lit.inj hat)
      rw [← this, decide_eq_true hm]
    · have hn : Maps.has D (.string k) = false := by rw [h1 k, decide_eq_false hm]
      rw [Maps.atKey_of_not_has hn] at hat
      have : false = x := Lit.bool.inj (DataW.lit.inj hat)
      rw [← this, decide_eq_false hm]
  rw [this]
theorem OwnsS.store {w : World} {b n : Nat} {S : List Txt} (h : OwnsS w b n S) (hn : n < maxLen) (k : Txt) (hk : k.length ≤ maxLen) :
    ∃ w', (Instr.mapUpdate 38 (.map (some b)) (.string (B k)) (.bool true)).run Tryd.prog w = .ok () w' ∧ OwnsS w' b (n + 1) (S ++ [k]) ∧ w.grownBy w' (some b) := by
  obtain ⟨D, h, h1, h2⟩ := h
  have hkey : keyOf Tryd.prog 9 (.string (B k)) = some (.string k) := keyOf_string_mk Tryd.underlying9 (by rw [size_B]; exact hk)
  obtain ⟨w', hrun, hown, hg⟩ := h.update skeyed Tryd.underlying38 hn hkey (plainElem_bool (H := Unit) Tryd.underlying4 true)
  refine ⟨w', hrun, ⟨_, hown, ?_, ?_⟩, hg⟩
  · intro x
    by_cases hx : x = k
    · subst hx
      rw [has_put_same h.isMap (show WideAt.IsKeyLit (.string x) from trivial)]; simp
    · rw [has_put_other (by simpa using hx), h1 x]; simp [hx]
  · intro x hx' z
    by_cases hx : x = k
    · subst hx
      rw [atKey_put_same h.isMap (show WideAt.IsKeyLit (.string x) from trivial)]
    · rw [atKey_put_other (by simpa using hx)]
      exact h2 x (by simpa [hx] using hx') z
/-- The names, cleaned, each once; none: one is no path. -/
def depsF : List Txt → List Txt → Option (List Txt)
  | [], acc => some acc
  | p :: r, acc => if (cleanL p).2 ≠ 0 then none else if (cleanL p).1 ∈ acc then depsF r acc else depsF r (acc ++ [(cleanL p).1])
/-- The names of a line's rest. -/
def restL (l : Txt) : List Txt := Fld.fieldsT (cut l [58]).2.1
theorem names_rest (l : Txt) : namesL l = (restL l).map B := Fld.fields_B _
def ansL (oc : Txt) : Option (List Txt) → Txt × List Txt × Int
  | none => ([], [], 14)
  | some ds => (oc, ds, 0)
/-- What Parse answers. -/
def parseL (text : Txt) : Txt × List Txt × Int :=
  if 16384 < text.length then ([], [], 14) else
  if (lineL text).2 = true ∧ formL (lineL text).1 = true then
    if (cleanL (outL (lineL text).1)).2 ≠ 0 then ([], [], 14) else
    ansL (cleanL (outL (lineL text).1)).1 (depsF (restL (lineL text).1) [])
  else ([], [], 14)
example : parseL [111, 58, 32, 97, 32, 92, 10, 32, 98, 47, 46, 46, 47, 99] = ([111], [[97], [99]], 0) := by decide +kernel
def ParsePost (text : Txt) (w : World) (e : Ending) (w' : World) : Prop := Below w.heap.size w w' ∧
  ∃ v, e = .returned (.tuple #[.string (B (parseL text).1), v, .int .i64 (parseL text).2.2]) ∧ Kd.R Kd.string 9 w' w.heap.size (fun _ => True) v ((parseL text).2.1.map B)
theorem post_err {text : Txt} {w w' : World} (h : parseL text = ([], [], 14)) (hb : Below w.heap.size w w') : ParsePost text w (.returned (.tuple #[.string (B []), .slice none 0 0, .int .i64 14])) w' := by
  refine ⟨hb, .slice none 0 0, ?_, ?_⟩
  · rw [h]
  · rw [h]; exact Kd.R_nil _ _ _ _ _
theorem lineF_mem (L : List Txt) : ∀ (st : Option Txt) (s : Txt), lineF L st = some (some s) → st = some s ∨ s ∈ L := by
  induction L with
  | nil => intro st s h; left; simpa [lineF] using h
  | cons p L ih =>
    intro st s h
    cases st with
    | none =>
      simp only [lineF] at h
      split at h
      · rcases ih _ _ h with h | h
        · exact .inl h
        · exact .inr (by simp [h])
      · rcases ih _ _ h with h | h
        · right; have := Option.some.inj h; simp [this]
        · exact .inr (by simp [h])
    | some x =>
      simp only [lineF] at h
      split at h
      · rcases ih _ _ h with h | h
        · exact .inl h
        · exact .inr (by simp [h])
      · cases h
theorem lineL_len (text : Txt) : (lineL text).1.length ≤ text.length := by
  unfold lineL
  cases h : lineF (splitK 10 0 (rep2 text)) none with
  | none => simp [resF]
  | some o =>
    cases o with
    | none => simp [resF]
    | some s =>
      rcases lineF_mem _ _ _ h with h | h
      · cases h
      · have h1 := total_mem h
        have h2 := splitK_total 10 (rep2 text)
        have h3 := rep2_len text
        show s.length ≤ _
        omega
theorem clean_len (l : Txt) : (cleanL l).1.length ≤ 100 := by
  by_cases h : (cleanL l).2 = 0
  · obtain ⟨ps, hi⟩ := PTh.clean_is (l := l) (c := (cleanL l).1) (by rw [← h])
    exact hi.len
  · have := PTh.clean_err (l := l) (c := (cleanL l).1) (e := (cleanL l).2) rfl h
    rw [this]; simp
set_option maxRecDepth 100000 in
set_option maxHeartbeats 8000000 in
theorem Parse_any (text : Txt) (w : World) (hm : ∃ m, w.cell? ⟨0, 0, none⟩ = some (.int .i64 m)) : Calls Tryd.prog 6 #[.string (B text)] w (ParsePost text w) := by
  have s1 : (B text).size = text.length := size_B text
  by_cases hl : 16384 < text.length
  · have hP := Lib.hid (show parseL text = ([], [], 14) by rw [parseL, if_pos hl])
    have d1 : decide ((16384 : Int) < (text.length : Int)) = true := by rw [decide_eq_true_iff]; omega
    go_enter Tryd.func6, Tryd.ntmps6
    go_wp2_with fail
    go_ret3
    exact post_err hP.out (Below.refl _ _)
  · have d1 : decide ((16384 : Int) < (text.length : Int)) = false := by rw [decide_eq_false_iff_not]; omega
    have hP := Lib.hid (show parseL text = (if (lineL text).2 = true ∧ formL (lineL text).1 = true then
        (if (cleanL (outL (lineL text).1)).2 ≠ 0 then ([], [], 14) else
        ansL (cleanL (outL (lineL text).1)).1 (depsF (restL (lineL text).1) [])) else ([], [], 14) : Txt × List Txt × Int) by rw [parseL, if_neg hl])
    have hLi := Lib.hid (line_any text (by omega) w hm)
    have hll := lineL_len text
    have hWo := Lib.hid (fun W h' => words_any (lineL text).1 (by omega) W h')
    have hrl : (restL (lineL text).1).length ≤ 20000 := by
      have h1 := Fld.fieldsGo_len (cut (lineL text).1 [58]).2.1 []
      have h2 := (cut_len (lineL text).1).2
      show (Fld.fieldsGo [] _).length ≤ _; omega
    have hNm := Lib.hid (names_rest (lineL text).1)
    have HM : Hid (∀ W, Below w.heap.size w W → ∃ m, W.cell? ⟨0, 0, none⟩ = some (.int .i64 m)) := by
      intro W hW
      obtain ⟨m, hm⟩ := hm
      refine ⟨m, (hW.cell (p := ⟨0, 0, none⟩) ?_).trans hm⟩
      show 0 < w.heap.size
      rcases Nat.eq_zero_or_pos w.heap.size with h0 | h0
      · have : w.heap[0]? = none := by simp [h0]
        simp [World.cell?, this] at hm
      · exact h0
    clear hm hl hll
    generalize restL (lineL text).1 = ns at *
    generalize lineL text = pr at *
    obtain ⟨l, is⟩ := pr
    try simp only at hP hLi hWo hNm
    have hCo := Lib.hid (fun W => clean_any (outL l) W)
    have hcl := clean_len (outL l)
    go_enter Tryd.func6, Tryd.ntmps6
    go_wp2_with fail
    refine hLi.out.mono ?_
    rintro e w1 ⟨rfl, hb1⟩
    have hB1 := Lib.hid hb1
    clear hb1
    go_wp2_with fail
    refine (hWo.out _ (HM.out _ hB1.out)).mono ?_
    rintro e w2 ⟨hb2, hcase⟩
    have hB2 := Lib.hid (hB1.out.trans (hb2.mono hB1.out.size))
    clear hb2
    rcases hcase with ⟨hf, X, rfl, hR⟩ | ⟨hf, rfl⟩
    case inr =>
      have hres : Hid (parseL text = ([], [], 14)) := by show _ = _; rw [hP.out, if_neg]; intro q; rw [hf] at q; cases q.2
      cases is with
      | false =>
        go_wp2_with fail
        go_ret3
        exact post_err hres.out hB2.out
      | true =>
        go_wp2_with fail
        go_ret3
        exact post_err hres.out hB2.out
    case inl =>
      cases is with
      | false =>
        have hres : Hid (parseL text = ([], [], 14)) := by show _ = _; rw [hP.out, if_neg]; intro q; cases q.1
        go_wp2_with fail
        go_ret3
        exact post_err hres.out hB2.out
      | true =>
        have hP2 : Hid (parseL text = (if (cleanL (outL l)).2 ≠ 0 then ([], [], 14) else
            ansL (cleanL (outL l)).1 (depsF ns []) : Txt × List Txt × Int)) := by show _ = _; rw [hP.out, if_pos ⟨rfl, hf⟩]
        clear hP hf
        rw [hNm.out] at hR
        rw [hNm.out]
        obtain ⟨n, hn⟩ : ∃ n, ns.length = n := ⟨_, rfl⟩
        have hmn : (ns.map B).length = n := by rw [List.length_map, hn]
        rw [hmn] at hR
        rw [hmn]
        have hX : 0 < n → X < w2.heap.size := by
          intro h0
          obtain ⟨g, cap, he, _, hg, _⟩ := Kd.R_form hR (by rw [hmn]; exact h0)
          cases he
          exact hg
        have hcells : ∀ j (h : j < ns.length), w2.cell? ⟨X, j, none⟩ = some (.string (B ns[j])) := by
          intro j hj
          have h := (Kd.R_celln ByteArray.empty hR (j : Int) (by omega) (by omega)).1
          rw [rdOf_B _ _ (by rw [hmn]; omega)] at h
          simp only [List.getElem_map, Int.toNat_natCast] at h
          exact h
        have hCe := Lib.hid hcells
        clear hcells hR hNm hWo hLi
        generalize outL l = o at *
        generalize cleanL o = co at *
        obtain ⟨oc, oe⟩ := co
        try simp only at hP2 hCo hcl
        go_wp2_with fail
        refine (hCo.out _).mono ?_
        rintro e w3 ⟨rfl, hb3⟩
        have hB3 := Lib.hid (hB2.out.trans (hb3.mono hB2.out.size))
        have hC3 : Hid (∀ j (h : j < ns.length), w3.cell? ⟨X, j, none⟩ = some (.string (B ns[j]))) := fun j hj => (hb3.cell (p := ⟨X, j, none⟩) (hX (by omega))).trans (hCe.out j hj)
        have hX3 : 0 < n → X < w3.heap.size := fun h0 => Nat.lt_of_lt_of_le (hX h0) hb3.size
        clear hb3 hCe hX
        by_cases ho : oe = 0
        case neg =>
          have dd : (oe != 0) = true := by simpa using ho
          have hres : Hid (parseL text = ([], [], 14)) := by show _ = _; rw [hP2.out, if_pos ho]
          go_wp2_with fail
          go_ret3
          exact post_err hres.out hB3.out
        case pos =>
          subst ho
          have hmm := @run_makeMap Tryd.prog
          go_wp2_with fail
          have hP3 : Hid (parseL text = ansL oc (depsF ns [])) := by show _ = _; rw [hP2.out, if_neg (by simp)]
          obtain ⟨RR, hRR⟩ : ∃ RR, depsF ns [] = RR := ⟨_, rfl⟩
          have hPR : Hid (parseL text = ansL oc RR) := by show _ = _; rw [hP3.out, hRR]
          have hDR := Lib.hid hRR
          clear hP3 hP2 hRR
          have hmade := Lib.hid (OwnsS.made w3)
          have hsz4 : (w3.alloc (.map #[] 0)).heap.size = w3.heap.size + 1 := by simp
          have hB4 := Lib.hid ((Below.refl w3.heap.size w3).alloc (Nat.le_refl _) (.map #[] 0))
          obtain ⟨w4, hw4⟩ : ∃ w4, w3.alloc (.map #[] 0) = w4 := ⟨_, rfl⟩
          rw [hw4] at hmade hsz4 hB4 ⊢
          clear hw4
          have hw3s := hB3.out.size
          go_loopg [11, 47] n (fun gk s11 s47 wr => ∃ (i : Nat) (acc : List Txt) (v11 : Value), s47 = .int .i64 (i : Int) ∧ s11 = v11 ∧ i + gk = n ∧ Hid (depsF (ns.drop i) acc = RR) ∧ Hid (OwnsS wr w3.heap.size acc.length acc) ∧
            Hid (wr.ownsRow (w3.heap.size + 1) 9 1 v11 acc.length (acc.map fun x => Value.string (B x))) ∧ Hid (Below w3.heap.size w3 wr) ∧ acc.length ≤ i)
          case atStart => exact ⟨0, [], _, rfl, rfl, Nat.zero_add _, hDR, hmade, own_nil _ _ _ _, hB4, Nat.le_refl _⟩
          case round =>
            obtain ⟨i, acc, v11, rfl, h11, hik, hG, hS, hO, hBr, hai⟩ := hrel
            subst h11
            cases gk with
            | zero =>
              obtain rfl : i = n := by omega
              have hfin : Hid (parseL text = (oc, acc, 0)) := by
                have : RR = some acc := by rw [← hG.out, ← hn, List.drop_length]; rfl
                show _ = _
                rw [hPR.out, this]; rfl
              have hlt : decide ((i : Int) < (i : Int)) = false := by simp
              go_wp2_with fail
              go_ret3
              refine ⟨hB3.out.trans (hBr.out.mono hw3s), u11, ?_, ?_⟩
              · rw [hfin.out]; rfl
              · rw [hfin.out]
                exact Kd.R_lower (Kd.R_of_own (enc := Value.string) (by simpa [encs, Function.comp_def] using hO.out) (fun _ _ => trivial)) (by omega)
            | succ gk =>
              have hin : i < ns.length := by omega
              obtain ⟨p, hp⟩ : ∃ p, ns[i] = p := ⟨_, rfl⟩
              have hdr : ns.drop i = p :: ns.drop (i + 1) := by rw [List.drop_eq_getElem_cons hin, hp]
              have hcell : wr.cell? ⟨X, i, none⟩ = some (.string (B p)) := by
                rw [hBr.out.cell (p := ⟨X, i, none⟩) (hX3 (by omega)), hC3.out i hin, hp]
              have hlt : decide ((i : Int) < (n : Int)) = true := by rw [decide_eq_true_iff]; omega
              have hG2 : Hid (depsF (p :: ns.drop (i + 1)) acc = RR) := by rw [← hdr]; exact hG.out
              have hCp := Lib.hid (fun W => clean_any p W)
              have hcp := clean_len p
              clear hG hdr hp
              have hG3 : Hid ((if (cleanL p).2 ≠ 0 then none else if (cleanL p).1 ∈ acc then depsF (ns.drop (i + 1)) acc else depsF (ns.drop (i + 1)) (acc ++ [(cleanL p).1])) = RR) := hG2.out
              clear hG2
              generalize cleanL p = cp at *
              obtain ⟨c, e⟩ := cp
              try simp only at hG3 hCp hcp
              go_wp2_with fail
              refine (hCp.out _).mono ?_
              rintro e w5 ⟨rfl, hb5⟩
              have hB5 := Lib.hid (hBr.out.trans (hb5.mono hBr.out.size))
              have hS5 : Hid (OwnsS w5 w3.heap.size acc.length acc) := hS.out.same (hb5.block _ hS.out.lt)
              have hg5 : wr.grownBy w5 none := ⟨hb5.os, hb5.tape, hb5.output, hb5.size, fun k hk _ => hb5.block k hk⟩
              have hO5 := Lib.hid (hO.out.kept hg5 (Classical.em _))
              clear hb5 hg5
              by_cases he0 : e = 0
              case neg =>
                have dd : (e != 0) = true := by simpa using he0
                have hnone : RR = none := by rw [← hG3.out, if_pos he0]
                have hres : Hid (parseL text = ([], [], 14)) := by show _ = _; rw [hPR.out, hnone]; rfl
                go_wp2_with fail
                go_ret3
                exact post_err hres.out (hB3.out.trans (hB5.out.mono hw3s))
              case pos =>
                subst he0
                have hcm : c.length ≤ maxLen := by unfold maxLen; omega
                have hlook := hS5.out.look c hcm
                by_cases hmem : c ∈ acc
                · rw [decide_eq_true hmem] at hlook
                  have hG4 : Hid (depsF (ns.drop (i + 1)) acc = RR) := by show _ = _; rw [← hG3.out, if_neg (by simp), if_pos hmem]
                  go_wp2_with fail
                  go_roundg gk
                  case measure => omega
                  case rel => exact ⟨i + 1, acc, _, by first | rfl | simp, rfl, by omega, hG4, hS5, hO5, hB5, by omega⟩
                · rw [decide_eq_false hmem] at hlook
                  have hG4 : Hid (depsF (ns.drop (i + 1)) (acc ++ [c]) = RR) := by show _ = _; rw [← hG3.out, if_neg (by simp), if_neg hmem]
                  obtain ⟨w6, hst, hS6, hg6⟩ := hS5.out.store (by unfold maxLen; omega) c hcm
                  have hO6 := Lib.hid (hO5.out.kept hg6 (.inr fun e => by have := (hO5.out.lt _ (by first | exact e | exact e.symm)).1; omega))
                  have hB6 := Lib.hid (hB5.out.grown hg6 hB5.out.size (fun k hk => by cases hk; exact Nat.le_refl _))
                  have hSS6 := Lib.hid hS6
                  obtain ⟨i0, hi, hz0, hz1, hz2⟩ := info_parts infoStr
                  have hs6 := hB6.out.size
                  have hsl := hS6.lt
                  clear hS6 hg6
                  go_wp2_with (at_builtin; refine wpList_append_own _ rfl _ _ 22 rfl (w3.heap.size + 1) 9 i0 (.string ⟨#[]⟩) 1 16 Tryd.underlying22 hi hz0 hz1 hz2 rfl (by decide) _ _ _ rfl (hO6.out.alloc _) ⟨w6.heap.size, 0, none⟩ 1 1 [.string (B c)] rfl rfl (cell_one_new _ _ _) (by simp [Value.oneCell']) (by unfold maxLen; omega) (by omega) (by simp; omega) ?_)
                  intro v' w7 hown' hg7 _
                  have hB7 : Hid (Below w3.heap.size w3 w7) := (hB6.out.alloc hs6 _).grown hg7 (by simp; omega) (fun k hk => by have := (hO6.out.lt k hk).1; omega)
                  have hS7 : Hid (OwnsS w7 w3.heap.size (acc ++ [c]).length (acc ++ [c])) := by
                    rw [List.length_append, List.length_singleton]
                    exact hSS6.out.same ((hg7.block _ (by simp; omega) (fun e => by have := (hO6.out.lt _ (by first | exact e | exact e.symm)).1; omega)).trans (Below.heap_alloc _ _ _ hsl))
                  have hO7 : Hid (w7.ownsRow (w3.heap.size + 1) 9 1 v' (acc ++ [c]).length ((acc ++ [c]).map fun x => Value.string (B x))) := by
                    show World.ownsRow _ _ _ _ _ _ _
                    simpa using hown'
                  clear hown' hg7
                  go_wp2_with fail
                  go_roundg gk
                  case measure => omega
                  case rel => exact ⟨i + 1, acc ++ [c], _, by first | rfl | simp, rfl, by omega, hG4, hS7, hO7, hB7, by simp; omega⟩
/-- depfile.Parse, in the print's shape. -/
def depfile_Parse.f (a0 : ByteArray) : Option (ByteArray × List ByteArray × Int) := some (B (parseL a0.data.toList).1, (parseL a0.data.toList).2.1.map B, (parseL a0.data.toList).2.2)
theorem depfile_Parse.calls (a0 : ByteArray) (r1 : ByteArray) (r2 : List ByteArray) (r3 : Int) (w : World) (hm : MaxCell w) (h : depfile_Parse.f a0 = some (r1, r2, r3)) :
    Calls Tryd.prog 6 #[.string a0] w fun e w' => ∃ v0_ : Value, e = .returned (.tuple #[.string r1, v0_, .int .i64 r3]) ∧ Kd.R Kd.string 9 w' w.heap.size (fun _ => True) v0_ r2 ∧ Below w.heap.size w w' := by
  have h' := Option.some.inj h
  have e1 : B (parseL a0.data.toList).1 = r1 := congrArg (·.1) h'
  have e2 : (parseL a0.data.toList).2.1.map B = r2 := congrArg (·.2.1) h'
  have e3 : (parseL a0.data.toList).2.2 = r3 := congrArg (·.2.2) h'
  have := Parse_any a0.data.toList w hm
  rw [← B_of] at this
  refine this.mono ?_
  rintro e w' ⟨hb, v, rfl, hR⟩
  subst e1 e2 e3
  exact ⟨v, rfl, hR, hb⟩
end Go.Proofs.YtaocdnebglnkeaaDoor.P
