/- bellowsref10.Expand answers as expandL does. No program in sight. -/
import Derived.Test.YtlpjhpdgjeiioaaScopeRefG
import Derived.Test.YtlpjhpdgjeiioaaScopeE
import Derived.Test.YtlpjhpdgjeiioaaPBellowsref10Expand0
set_option linter.unusedSimpArgs false
set_option linter.unusedVariables false
namespace Go.Proofs.Ytlpjhpdgjeiioaa.Sc
open Go.RowKit Go.Lib Go.Shelf Go.Maps Go.Proofs.YtlpjhpdgjeiioaaW.PrintWords Go.Proofs.Ytlpjhpdgjeiioaa.U Go.Proofs.Ytlpjhpdgjeiioaa.Idx Go.Proofs.Ytlpjhpdgjeiioaa.P

section
variable {L : List Lev} {xs : List S50}
theorem byte_is {c : UInt8} {n : Nat} (hn : n < 256) (h : c ≠ UInt8.ofNat n) : ¬ (c.toNat : Int) = (n : Int) := fun e => h ((toNat_eq c n hn).1 e)
theorem b36 {c : UInt8} (h : c ≠ 36) : ¬ (c.toNat : Int) = 36 := byte_is (n := 36) (by decide) h
theorem b125 {c : UInt8} (h : c ≠ 125) : ¬ (c.toNat : Int) = 125 := byte_is (n := 125) (by decide) h
theorem b123 {c : UInt8} (h : c ≠ 123) : ¬ (c.toNat : Int) = 123 := byte_is (n := 123) (by decide) h
theorem refJ5 (txt out own : Txt) (long : Bool) (pos : Nat) (res : ByteArray × Int) (ho : out.length + own.length < 1000000000)
    (h : Ev (fun k => bellowsref10_Expand.l0 k xs (B txt) (B (if long = true ∨ 16384 < out.length + own.length then out else out ++ own)) (decide (long = true ∨ 16384 < out.length + own.length)) (pos : Int)) res) :
    Ev (fun k => bellowsref10_Expand.j5 k xs (B txt) (B out) long (pos : Int) (B own)) res := by
  refine Ev.unroll (Ev.congr (fun k => ?_) h)
  have hw := wrapH2 out.length own.length (by omega)
  rw [bellowsref10_Expand.j5, size_B, size_B, hw.out]
  by_cases h1 : 16384 < out.length + own.length
  · rw [if_pos (by omega), if_pos (.inr h1), decide_eq_true (.inr h1)]
  · rw [if_neg (by omega)]
    cases long with
    | true => simp
    | false => rw [if_neg (by simp), if_pos (by omega), if_neg (by simp [h1]), decide_eq_false (by simp [h1]), B_append]
theorem pos_len (q u : Txt) : ((q ++ u).length : Int) = ((q.length + u.length : Nat) : Int) := by simp
theorem refL1 (out q : Txt) (long : Bool) (a : Nat) (res : ByteArray × Int) : ∀ (v u : Txt), (q ++ u ++ v).length < 1000000000 →
    Ev (fun k => bellowsref10_Expand.j3 k xs (B (q ++ u ++ v)) (B out) long (a : Int) ((q.length + u.length + (cutL 125 v).1.length : Nat) : Int)) res →
    Ev (fun k => bellowsref10_Expand.l1 k xs (B (q ++ u ++ v)) (B out) long (a : Int) ((q.length + u.length : Nat) : Int)) res := by
  intro v
  induction v with
  | nil =>
    intro u hl h
    refine Ev.unroll (Ev.congr (fun k => ?_) h)
    rw [bellowsref10_Expand.l1, size_B, if_neg (by simp)]
    rfl
  | cons c v ih =>
    intro u hl h
    have hw := wrapH (q.length + u.length) (by simp at hl; omega)
    have hb : bt (B (q ++ u ++ c :: v)) ((q.length + u.length : Nat) : Int) = (c.toNat : Int) := by rw [← pos_len]; exact bt_mid _ _ _
    by_cases hc : c = 125
    · subst hc
      refine Ev.unroll (Ev.congr (fun k => ?_) h)
      rw [bellowsref10_Expand.l1, size_B, if_pos (by simp; omega), if_pos (by omega), hb, if_pos (show ((125 : UInt8).toNat : Int) = 125 from rfl)]
      rw [cutL, if_pos rfl]; rfl
    · have h' := ih (u ++ [c]) (by simpa using hl) (by
        rw [cutL, if_neg hc] at h
        simp only [List.length_cons] at h
        simp only [List.append_assoc, List.singleton_append, List.length_append, List.length_singleton] at h ⊢
        rw [show q.length + (u.length + 1) + (cutL 125 v).1.length = q.length + u.length + ((cutL 125 v).1.length + 1) by omega]
        exact h)
      simp only [List.append_assoc, List.singleton_append, List.length_append, List.length_singleton] at h'
      refine Ev.unroll (Ev.congr (fun k => ?_) h')
      rw [bellowsref10_Expand.l1, size_B, if_pos (by simp; omega), if_pos (by omega), hb, if_neg (b125 hc), hw.out, List.append_assoc]
      rfl
theorem refL2 (out q : Txt) (long : Bool) (res : ByteArray × Int) (hg : ∀ nm, Ev (fun k => bellowsref10_Get.f k xs (B nm)) (B (getL L nm))) : ∀ (v u : Txt), (q ++ u ++ v).length < 1000000000 →
    Ev (fun k => bellowsref10_Expand.j5 k xs (B (q ++ u ++ v)) (B out) long ((q.length + u.length + (v.takeWhile shortB).length : Nat) : Int) (B (getL L (u ++ v.takeWhile shortB)))) res →
    Ev (fun k => bellowsref10_Expand.l2 k xs (B (q ++ u ++ v)) (B out) long (q.length : Int) ((q.length + u.length : Nat) : Int)) res := by
  have stop : ∀ (v u : Txt), (q ++ u ++ v).length < 1000000000 → Ev (fun k => bellowsref10_Expand.j5 k xs (B (q ++ u ++ v)) (B out) long ((q.length + u.length : Nat) : Int) (B (getL L u))) res →
      Ev (fun k => (bellowsref10_Get.f k xs ((B (q ++ u ++ v)).extract q.length (q.length + u.length))).bind fun t => bellowsref10_Expand.j5 k xs (B (q ++ u ++ v)) (B out) long ((q.length + u.length : Nat) : Int) t) res := by
    intro v u hl h
    have e : (B (q ++ u ++ v)).extract q.length (q.length + u.length) = B u := by
      rw [extract_B, List.take_left' (by simp), List.drop_left]
    rw [e]
    exact Ev.bind (hg u) h
  intro v
  induction v with
  | nil =>
    intro u hl h
    refine Ev.unroll (Ev.congr (fun k => ?_) (stop [] u hl (by simpa using h)))
    rw [bellowsref10_Expand.l2, size_B, if_neg (by simp), if_pos (by omega), if_pos (by omega), if_pos (by simp), Int.toNat_natCast, Int.toNat_natCast]
  | cons c v ih =>
    intro u hl h
    have hw := wrapH (q.length + u.length) (by simp at hl; omega)
    have hb : bt (B (q ++ u ++ c :: v)) ((q.length + u.length : Nat) : Int) = (c.toNat : Int) := by rw [← pos_len]; exact bt_mid _ _ _
    by_cases hc : shortB c = true
    · rw [List.takeWhile_cons, if_pos hc] at h
      have h' := ih (u ++ [c]) (by simpa using hl) (by
        simp only [List.length_cons] at h
        simp only [List.append_assoc, List.singleton_append, List.length_append, List.length_singleton] at h ⊢
        rw [show q.length + (u.length + 1) + (v.takeWhile shortB).length = q.length + u.length + ((v.takeWhile shortB).length + 1) by omega]
        exact h)
      simp only [List.append_assoc, List.singleton_append, List.length_append, List.length_singleton] at h'
      refine Ev.unroll (Ev.congr (fun k => ?_) h')
      rw [bellowsref10_Expand.l2, size_B, if_pos (by simp; omega), if_pos (by omega), hb, ref_short, hw.out, List.append_assoc]
      have hc' : shortR c.toNat = true := hc
      simp only [Option.bind_some, hc', if_true]
      rfl
    · rw [List.takeWhile_cons, if_neg hc] at h
      refine Ev.unroll (Ev.congr (fun k => ?_) (stop (c :: v) u hl (by simpa using h)))
      rw [bellowsref10_Expand.l2, size_B, if_pos (by simp; omega), if_pos (by omega), hb, ref_short, if_pos (by omega), if_pos (by omega), if_pos (by simp; omega), Int.toNat_natCast, Int.toNat_natCast]
      have hc' : ¬ shortR c.toNat = true := hc
      simp only [Option.bind_some, hc', if_false, Bool.false_eq_true]
theorem cutL_split (c : UInt8) (l : Txt) (h : (cutL c l).2.2 = true) : l = (cutL c l).1 ++ c :: (cutL c l).2.1 := by
  induction l with
  | nil => simp [cutL] at h
  | cons b l ih =>
    rw [cutL] at h ⊢
    by_cases hb : b = c
    · rw [if_pos hb]; simp [hb]
    · rw [if_neg hb] at h ⊢
      have := ih h
      simp only [List.cons_append]
      rw [← this]
theorem cutL_fail (c : UInt8) (l : Txt) (h : (cutL c l).2.2 = false) : (cutL c l).1 = l := by
  induction l with
  | nil => rfl
  | cons b l ih =>
    rw [cutL] at h ⊢
    by_cases hb : b = c
    · rw [if_pos hb] at h; cases h
    · rw [if_neg hb] at h ⊢
      simp only
      rw [ih h]
/-- What is answered at the end. -/
def out2 (r : Option (Txt × Bool)) : ByteArray × Int := (B (finL r).1, (finL r).2)
theorem escAll : ∀ n : Nat, n < 256 → escR n = (n == 36 || n == 32 || n == 58 || n == 124) := by decide +kernel
set_option maxHeartbeats 1000000 in
theorem ref_expand_go (hg : ∀ nm, Ev (fun k => bellowsref10_Get.f k xs (B nm)) (B (getL L nm))) (hT : ∀ k, (getL L k).length ≤ 5000) : ∀ (n : Nat) (r p out : Txt) (long : Bool), r.length ≤ n → (p ++ r).length ≤ 1000000 → out.length ≤ 16384 + p.length →
    Ev (fun k => bellowsref10_Expand.l0 k xs (B (p ++ r)) (B out) long (p.length : Int)) (out2 (E L r out long)) := by
  have fin : ∀ (p out : Txt) (long : Bool), Ev (fun k => bellowsref10_Expand.l0 k xs (B (p ++ [])) (B out) long (p.length : Int)) (out2 (E L [] out long)) := by
    intro p out long
    refine Ev.unroll (Ev.some fun k => ?_)
    rw [bellowsref10_Expand.l0, size_B, if_neg (by simp), E_nil, size_B]
    unfold out2 finL
    cases long with
    | true => simp
    | false =>
      by_cases h : 16384 < out.length
      · rw [if_neg (by simp), if_pos (by omega)]; simp [h]
      · rw [if_neg (by simp), if_neg (by omega)]; simp [h]
  intro n
  induction n with
  | zero =>
    intro r p out long hr _ _
    obtain rfl : r = [] := List.length_eq_zero_iff.1 (by omega)
    exact fin p out long
  | succ n ih =>
    intro r p out long hr hp ho
    cases r with
    | nil => exact fin p out long
    | cons c t =>
      simp only [List.length_cons] at hr
      have hp' : p.length + t.length + 1 ≤ 1000000 := by simp at hp; omega
      have hw := wrapH p.length (by omega)
      have hb : bt (B (p ++ c :: t)) (p.length : Int) = (c.toNat : Int) := bt_mid _ _ _
      by_cases hc : c = 36
      · subst hc
        cases t with
        | nil =>
          refine Ev.unroll (Ev.some fun k => ?_)
          rw [bellowsref10_Expand.l0, size_B, if_pos (by simp; omega), if_pos (by omega), hb, if_pos (show ((36 : UInt8).toNat : Int) = 36 from rfl), hw.out, if_pos (by simp)]
          rw [E_dollar [] out long (show dollarL L [] = ([], [], false) from rfl), if_pos rfl]
          rfl
        | cons d t =>
          have hw2 := wrapH (p.length + 1) (by omega)
          have hb2 : bt (B (p ++ 36 :: d :: t)) ((p.length + 1 : Nat) : Int) = (d.toNat : Int) := by
            have := bt_mid (p ++ [36]) d t
            simpa using this
          -- what is left over, at any place behind
          have next : ∀ (q r2 own : Txt), q ++ r2 = p ++ 36 :: d :: t → r2.length ≤ n → own.length ≤ 5000 → p.length < q.length →
              Ev (fun k => bellowsref10_Expand.j5 k xs (B (p ++ 36 :: d :: t)) (B out) long (q.length : Int) (B own)) (out2 (if long = true ∨ 16384 < out.length + own.length then E L r2 out true else E L r2 (out ++ own) false)) := by
            intro q r2 own hq h2 hown hpq
            refine refJ5 _ out own long q.length _ (by omega) ?_
            rw [← hq] at hp ⊢
            by_cases h1 : long = true ∨ 16384 < out.length + own.length
            · rw [if_pos h1, if_pos h1, decide_eq_true h1]
              exact ih r2 q out true h2 hp (by omega)
            · rw [if_neg h1, if_neg h1, decide_eq_false h1]
              refine ih r2 q (out ++ own) false h2 hp ?_
              rw [List.length_append]; omega
          have hlt' : (p ++ 36 :: d :: t).length < 1000000000 := by omega
          have hesc := escAll d.toNat d.toNat_lt
          have n1 : 0 ≤ ((p.length + 1 : Nat) : Int) := by omega
          have n2 : ((p.length + 1 : Nat) : Int) < ((p ++ 36 :: d :: t).length : Int) := by simp; omega
          have n3 : ¬ ((p.length + 1 : Nat) : Int) = ((p ++ 36 :: d :: t).length : Int) := by omega
          have start : ∀ k, bellowsref10_Expand.l0 (k + 1) xs (B (p ++ 36 :: d :: t)) (B out) long (p.length : Int) = bellowsref10_Expand.j1 k xs (B (p ++ 36 :: d :: t)) (B out) long ((p.length + 1 : Nat) : Int) (d.toNat : Int) (escR d.toNat) := by
            intro k
            rw [bellowsref10_Expand.l0, size_B, if_pos (by simp; omega), if_pos (by omega), hb, if_pos (show ((36 : UInt8).toNat : Int) = 36 from rfl), hw.out, if_neg n3, if_pos n1, if_pos n2, hb2, hesc]
            by_cases e1 : d.toNat = 36
            · rw [if_pos (by omega)]; simp [e1]
            · rw [if_neg (by omega)]
              by_cases e2 : d.toNat = 32
              · rw [if_pos (by omega)]; simp [e2]
              · rw [if_neg (by omega)]
                by_cases e3 : d.toNat = 58
                · rw [if_pos (by omega)]; simp [e3]
                · rw [if_neg (by omega)]
                  have q1 : (d.toNat == 36) = false := beq_eq_false_iff_ne.2 e1
                  have q2 : (d.toNat == 32) = false := beq_eq_false_iff_ne.2 e2
                  have q3 : (d.toNat == 58) = false := beq_eq_false_iff_ne.2 e3
                  rw [q1, q2, q3]
                  simp only [Bool.false_or]
                  congr 1
                  rw [Bool.eq_iff_iff, beq_iff_eq, beq_iff_eq]
                  omega
          refine Ev.unroll (Ev.congr start ?_)
          by_cases he : escR d.toNat = true
          · have hd : dollarL L (d :: t) = ([d], t, true) := by rw [dollarL, if_pos he]
            rw [E_dollar (d :: t) out long hd, if_neg (by simp)]
            have hn := next (p ++ [36, d]) t [d] (by simp) (by simp at hr; omega) (by simp) (by simp)
            refine Ev.unroll (Ev.congr (fun k => ?_) hn)
            rw [bellowsref10_Expand.j1, he, if_pos rfl, if_pos n1, hw2.out, if_pos (by omega), size_B, if_pos (by simp; omega), Int.toNat_natCast, Int.toNat_natCast, extract_B]
            have e1 : ((p ++ 36 :: d :: t).take (p.length + 1 + 1)).drop (p.length + 1) = [d] := by
              have : p ++ 36 :: d :: t = (p ++ [36]) ++ ([d] ++ t) := by simp
              rw [this, show p.length + 1 + 1 = (p ++ [36]).length + 1 by simp, List.take_length_add_append]
              simp
            rw [e1, show ((p ++ [36, d]).length : Int) = ((p.length + 1 + 1 : Nat) : Int) by rw [List.length_append]; rfl]
          · have he' : escR d.toNat = false := by simpa using he
            by_cases hbr : d = 123
            · subst hbr
              obtain ⟨⟨u, w, cl⟩, hcut⟩ : ∃ x, cutL 125 t = x := ⟨_, rfl⟩
              have hd : dollarL L (123 :: t) = (getL L u, w, cl && nameL u) := by rw [dollarL, if_neg he, if_pos rfl, hcut]
              rw [E_dollar (123 :: t) out long hd]
              have hl1 := refL1 (xs := xs) out (p ++ [36]) long (p.length + 1) (out2 (if (cl && nameL u) = false then none else if long = true ∨ 16384 < out.length + (getL L u).length then E L w out true else E L w (out ++ getL L u) false)) (123 :: t) [] (by rw [List.append_nil, List.append_assoc]; exact hlt')
              rw [List.append_nil, List.append_assoc, List.singleton_append, List.length_append, List.length_singleton, List.length_nil, Nat.add_zero, cutL, if_neg (by decide), hcut] at hl1
              refine Ev.unroll (Ev.congr (fun k => ?_) (hl1 ?_))
              · rw [bellowsref10_Expand.j1, he', if_neg (by simp), if_pos (show ((123 : UInt8).toNat : Int) = 123 from rfl)]
              · simp only [List.length_cons]
                cases cl with
                | false =>
                  have hu := cutL_fail 125 t (by rw [hcut])
                  rw [hcut] at hu
                  simp only at hu
                  subst hu
                  rw [Bool.false_and, if_pos rfl]
                  refine Ev.unroll (Ev.some fun k => ?_)
                  rw [bellowsref10_Expand.j3, size_B, if_pos (by simp; omega)]
                  rfl
                | true =>
                  have hu := cutL_split 125 t (by rw [hcut])
                  rw [hcut] at hu
                  simp only at hu
                  subst hu
                  have e1 : ((p ++ 36 :: 123 :: (u ++ 125 :: w)).take (p.length + 1 + (u.length + 1))).drop (p.length + 1 + 1) = u := by
                    have : p ++ 36 :: 123 :: (u ++ 125 :: w) = (p ++ [36, 123]) ++ (u ++ 125 :: w) := by simp
                    rw [this, show p.length + 1 + (u.length + 1) = (p ++ [36, 123]).length + u.length by simp; omega, List.take_length_add_append, List.take_left, List.drop_left' (by simp)]
                  have hw3 := wrapH (p.length + 1 + (u.length + 1)) (by simp at hp'; omega)
                  have j3 : ∀ k, bellowsref10_Expand.j3 (k + 1) xs (B (p ++ 36 :: 123 :: (u ++ 125 :: w))) (B out) long ((p.length + 1 : Nat) : Int) ((p.length + 1 + (u.length + 1) : Nat) : Int) =
                      ((bellowsref10_Name.f k (B u)).bind fun t111 => (if t111 = true then ((bellowsref10_Get.f k xs (B u)).bind fun t112 => (bellowsref10_Expand.j5 k xs (B (p ++ 36 :: 123 :: (u ++ 125 :: w))) (B out) long ((p.length + 1 + (u.length + 1) + 1 : Nat) : Int) t112)) else (some ((⟨#[]⟩ : ByteArray), 10)))) := by
                    intro k
                    rw [bellowsref10_Expand.j3, size_B, if_neg (by simp; omega), hw2.out, if_pos (by omega), if_pos (by omega), if_pos (by simp; omega), Int.toNat_natCast, Int.toNat_natCast, extract_B, e1, hw3.out]
                  refine Ev.unroll (Ev.congr j3 ?_)
                  refine Ev.bind (ref_name u (by simp at hp'; omega)) ?_
                  rw [Bool.true_and]
                  cases hnu : nameL u with
                  | false => simp only [Bool.false_eq_true, if_false, if_true]; exact Ev.now _
                  | true =>
                    simp only [if_true, Bool.true_eq_false, if_false]
                    refine Ev.bind (hg u) ?_
                    have hn := next (p ++ 36 :: 123 :: (u ++ [125])) w (getL L u) (by simp) (by simp at hr; omega) (hT _) (by simp)
                    have hq : (p ++ 36 :: 123 :: (u ++ [125])).length = p.length + 1 + (u.length + 1) + 1 := by simp; omega
                    rw [hq] at hn
                    exact hn
            · have hbr' : ¬ (d.toNat : Int) = 123 := b123 hbr
              have hd : dollarL L (d :: t) = (getL L ((d :: t).takeWhile shortB), (d :: t).dropWhile shortB, decide ((d :: t).takeWhile shortB ≠ [])) := by rw [dollarL, if_neg he, if_neg hbr]
              rw [E_dollar (d :: t) out long hd]
              by_cases hs : shortB d = true
              · have hs' : shortR d.toNat = true := hs
                have hne : decide ((d :: t).takeWhile shortB ≠ []) = true := by rw [List.takeWhile_cons, if_pos hs]; simp
                rw [hne, if_neg (by simp)]
                have hl2 := refL2 (L := L) (xs := xs) out (p ++ [36]) long (out2 (if long = true ∨ 16384 < out.length + (getL L ((d :: t).takeWhile shortB)).length then E L ((d :: t).dropWhile shortB) out true else E L ((d :: t).dropWhile shortB) (out ++ getL L ((d :: t).takeWhile shortB)) false)) hg (d :: t) [] (by rw [List.append_nil, List.append_assoc]; exact hlt')
                rw [List.append_nil, List.append_assoc, List.singleton_append, List.nil_append, List.length_append, List.length_singleton, List.length_nil, Nat.add_zero] at hl2
                refine Ev.unroll (Ev.congr (fun k => ?_) (hl2 ?_))
                · rw [bellowsref10_Expand.j1, he', if_neg (by simp), if_neg hbr', ref_short, hs']
                  simp only [Option.bind_some, if_true]
                · have hlen : ((d :: t).takeWhile shortB).length + ((d :: t).dropWhile shortB).length = t.length + 1 := by
                    rw [← List.length_append, List.takeWhile_append_dropWhile]; rfl
                  have hpos : 0 < ((d :: t).takeWhile shortB).length := by rw [List.takeWhile_cons, if_pos hs]; simp
                  have hn := next (p ++ 36 :: (d :: t).takeWhile shortB) ((d :: t).dropWhile shortB) (getL L ((d :: t).takeWhile shortB)) (by rw [List.append_assoc, List.cons_append, List.takeWhile_append_dropWhile]) (by simp at hr; omega) (hT _) (by simp)
                  have hq : (p ++ 36 :: (d :: t).takeWhile shortB).length = p.length + 1 + ((d :: t).takeWhile shortB).length := by rw [List.length_append, List.length_cons]; omega
                  rw [hq] at hn
                  exact hn
              · have hs' : shortR d.toNat = false := by simpa [shortB] using hs
                have hne : decide ((d :: t).takeWhile shortB ≠ []) = false := by rw [List.takeWhile_cons, if_neg hs]; simp
                rw [hne, if_pos rfl]
                refine Ev.unroll (Ev.some fun k => ?_)
                rw [bellowsref10_Expand.j1, he', if_neg (by simp), if_neg hbr', ref_short, hs']
                simp only [Option.bind_some, Bool.false_eq_true, if_false]
                rfl
      · have hne : ¬ (c.toNat : Int) = 36 := b36 hc
        have h' := ih t (p ++ [c]) (out ++ [c]) long (by omega) (by simpa using hp) (by simp; omega)
        rw [List.append_assoc, List.singleton_append, List.length_append, List.length_singleton] at h'
        rw [E_char hc]
        refine Ev.unroll (Ev.congr (fun k => ?_) h')
        have e1 : ((p ++ c :: t).take (p.length + 1)).drop p.length = [c] := by
          rw [List.take_length_add_append]; simp
        rw [bellowsref10_Expand.l0, size_B, if_pos (by simp; omega), if_pos (by omega), hb, if_neg hne, hw.out, if_pos (by omega), if_pos (by simp; omega), Int.toNat_natCast, Int.toNat_natCast, extract_B, e1, size_B, size_B, if_pos (by simp; omega), B_append]
theorem ref_expand (hg : ∀ nm, Ev (fun k => bellowsref10_Get.f k xs (B nm)) (B (getL L nm))) (hT : ∀ k, (getL L k).length ≤ 5000) (text : Txt) (ht : text.length ≤ 1000000) :
    Ev (fun k => bellowsref10_Expand.f k xs (B text)) (B (expandL L text).1, (expandL L text).2) := by
  have h := ref_expand_go hg hT text.length text [] [] false (Nat.le_refl _) (by simpa using ht) (by simp)
  rw [expandL_E]
  exact h
end
end Go.Proofs.Ytlpjhpdgjeiioaa.Sc
