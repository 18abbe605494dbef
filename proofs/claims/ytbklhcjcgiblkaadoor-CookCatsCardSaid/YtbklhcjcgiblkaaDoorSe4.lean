/- Laid together by wip/tools/shake.py from texts of this claim: CkCats, CardCookCats. -/
import Derived.Test.YtbklhcjcgiblkaaDoorSe3
import Derived.Test.YtbklhcjcgiblkaaDoorRows
import Derived.WalkKit
import Derived.ProofKit
import Derived.OpenShut
import Derived.ShutString
import Derived.ChangeOld
import Derived.Below
import Derived.SizedLaws
import Derived.Carry
import Derived.LaidMore
import Derived.Lay
import Derived.SevenTiedAt
import Derived.Stop.Joined
import Derived.Test.YtbklhcjcgiblkaaDoorTie
import Derived.Test.YtbklhcjcgiblkaaDoorCards
section
set_option linter.unusedSimpArgs false
set_option linter.unusedVariables false
namespace Go.Proofs.YtbklhcjcgiblkaaDoor.Ck
open Go.RowKit Go.Lib Go.Shelf Go.Maps Go.Proofs.YtbklhcjcgiblkaaDoorW.PrintWords Go.Proofs.YtbklhcjcgiblkaaDoorW.PrintLast Go.Proofs.YtbklhcjcgiblkaaDoorW.PrintMore Go.Proofs.YtbklhcjcgiblkaaDoor.U Go.Proofs.YtbklhcjcgiblkaaDoor.P Go.Proofs.YtbklhcjcgiblkaaDoor.PTh Go.Proofs.YtbklhcjcgiblkaaDoor.MapV
def cvE (x y : Txt) : Env := ⟨[[97], [98]], [⟨[97], x⟩, ⟨[98], y⟩]⟩
theorem find_a (x y : Txt) : findL [⟨[97], x⟩, ⟨[98], y⟩] [97] = some x := rfl
theorem find_b (x y : Txt) : findL [⟨[97], x⟩, ⟨[98], y⟩] [98] = some y := rfl
theorem arg_a (x y : Txt) : argE (cvE x y) [97] = some x := by unfold argE cvE; simp only [find_a]; rfl
theorem arg_b (x y : Txt) : argE (cvE x y) [98] = some y := by unfold argE cvE; simp only [find_b]; rfl
theorem cats_1 (x y : Txt) (hx : x.length ≤ 200) (hy : y.length ≤ 200) : cookE [99, 97, 116, 32, 97, 32, 98, 32, 97, 32, 62, 32, 111] (cvE x y) = some ⟨[⟨[111], x ++ y ++ x⟩], false, [], []⟩ := by
  have hs : shapeE [99, 97, 116, 32, 97, 32, 98, 32, 97, 32, 62, 32, 111] = some ⟨kCat, [[97], [98], [97]], false, [[111]], []⟩ := by kernel_rfl
  have hd : doE (cvE x y) kCat [[97], [98], [97]] = some (x ++ y ++ x, []) := by
    unfold doE
    rw [if_pos rfl]
    simp only [allE, arg_a, arg_b, List.nil_append]
    rw [if_pos (by omega), if_pos (by rw [List.length_append]; omega), if_pos (by simp only [List.length_append]; omega)]
    rfl
  unfold cookE
  simp only [hs, hd]
  rw [if_pos (by simp only [List.length_append]; omega)]
  rfl
theorem cats_2 (x y : Txt) (hx : x.length ≤ 200) : cookE [114, 101, 118, 32, 97, 32, 62, 32, 111] (cvE x y) = some ⟨[⟨[111], x.reverse⟩], false, [], []⟩ := by
  have hs : shapeE [114, 101, 118, 32, 97, 32, 62, 32, 111] = some ⟨kRev, [[97]], false, [[111]], []⟩ := by kernel_rfl
  have hd : doE (cvE x y) kRev [[97]] = some (x.reverse, []) := by
    unfold doE
    rw [if_neg (by decide), if_pos rfl]
    simp only [oneE, arg_a]
    rfl
  unfold cookE
  simp only [hs, hd]
  rw [if_pos (by rw [List.length_reverse]; omega)]
  rfl
theorem cats_3 (x : Txt) (hx : x.length ≤ 200) : cookE [114, 101, 118, 32, 111, 32, 62, 32, 112] ⟨[[111]], [⟨[111], x.reverse⟩]⟩ = some ⟨[⟨[112], x⟩], false, [], []⟩ := by
  have hs : shapeE [114, 101, 118, 32, 111, 32, 62, 32, 112] = some ⟨kRev, [[111]], false, [[112]], []⟩ := by kernel_rfl
  have hf : findL [⟨[111], x.reverse⟩] [111] = some x.reverse := rfl
  have hd : doE ⟨[[111]], [⟨[111], x.reverse⟩]⟩ kRev [[111]] = some (x, []) := by
    unfold doE
    rw [if_neg (by decide), if_pos rfl]
    simp only [oneE, argE, hf, List.mem_singleton, if_true, Option.map_some, List.reverse_reverse]
  unfold cookE
  simp only [hs, hd]
  rw [if_pos (by omega)]
  rfl
def sumT (x : Txt) : Txt := hexL 16 (hashL x) ++ [10]
theorem hexL_len : ∀ k n, (hexL k n).length = k
  | 0, n => rfl
  | k + 1, n => by rw [hexL, List.length_append, hexL_len k, List.length_singleton]
theorem sumT_len (x : Txt) : (sumT x).length = 17 := by rw [sumT, List.length_append, hexL_len]; rfl
theorem cats_4 (x y : Txt) : cookE [115, 117, 109, 32, 97, 32, 62, 32, 111] (cvE x y) = some ⟨[⟨[111], sumT x⟩], false, [], []⟩ := by
  have hs : shapeE [115, 117, 109, 32, 97, 32, 62, 32, 111] = some ⟨kSum, [[97]], false, [[111]], []⟩ := by kernel_rfl
  have hd : doE (cvE x y) kSum [[97]] = some (sumT x, []) := by
    unfold doE
    rw [if_neg (by decide), if_neg (by decide), if_pos rfl]
    simp only [sumE, gatherE, arg_a, List.nil_append]
    rfl
  unfold cookE
  simp only [hs, hd]
  rw [if_pos (by rw [sumT_len]; omega)]
  rfl
theorem cats_5 (x y : Txt) : cookE [115, 117, 109, 32, 98, 32, 62, 32, 111] (cvE x y) = some ⟨[⟨[111], sumT y⟩], false, [], []⟩ := by
  have hs : shapeE [115, 117, 109, 32, 98, 32, 62, 32, 111] = some ⟨kSum, [[98]], false, [[111]], []⟩ := by kernel_rfl
  have hd : doE (cvE x y) kSum [[98]] = some (sumT y, []) := by
    unfold doE
    rw [if_neg (by decide), if_neg (by decide), if_pos rfl]
    simp only [sumE, gatherE, arg_b, List.nil_append]
    rfl
  unfold cookE
  simp only [hs, hd]
  rw [if_pos (by rw [sumT_len]; omega)]
  rfl
theorem cats_6 : cookE [112, 117, 116, 32, 97, 32, 32, 98, 32, 62, 32, 111] ⟨[[97], [98]], []⟩ = some ⟨[⟨[111], [97, 32, 98, 10]⟩], false, [], []⟩ := by kernel_rfl
theorem DishAt.firstC {w : World} {base db : Nat} {A : Option Addr} {n c : Nat} {names : List Txt} {b : Txt} {once : Bool} {dep deps : Txt} (h : DishAt w base db A n c names b once dep deps) (hi : 0 < n) : ∃ ad Ai ci, A = some ad ∧
    w.cell? ⟨ad.block, ad.off + 1, none⟩ = some (.slice Ai b.length ci) ∧ (Kd.int .u8).C w Ai b.length (ints b) := by
  obtain ⟨ad, Ai, ci, rfl, h1, _, h2, _⟩ := h.at_ 0 hi
  have e0 : ad.add (0 * 2) = ad := by simp [Addr.add]
  rw [e0] at h1
  exact ⟨ad, Ai, ci, rfl, h1, h2⟩
theorem cook_one (cm nm r : Txt) (v : Env) (hcm : cm.length ≤ 10000) (hc : cookE cm v = some ⟨[⟨nm, r⟩], false, [], []⟩) (nd nf cd cf : Nat) (Ad Af : Option Addr) (w : World) (hG : Given w v Ad Af cd cf) (ht : Tab w) (h1 : v.decl.length = nd) (h2 : v.fs.length = nf) (s : ByteArray) (hs : s = B cm) :
    Calls Tryd.prog 12 #[.string s, .slice Ad nd cd, .slice Af nf cf] w fun e w' => ∃ Ao co, e = .returned (.tuple #[.agg #[.slice Ao 1 co, .bool false, .string (B []), .string (B [])], .int .i64 0]) ∧ Below w.heap.size w w' ∧
      DishAt (w'.alloc (.cells #[.slice Ao 1 co, .bool false, .string (B []), .string (B [])] 34)) w.heap.size w'.heap.size Ao 1 co [nm] r false [] [] := by
  have h := Cook_at cm hcm v nd nf cd cf Ad Af w hG ht h1 h2 s hs
  rw [hc] at h
  refine h.mono ?_
  rintro e w' ⟨hb, vo, names, b, hd, rfl, ho⟩
  injection hd with hd _ _ _
  obtain ⟨rfl, rfl⟩ := names1 hd
  obtain ⟨Ao, co, rfl⟩ := ho.form
  exact ⟨Ao, co, rfl, hb, heap_alloc_new _ _, ho.move (fun k _ h2 => ((Below.refl w'.heap.size w').alloc (Nat.le_refl _) _).block k h2), rfl⟩
set_option maxRecDepth 100000 in
set_option maxHeartbeats 16000000 in
theorem cats_walk (ax : Option Addr) (lx cx : Nat) (x : Txt) (ay : Option Addr) (ly cy : Nat) (y : Txt) (W : World) (ht : Tab W) (hx : BytesIn W ax lx cx x) (hy : BytesIn W ay ly cy y) :
    Calls Tryd.prog 6 #[.slice ax lx cx, .slice ay ly cy] W fun e w' => e = .returned (.bool true) ∧ Below W.heap.size W w' := by
  obtain ⟨hlx, hcx, hCx⟩ := hx
  obtain ⟨hly, hcy, hCy⟩ := hy
  have hlxH := Lib.hid hlx
  have hlyH := Lib.hid hly
  have hCxH := Lib.hid hCx
  have hCyH := Lib.hid hCy
  have htH := Lib.hid ht
  clear hCx hCy ht
  by_cases h1 : lx ≤ 200
  case neg =>
    have hd : decide ((lx : Int) > 200) = true := by rw [decide_eq_true_iff]; omega
    go_enter Tryd.func6, Tryd.ntmps6
    go_wp2_with fail
    go_ret
    exact ⟨rfl, Below.refl _ _⟩
  have hd1 : decide ((lx : Int) > 200) = false := by rw [decide_eq_false_iff_not]; omega
  by_cases h2 : ly ≤ 200
  case neg =>
    have hd : decide ((ly : Int) > 200) = true := by rw [decide_eq_true_iff]; omega
    go_enter Tryd.func6, Tryd.ntmps6
    go_wp2_with fail
    go_ret
    exact ⟨rfl, Below.refl _ _⟩
  have hd2 : decide ((ly : Int) > 200) = false := by rw [decide_eq_false_iff_not]; omega
  have hx200 : Hid (x.length ≤ 200) := by show _ ≤ _; omega
  have hy200 : Hid (y.length ≤ 200) := by show _ ≤ _; omega
  obtain ⟨W1, hW1⟩ : ∃ W1, allocs W [.cells #[.string (B [97]), .slice ax lx cx, .string (B [98]), .slice ay ly cy] 39, .cells #[.string (B [97]), .string (B [98])] 9] = W1 := ⟨_, rfl⟩
  have hb1 : Below W.heap.size W W1 := by rw [← hW1]; exact allocs_below _ W _ (Nat.le_refl _)
  have hg0 : W1.heap[W.heap.size]? = some (.cells #[.string (B [97]), .slice ax lx cx, .string (B [98]), .slice ay ly cy] 39 (0, 0)) := by rw [← hW1]; exact allocs_at _ W 0 _ rfl
  have hg1 : W1.heap[W.heap.size + 1]? = some (.cells #[.string (B [97]), .string (B [98])] 9 (0, 0)) := by rw [← hW1]; exact allocs_at _ W 1 _ rfl
  simp only [allocs] at hW1
  have hG : Given W1 (cvE x y) (some ⟨W.heap.size + 1, 0, none⟩) (some ⟨W.heap.size, 0, none⟩) 2 2 :=
    ⟨words_at (ws := [[97], [98]]) hg1 (by decide), files2_at (n1 := [97]) (b1 := x) (n2 := [98]) (b2 := y) (by rw [hlx, hly]; exact hg0) (by rw [hlx]; exact hcx) (by rw [hlx]; have := Kd.C_below hCxH.out hb1; rw [hlx] at this; exact this) (by rw [hly]; exact hcy) (by rw [hly]; have := Kd.C_below hCyH.out hb1; rw [hly] at this; exact this),
      by simp [cvE], by simp [cvE], fun f hf => by
        have h1 := hx200.out; have h2 := hy200.out
        have : f = ⟨[97], x⟩ ∨ f = ⟨[98], y⟩ := by simpa [cvE] using hf
        rcases this with rfl | rfl
        · exact Nat.le_trans h1 (by decide)
        · exact Nat.le_trans h2 (by decide)⟩
  have hB1 := Lib.hid hb1
  have hGH := Lib.hid hG
  have hCk : Hid (∀ (cm : Txt) (st : ByteArray) (nm r : Txt), st = B cm → cm.length ≤ 10000 → cookE cm (cvE x y) = some ⟨[⟨nm, r⟩], false, [], []⟩ → ∀ w, Below W1.heap.size W1 w → Calls Tryd.prog 12 #[.string st, .slice (some ⟨W.heap.size + 1, 0, none⟩) 2 2, .slice (some ⟨W.heap.size, 0, none⟩) 2 2] w fun e w' => ∃ Ao co, e = .returned (.tuple #[.agg #[.slice Ao 1 co, .bool false, .string (B []), .string (B [])], .int .i64 0]) ∧ Below w.heap.size w w' ∧
      DishAt (w'.alloc (.cells #[.slice Ao 1 co, .bool false, .string (B []), .string (B [])] 34)) w.heap.size w'.heap.size Ao 1 co [nm] r false [] []) := fun cm st nm r hst hcm hc w hb =>
    cook_one cm nm r (cvE x y) hcm hc 2 2 2 2 _ _ w (hGH.out.below hb) (htH.out.below (hB1.out.trans (hb.mono hB1.out.size))) rfl rfl st hst
  have hAw : Hid (∀ w, Below W.heap.size W w → Calls Tryd.prog 11 #[] w fun e w' => e = .returned (.bool true) ∧ Below w.heap.size w w') := fun w hb => awake_any w (htH.out.below hb)
  have hArgs : Hid (∀ w, Below W.heap.size W w → (convert 24 9 (.slice ax lx cx)).run Tryd.prog w = .ok (.string (B x)) w ∧ (convert 24 9 (.slice ay ly cy)).run Tryd.prog w = .ok (.string (B y)) w) := fun w hb => by
    have e1 := conv_txt (c := cx) (Kd.C_below hCxH.out hb)
    have e2 := conv_txt (c := cy) (Kd.C_below hCyH.out hb)
    rw [hlx] at e1
    rw [hly] at e2
    exact ⟨e1, e2⟩
  clear hb1 hg0 hg1 hG
  go_enter Tryd.func6, Tryd.ntmps6
  go_wp2_with fail
  refine (hCk.out [99, 97, 116, 32, 97, 32, 98, 32, 97, 32, 62, 32, 111] _ [111] (x ++ y ++ x) rfl (by decide) (cats_1 x y hx200.out hy200.out) _ (Below.refl _ _)).mono ?_
  rintro e w1 ⟨Ao1, co1, rfl, hb, hd⟩
  have hbv : Below w1.heap.size w1 (w1.alloc (.cells #[.slice Ao1 1 co1, .bool false, .string (B []), .string (B [])] 34)) := (Below.refl _ _).alloc (Nat.le_refl _) _
  have hst := hb.trans (hbv.mono hb.size)
  have hBc1 := Lib.hid ((Below.refl W1.heap.size W1).trans (hst.mono (Below.refl W1.heap.size W1).size))
  have hD1 := Lib.hid hd
  clear hb hd hbv hst
  go_wp2_with fail
  generalize w1.alloc (.cells #[.slice Ao1 1 co1, .bool false, .string (B []), .string (B [])] 34) = V1 at *
  generalize w1.heap.size = d1 at *
  refine (hCk.out [114, 101, 118, 32, 97, 32, 62, 32, 111] _ [111] x.reverse rfl (by decide) (cats_2 x y hx200.out) _ hBc1.out).mono ?_
  rintro e w2 ⟨Ao2, co2, rfl, hb, hd⟩
  have hbv : Below w2.heap.size w2 (w2.alloc (.cells #[.slice Ao2 1 co2, .bool false, .string (B []), .string (B [])] 34)) := (Below.refl _ _).alloc (Nat.le_refl _) _
  have hst := hb.trans (hbv.mono hb.size)
  have hBc2 := Lib.hid (hBc1.out.trans (hst.mono hBc1.out.size))
  have hD2 := Lib.hid hd
  have hD1b := Lib.hid (hD1.out.below hst)
  clear hb hd hbv hst
  go_wp2_with fail
  generalize w2.alloc (.cells #[.slice Ao2 1 co2, .bool false, .string (B []), .string (B [])] 34) = V2 at *
  generalize w2.heap.size = d2 at *
  have hBw := Lib.hid (hB1.out.trans (hBc2.out.mono hB1.out.size))
  obtain ⟨lq, hlq⟩ : ∃ n, (x ++ y ++ x).length = n := ⟨_, rfl⟩
  obtain ⟨ad, A1, c1, rfl, p1, p2⟩ := (hD1b.out.below ((Below.refl V2.heap.size V2).drew)).first (by decide)
  rw [hlq] at p1 p2
  obtain ⟨u1, u2⟩ := hArgs.out _ hBw.out.drew
  have hS7 : Hid ((fun w' => w'.cell? ⟨d1, 0, none⟩ = some (.slice (some ad) 1 co1) ∧ w'.cell? ⟨d2, 0, none⟩ = some (.slice Ao2 1 co2) ∧ w'.cell? ⟨ad.block, ad.off + 1, none⟩ = some (.slice A1 lq c1) ∧ (convert 24 9 (.slice A1 lq c1)).run Tryd.prog w' = .ok (.string (B (x ++ y ++ x))) w' ∧ (convert 24 9 (.slice ax lx cx)).run Tryd.prog w' = .ok (.string (B x)) w' ∧ (convert 24 9 (.slice ay ly cy)).run Tryd.prog w' = .ok (.string (B y)) w') V2.drew) := ⟨(cell_of_heap (j := 0) hD1b.out.h).trans rfl, (cell_of_heap (j := 0) hD2.out.h).trans rfl, p1, p2, u1, u2⟩
  have hlx2 : Hid (lx ≤ 200) := h1
  have hsz1 : (9223372036854775807 < lx + ly) = False := by simp; omega
  have hsz2 : (9223372036854775807 < lx + ly + lx) = False := by simp; omega
  have hcat : B x ++ B y ++ B x = B (x ++ y ++ x) := by rw [B_append, B_append]
  clear p1 p2 u1 u2 hlq
  go_wp2_with fail
  refine RegP.regionH (fun w' => w'.cell? ⟨d1, 0, none⟩ = some (.slice (some ad) 1 co1) ∧ w'.cell? ⟨d2, 0, none⟩ = some (.slice Ao2 1 co2) ∧ w'.cell? ⟨ad.block, ad.off + 1, none⟩ = some (.slice A1 lq c1) ∧ (convert 24 9 (.slice A1 lq c1)).run Tryd.prog w' = .ok (.string (B (x ++ y ++ x))) w' ∧ (convert 24 9 (.slice ax lx cx)).run Tryd.prog w' = .ok (.string (B x)) w' ∧ (convert 24 9 (.slice ay ly cy)).run Tryd.prog w' = .ok (.string (B y)) w') [(0, 0), (0, 1), (0, 2), (0, 3), (0, 4), (0, 5), (0, 6), (0, 7), (1, 8), (0, 9), (0, 10), (0, 11), (0, 12), (0, 13), (1, 14), (0, 15), (0, 16), (0, 17), (0, 18), (0, 19), (1, 20), (0, 21), (0, 22), (1, 23), (1, 24), (0, 25), (1, 26), (0, 27), (1, 28), (0, 29), (0, 30), (1, 31), (0, 32), (0, 33), (0, 34)] (by kernel_rfl) (by kernel_rfl) (by rfl) (by kernel_rfl) (by exact hS7.out) ?_
  refine RegP.pure1 (by (simp only [gA,gB,gC]); rfl) (by exact fun _ _ _ h => h) (by rfl) (by intro w'; go_simp; try with_reducible rfl) ?_
  try simp only [Act.put, pA,pB,pC]
  refine RegP.pure1 (by (simp only [gA,gB,gC]); rfl) (by exact fun _ _ _ h => h) (by rfl) (by intro w'; go_simp; try with_reducible rfl) ?_
  try simp only [Act.put, pA,pB,pC]
  refine RegP.pure1 (by (simp only [gA,gB,gC]); rfl) (by exact fun _ _ _ h => h) (by rfl) (by intro w'; go_simp; try with_reducible rfl) ?_
  try simp only [Act.put, pA,pB,pC]
  refine RegP.pure1 (by (simp only [gA,gB,gC]); rfl) (by exact fun _ _ _ h => h) (by rfl) (by intro w'; go_simp; try with_reducible rfl) ?_
  try simp only [Act.put, pA,pB,pC]
  refine RegP.pure1 (by (simp only [gA,gB,gC]); rfl) (by exact fun _ _ _ h => h) (by rfl) (by intro w'; go_simp; try with_reducible rfl) ?_
  try simp only [Act.put, pA,pB,pC]
  refine RegP.pure1 (by (simp only [gA,gB,gC]); rfl) (by exact fun _ _ _ h => h) (by rfl) (by intro w'; go_simp; try with_reducible rfl) ?_
  try simp only [Act.put, pA,pB,pC]
  refine RegP.pure1 (by (simp only [gA,gB,gC]); rfl) (by exact fun _ _ _ h => h) (by rfl) (by intro w'; go_simp; try with_reducible rfl) ?_
  try simp only [Act.put, pA,pB,pC]
  refine RegP.pure1 (by (simp only [gA,gB,gC]); rfl) (by exact fun _ _ _ h => h) (by rfl) (by intro w'; go_simp; try with_reducible rfl) ?_
  try simp only [Act.put, pA,pB,pC]
  refine RegP.held1 (by (simp only [gA,gB,gC]); rfl) (by exact fun _ _ _ h => h) (by rfl) (by intro w' hS_; (try dsimp only at hS_); go_split_ands; go_simp; try with_reducible rfl) ?_
  try simp only [Act.put, pA,pB,pC]
  refine RegP.pure1 (by (simp only [gA,gB,gC]); rfl) (by exact fun _ _ _ h => h) (by rfl) (by intro w'; go_simp; try with_reducible rfl) ?_
  try simp only [Act.put, pA,pB,pC]
  refine RegP.pure1 (by (simp only [gA,gB,gC]); rfl) (by exact fun _ _ _ h => h) (by rfl) (by intro w'; go_simp; try with_reducible rfl) ?_
  try simp only [Act.put, pA,pB,pC]
  refine RegP.pure1 (by (simp only [gA,gB,gC]); rfl) (by exact fun _ _ _ h => h) (by rfl) (by intro w'; go_simp; try with_reducible rfl) ?_
  try simp only [Act.put, pA,pB,pC]
  refine RegP.pure1 (by (simp only [gA,gB,gC]); rfl) (by exact fun _ _ _ h => h) (by rfl) (by intro w'; go_simp; try with_reducible rfl) ?_
  try simp only [Act.put, pA,pB,pC]
  refine RegP.pure1 (by (simp only [gA,gB,gC]); rfl) (by exact fun _ _ _ h => h) (by rfl) (by intro w'; go_simp; try with_reducible rfl) ?_
  try simp only [Act.put, pA,pB,pC]
  refine RegP.held1 (by (simp only [gA,gB,gC]); rfl) (by exact fun _ _ _ h => h) (by rfl) (by intro w' hS_; (try dsimp only at hS_); go_split_ands; go_simp; try with_reducible rfl) ?_
  try simp only [Act.put, pA,pB,pC]
  refine RegP.pure1 (by (simp only [gA,gB,gC]); rfl) (by exact fun _ _ _ h => h) (by rfl) (by intro w'; go_simp; try with_reducible rfl) ?_
  try simp only [Act.put, pA,pB,pC]
  refine RegP.pure1 (by (simp only [gA,gB,gC]); rfl) (by exact fun _ _ _ h => h) (by rfl) (by intro w'; go_simp; try with_reducible rfl) ?_
  try simp only [Act.put, pA,pB,pC]
  refine RegP.pure1 (by (simp only [gA,gB,gC]); rfl) (by exact fun _ _ _ h => h) (by rfl) (by intro w'; go_simp; try with_reducible rfl) ?_
  try simp only [Act.put, pA,pB,pC]
  refine RegP.pure1 (by (simp only [gA,gB,gC]); rfl) (by exact fun _ _ _ h => h) (by rfl) (by intro w'; go_simp; try with_reducible rfl) ?_
  try simp only [Act.put, pA,pB,pC]
  refine RegP.pure1 (by (simp only [gA,gB,gC]); rfl) (by exact fun _ _ _ h => h) (by rfl) (by intro w'; go_simp; try with_reducible rfl) ?_
  try simp only [Act.put, pA,pB,pC]
  refine RegP.held1 (by (simp only [gA,gB,gC]); rfl) (by exact fun _ _ _ h => h) (by rfl) (by intro w' hS_; (try dsimp only at hS_); go_split_ands; go_simp; try with_reducible rfl) ?_
  try simp only [Act.put, pA,pB,pC]
  refine RegP.pure1 (by (simp only [gA,gB,gC]); rfl) (by exact fun _ _ _ h => h) (by rfl) (by intro w'; go_simp; try with_reducible rfl) ?_
  try simp only [Act.put, pA,pB,pC]
  refine RegP.pure1 (by (simp only [gA,gB,gC]); rfl) (by exact fun _ _ _ h => h) (by rfl) (by intro w'; go_simp; try with_reducible rfl) ?_
  try simp only [Act.put, pA,pB,pC]
  refine RegP.held1 (by (simp only [gA,gB,gC]); rfl) (by exact fun _ _ _ h => h) (by rfl) (by intro w' hS_; (try dsimp only at hS_); go_split_ands; go_simp; try with_reducible rfl) ?_
  try simp only [Act.put, pA,pB,pC]
  refine RegP.held1 (by (simp only [gA,gB,gC]); rfl) (by exact fun _ _ _ h => h) (by rfl) (by intro w' hS_; (try dsimp only at hS_); go_split_ands; go_simp; try with_reducible rfl) ?_
  try simp only [Act.put, pA,pB,pC]
  refine RegP.pure1 (by (simp only [gA,gB,gC]); rfl) (by exact fun _ _ _ h => h) (by rfl) (by intro w'; go_simp; try with_reducible rfl) ?_
  try simp only [Act.put, pA,pB,pC]
  refine RegP.held1 (by (simp only [gA,gB,gC]); rfl) (by exact fun _ _ _ h => h) (by rfl) (by intro w' hS_; (try dsimp only at hS_); go_split_ands; go_simp; try with_reducible rfl) ?_
  try simp only [Act.put, pA,pB,pC]
  refine RegP.pure1 (by (simp only [gA,gB,gC]); rfl) (by exact fun _ _ _ h => h) (by rfl) (by intro w'; go_simp; try with_reducible rfl) ?_
  try simp only [Act.put, pA,pB,pC]
  refine RegP.held1 (by (simp only [gA,gB,gC]); rfl) (by exact fun _ _ _ h => h) (by rfl) (by intro w' hS_; (try dsimp only at hS_); go_split_ands; go_simp; try with_reducible rfl) ?_
  try simp only [Act.put, pA,pB,pC]
  refine RegP.pure1 (by (simp only [gA,gB,gC]); rfl) (by exact fun _ _ _ h => h) (by rfl) (by intro w'; go_simp; try with_reducible rfl) ?_
  try simp only [Act.put, pA,pB,pC]
  refine RegP.pure1 (by (simp only [gA,gB,gC]); rfl) (by exact fun _ _ _ h => h) (by rfl) (by intro w'; go_simp; try with_reducible rfl) ?_
  try simp only [Act.put, pA,pB,pC]
  refine RegP.held1 (by (simp only [gA,gB,gC]); rfl) (by exact fun _ _ _ h => h) (by rfl) (by intro w' hS_; (try dsimp only at hS_); go_split_ands; go_simp; try with_reducible rfl) ?_
  try simp only [Act.put, pA,pB,pC]
  refine RegP.pure1 (by (simp only [gA,gB,gC]); rfl) (by exact fun _ _ _ h => h) (by rfl) (by intro w'; go_simp; try with_reducible rfl) ?_
  try simp only [Act.put, pA,pB,pC]
  refine RegP.pure1 (by (simp only [gA,gB,gC]); rfl) (by exact fun _ _ _ h => h) (by rfl) (by intro w'; go_simp; try with_reducible rfl) ?_
  try simp only [Act.put, pA,pB,pC]
  refine RegP.pure1 (by (simp only [gA,gB,gC]); rfl) (by exact fun _ _ _ h => h) (by rfl) (by intro w'; go_simp; try with_reducible rfl) ?_
  try simp only [Act.put, pA,pB,pC]
  refine RegP.done1 ?_
  try dsimp only
  have hBc := Lib.hid hBc2.out.drew
  have hD2b := Lib.hid (hD2.out.below ((Below.refl V2.heap.size V2).drew))
  clear hS7 hD1b hD2 hBc2 hBw hsz1 hsz2 hcat
  generalize V2.drew = V at *
  have hUV : Below V.heap.size V (V.alloc (.cells #[.string (B [111])] 9)) := (Below.refl _ _).alloc (Nat.le_refl _) _
  have hBu := Lib.hid (hBc.out.trans (hUV.mono hBc.out.size))
  have hD2u := hD2b.out.below hUV
  have k0 := (cell_of_heap (j := 0) hD2u.h).trans rfl
  have hG3 : Given (V.alloc (.cells #[.string (B [111])] 9)) ⟨[[111]], [⟨[111], x.reverse⟩]⟩ (some ⟨V.heap.size, 0, none⟩) Ao2 1 co2 := by
    obtain ⟨A', c', he, hl', hC'⟩ := hD2u.o.C
    injection he with he _ he2
    subst he he2
    exact ⟨words_at (ws := [[111]]) (heap_alloc_new _ _) (by decide), hC', by simp, by simp, fun f hf => by
      obtain rfl : f = ⟨[111], x.reverse⟩ := by simpa using hf
      have := hx200.out
      show x.reverse.length ≤ _
      rw [List.length_reverse]; omega⟩
  have hC3 := Lib.hid (cook_one [114, 101, 118, 32, 111, 32, 62, 32, 112] [112] x _ (by decide) (cats_3 x hx200.out) 1 1 1 co2 _ _ _ hG3 (htH.out.below (hB1.out.trans (hBu.out.mono hB1.out.size))) rfl rfl _ rfl)
  clear hUV hD2u hG3 hD2b
  go_wp2_with fail
  refine (hC3.out).mono ?_
  rintro e w3 ⟨Ao3, co3, rfl, hb, hd⟩
  have hbv : Below w3.heap.size w3 (w3.alloc (.cells #[.slice Ao3 1 co3, .bool false, .string (B []), .string (B [])] 34)) := (Below.refl _ _).alloc (Nat.le_refl _) _
  have hst := hb.trans (hbv.mono hb.size)
  have hBc3 := Lib.hid (hBu.out.trans (hst.mono hBu.out.size))
  have hD3 := Lib.hid hd
  clear hb hd hbv hst
  go_wp2_with fail
  generalize w3.alloc (.cells #[.slice Ao3 1 co3, .bool false, .string (B []), .string (B [])] 34) = V3 at *
  generalize w3.heap.size = d3 at *
  refine (hCk.out [115, 117, 109, 32, 97, 32, 62, 32, 111] _ [111] (sumT x) rfl (by decide) (cats_4 x y) _ hBc3.out).mono ?_
  rintro e w4 ⟨Ao4, co4, rfl, hb, hd⟩
  have hbv : Below w4.heap.size w4 (w4.alloc (.cells #[.slice Ao4 1 co4, .bool false, .string (B []), .string (B [])] 34)) := (Below.refl _ _).alloc (Nat.le_refl _) _
  have hst := hb.trans (hbv.mono hb.size)
  have hBc4 := Lib.hid (hBc3.out.trans (hst.mono hBc3.out.size))
  have hD4 := Lib.hid hd
  have hD3b := Lib.hid (hD3.out.below hst)
  clear hb hd hbv hst
  go_wp2_with fail
  generalize w4.alloc (.cells #[.slice Ao4 1 co4, .bool false, .string (B []), .string (B [])] 34) = V4 at *
  generalize w4.heap.size = d4 at *
  refine (hCk.out [115, 117, 109, 32, 98, 32, 62, 32, 111] _ [111] (sumT y) rfl (by decide) (cats_5 x y) _ hBc4.out).mono ?_
  rintro e w5 ⟨Ao5, co5, rfl, hb, hd⟩
  have hbv : Below w5.heap.size w5 (w5.alloc (.cells #[.slice Ao5 1 co5, .bool false, .string (B []), .string (B [])] 34)) := (Below.refl _ _).alloc (Nat.le_refl _) _
  have hst := hb.trans (hbv.mono hb.size)
  have hBc5 := Lib.hid (hBc4.out.trans (hst.mono hBc4.out.size))
  have hD5 := Lib.hid hd
  have hD3c := Lib.hid (hD3b.out.below hst)
  have hD4b := Lib.hid (hD4.out.below hst)
  clear hb hd hbv hst
  go_wp2_with fail
  generalize w5.alloc (.cells #[.slice Ao5 1 co5, .bool false, .string (B []), .string (B [])] 34) = V5 at *
  generalize w5.heap.size = d5 at *
  have hC6 := Lib.hid (cook_one [112, 117, 116, 32, 97, 32, 32, 98, 32, 62, 32, 111] [111] [97, 32, 98, 10] ⟨[[97], [98]], []⟩ (by decide) cats_6 2 0 2 0 (some ⟨W.heap.size + 1, 0, none⟩) none V5 ⟨(hGH.out.below hBc5.out).rd, ⟨rfl, Nat.zero_le _, fun h => absurd h (Nat.lt_irrefl 0)⟩, by simp, by simp, fun f hf => by simp at hf⟩ (htH.out.below (hB1.out.trans (hBc5.out.mono hB1.out.size))) rfl rfl _ rfl)
  refine (hC6.out).mono ?_
  rintro e w6 ⟨Ao6, co6, rfl, hb, hd⟩
  have hbv : Below w6.heap.size w6 (w6.alloc (.cells #[.slice Ao6 1 co6, .bool false, .string (B []), .string (B [])] 34)) := (Below.refl _ _).alloc (Nat.le_refl _) _
  have hst := hb.trans (hbv.mono hb.size)
  have hBc6 := Lib.hid (hBc5.out.trans (hst.mono hBc5.out.size))
  have hD6 := Lib.hid hd
  have hD3d := Lib.hid (hD3c.out.below hst)
  have hD4c := Lib.hid (hD4b.out.below hst)
  have hD5b := Lib.hid (hD5.out.below hst)
  have k3 := (cell_of_heap (j := 0) hD3d.out.h).trans rfl
  have k4 := (cell_of_heap (j := 0) hD4c.out.h).trans rfl
  have k5 := (cell_of_heap (j := 0) hD5b.out.h).trans rfl
  have k6 := (cell_of_heap (j := 0) hD6.out.h).trans rfl
  clear hb hd hbv hst
  go_wp2_with fail
  generalize w6.alloc (.cells #[.slice Ao6 1 co6, .bool false, .string (B []), .string (B [])] 34) = V6 at *
  generalize w6.heap.size = d6 at *
  have hB7 := Lib.hid (hB1.out.trans (hBc6.out.mono hB1.out.size))
  have hB7d := Lib.hid hB7.out.drew
  obtain ⟨ad3, A3, c3, rfl, p3, q3⟩ := hD3d.out.firstC (by decide)
  obtain ⟨ad4, A4, c4, rfl, p4, q4⟩ := hD4c.out.firstC (by decide)
  obtain ⟨ad5, A5, c5, rfl, p5, q5⟩ := hD5b.out.firstC (by decide)
  obtain ⟨ad6, A6, c6, rfl, p6, q6⟩ := hD6.out.firstC (by decide)
  obtain ⟨hx', hhx⟩ : ∃ t, sumT x = t := ⟨_, rfl⟩
  obtain ⟨hy', hhy⟩ : ∃ t, sumT y = t := ⟨_, rfl⟩
  have hsame : Hid (x = y → hx' = hy') := fun h => by rw [← hhx, ← hhy, h]
  have lx' : hx'.length = 17 := by rw [← hhx]; exact sumT_len x
  have ly' : hy'.length = 17 := by rw [← hhy]; exact sumT_len y
  rw [hhx] at p4 q4
  rw [hhy] at p5 q5
  rw [hlx] at p3
  rw [lx'] at p4
  rw [ly'] at p5
  have hS15 : Hid (∀ w, Below V6.heap.size V6 w → (fun w' => w'.cell? ⟨d3, 0, none⟩ = some (.slice (some ad3) 1 co3) ∧ w'.cell? ⟨d4, 0, none⟩ = some (.slice (some ad4) 1 co4) ∧ w'.cell? ⟨d5, 0, none⟩ = some (.slice (some ad5) 1 co5) ∧ w'.cell? ⟨d6, 0, none⟩ = some (.slice (some ad6) 1 co6) ∧ w'.cell? ⟨ad3.block, ad3.off + 1, none⟩ = some (.slice A3 lx c3) ∧ w'.cell? ⟨ad4.block, ad4.off + 1, none⟩ = some (.slice A4 17 c4) ∧ w'.cell? ⟨ad5.block, ad5.off + 1, none⟩ = some (.slice A5 17 c5) ∧ w'.cell? ⟨ad6.block, ad6.off + 1, none⟩ = some (.slice A6 4 c6) ∧ (convert 24 9 (.slice A3 lx c3)).run Tryd.prog w' = .ok (.string (B x)) w' ∧ (convert 24 9 (.slice A4 17 c4)).run Tryd.prog w' = .ok (.string (B hx')) w' ∧ (convert 24 9 (.slice A5 17 c5)).run Tryd.prog w' = .ok (.string (B hy')) w' ∧ (convert 24 9 (.slice A6 4 c6)).run Tryd.prog w' = .ok (.string (B [97, 32, 98, 10])) w' ∧ (convert 24 9 (.slice ax lx cx)).run Tryd.prog w' = .ok (.string (B x)) w' ∧ (convert 24 9 (.slice ay ly cy)).run Tryd.prog w' = .ok (.string (B y)) w') w) := fun w hb => by
    have r3 := conv_txt (c := c3) (Kd.C_below q3 hb)
    have r4 := conv_txt (c := c4) (Kd.C_below q4 hb)
    have r5 := conv_txt (c := c5) (Kd.C_below q5 hb)
    have r6 := conv_txt (c := c6) (Kd.C_below q6 hb)
    obtain ⟨u1, u2⟩ := hArgs.out _ (hB7.out.trans (hb.mono hB7.out.size))
    rw [hlx] at r3
    rw [lx'] at r4
    rw [ly'] at r5
    exact ⟨below_cell hb ((cell_of_heap (j := 0) hD3d.out.h).trans rfl), below_cell hb ((cell_of_heap (j := 0) hD4c.out.h).trans rfl), below_cell hb ((cell_of_heap (j := 0) hD5b.out.h).trans rfl), below_cell hb ((cell_of_heap (j := 0) hD6.out.h).trans rfl), below_cell hb p3, below_cell hb p4, below_cell hb p5, below_cell hb p6, r3, r4, r5, r6, u1, u2⟩
  clear p3 p4 p5 p6 q3 q4 q5 q6 hhx hhy lx' ly'
  cases hxy : (x == y) with
  | true =>
    have hxe : (hx' == hy') = true := beq_iff_eq.2 (hsame.out (beq_iff_eq.1 hxy))
    refine RegP.regionH (fun w' => w'.cell? ⟨d3, 0, none⟩ = some (.slice (some ad3) 1 co3) ∧ w'.cell? ⟨d4, 0, none⟩ = some (.slice (some ad4) 1 co4) ∧ w'.cell? ⟨d5, 0, none⟩ = some (.slice (some ad5) 1 co5) ∧ w'.cell? ⟨d6, 0, none⟩ = some (.slice (some ad6) 1 co6) ∧ w'.cell? ⟨ad3.block, ad3.off + 1, none⟩ = some (.slice A3 lx c3) ∧ w'.cell? ⟨ad4.block, ad4.off + 1, none⟩ = some (.slice A4 17 c4) ∧ w'.cell? ⟨ad5.block, ad5.off + 1, none⟩ = some (.slice A5 17 c5) ∧ w'.cell? ⟨ad6.block, ad6.off + 1, none⟩ = some (.slice A6 4 c6) ∧ (convert 24 9 (.slice A3 lx c3)).run Tryd.prog w' = .ok (.string (B x)) w' ∧ (convert 24 9 (.slice A4 17 c4)).run Tryd.prog w' = .ok (.string (B hx')) w' ∧ (convert 24 9 (.slice A5 17 c5)).run Tryd.prog w' = .ok (.string (B hy')) w' ∧ (convert 24 9 (.slice A6 4 c6)).run Tryd.prog w' = .ok (.string (B [97, 32, 98, 10])) w' ∧ (convert 24 9 (.slice ax lx cx)).run Tryd.prog w' = .ok (.string (B x)) w' ∧ (convert 24 9 (.slice ay ly cy)).run Tryd.prog w' = .ok (.string (B y)) w') [(0, 0), (1, 1), (0, 2), (0, 3), (1, 4), (1, 5), (0, 6), (1, 7), (0, 8), (0, 9), (0, 10), (1, 11), (0, 12), (0, 13), (1, 14), (0, 15), (0, 16), (0, 17), (0, 18), (0, 19), (1, 20), (0, 21), (1, 22), (0, 23), (0, 24), (0, 25), (1, 26), (0, 27), (0, 28), (1, 29), (1, 30), (0, 31), (1, 32), (0, 33), (0, 34), (1, 35), (1, 36), (0, 37), (0, 38), (0, 39), (0, 40), (0, 41), (1, 42), (0, 43), (0, 44), (1, 45), (1, 46), (0, 47), (0, 48), (0, 49), (2, 50), (0, 51), (0, 52)] (by kernel_rfl) (by kernel_rfl) (by rfl) (by kernel_rfl) (by exact hS15.out _ ((Below.refl _ _).drew)) ?_
    refine RegP.pure1 (by (simp only [gA,gB,gC]); rfl) (by exact fun _ _ _ h => h) (by rfl) (by intro w'; go_simp; try with_reducible rfl) ?_
    try simp only [Act.put, pA,pB,pC]
    refine RegP.held1 (by (simp only [gA,gB,gC]); rfl) (by exact fun _ _ _ h => h) (by rfl) (by intro w' hS_; (try dsimp only at hS_); go_split_ands; go_simp; try with_reducible rfl) ?_
    try simp only [Act.put, pA,pB,pC]
    refine RegP.pure1 (by (simp only [gA,gB,gC]); rfl) (by exact fun _ _ _ h => h) (by rfl) (by intro w'; go_simp; try with_reducible rfl) ?_
    try simp only [Act.put, pA,pB,pC]
    refine RegP.pure1 (by (simp only [gA,gB,gC]); rfl) (by exact fun _ _ _ h => h) (by rfl) (by intro w'; go_simp; try with_reducible rfl) ?_
    try simp only [Act.put, pA,pB,pC]
    refine RegP.held1 (by (simp only [gA,gB,gC]); rfl) (by exact fun _ _ _ h => h) (by rfl) (by intro w' hS_; (try dsimp only at hS_); go_split_ands; go_simp; try with_reducible rfl) ?_
    try simp only [Act.put, pA,pB,pC]
    refine RegP.held1 (by (simp only [gA,gB,gC]); rfl) (by exact fun _ _ _ h => h) (by rfl) (by intro w' hS_; (try dsimp only at hS_); go_split_ands; go_simp; try with_reducible rfl) ?_
    try simp only [Act.put, pA,pB,pC]
    refine RegP.pure1 (by (simp only [gA,gB,gC]); rfl) (by exact fun _ _ _ h => h) (by rfl) (by intro w'; go_simp; try with_reducible rfl) ?_
    try simp only [Act.put, pA,pB,pC]
    refine RegP.held1 (by (simp only [gA,gB,gC]); rfl) (by exact fun _ _ _ h => h) (by rfl) (by intro w' hS_; (try dsimp only at hS_); go_split_ands; go_simp; try with_reducible rfl) ?_
    try simp only [Act.put, pA,pB,pC]
    refine RegP.pure1 (by (simp only [gA,gB,gC]); rfl) (by exact fun _ _ _ h => h) (by rfl) (by intro w'; go_simp; try with_reducible rfl) ?_
    try simp only [Act.put, pA,pB,pC]
    refine RegP.pure1 (by (simp only [gA,gB,gC]); rfl) (by exact fun _ _ _ h => h) (by rfl) (by intro w'; go_simp; try with_reducible rfl) ?_
    try simp only [Act.put, pA,pB,pC]
    refine RegP.pure1 (by (simp only [gA,gB,gC]); rfl) (by exact fun _ _ _ h => h) (by rfl) (by intro w'; go_simp; try with_reducible rfl) ?_
    try simp only [Act.put, pA,pB,pC]
    refine RegP.held1 (by (simp only [gA,gB,gC]); rfl) (by exact fun _ _ _ h => h) (by rfl) (by intro w' hS_; (try dsimp only at hS_); go_split_ands; go_simp; try with_reducible rfl) ?_
    try simp only [Act.put, pA,pB,pC]
    refine RegP.pure1 (by (simp only [gA,gB,gC]); rfl) (by exact fun _ _ _ h => h) (by rfl) (by intro w'; go_simp; try with_reducible rfl) ?_
    try simp only [Act.put, pA,pB,pC]
    refine RegP.pure1 (by (simp only [gA,gB,gC]); rfl) (by exact fun _ _ _ h => h) (by rfl) (by intro w'; go_simp; try with_reducible rfl) ?_
    try simp only [Act.put, pA,pB,pC]
    refine RegP.held1 (by (simp only [gA,gB,gC]); rfl) (by exact fun _ _ _ h => h) (by rfl) (by intro w' hS_; (try dsimp only at hS_); go_split_ands; go_simp; try with_reducible rfl) ?_
    try simp only [Act.put, pA,pB,pC]
    refine RegP.pure1 (by (simp only [gA,gB,gC]); rfl) (by exact fun _ _ _ h => h) (by rfl) (by intro w'; go_simp; try with_reducible rfl) ?_
    try simp only [Act.put, pA,pB,pC]
    refine RegP.pure1 (by (simp only [gA,gB,gC]); rfl) (by exact fun _ _ _ h => h) (by rfl) (by intro w'; go_simp; try with_reducible rfl) ?_
    try simp only [Act.put, pA,pB,pC]
    refine RegP.pure1 (by (simp only [gA,gB,gC]); rfl) (by exact fun _ _ _ h => h) (by rfl) (by intro w'; go_simp; try with_reducible rfl) ?_
    try simp only [Act.put, pA,pB,pC]
    refine RegP.pure1 (by (simp only [gA,gB,gC]); rfl) (by exact fun _ _ _ h => h) (by rfl) (by intro w'; go_simp; try with_reducible rfl) ?_
    try simp only [Act.put, pA,pB,pC]
    refine RegP.pure1 (by (simp only [gA,gB,gC]); rfl) (by exact fun _ _ _ h => h) (by rfl) (by intro w'; go_simp; try with_reducible rfl) ?_
    try simp only [Act.put, pA,pB,pC]
    refine RegP.held1 (by (simp only [gA,gB,gC]); rfl) (by exact fun _ _ _ h => h) (by rfl) (by intro w' hS_; (try dsimp only at hS_); go_split_ands; go_simp; try with_reducible rfl) ?_
    try simp only [Act.put, pA,pB,pC]
    refine RegP.pure1 (by (simp only [gA,gB,gC]); rfl) (by exact fun _ _ _ h => h) (by rfl) (by intro w'; go_simp; try with_reducible rfl) ?_
    try simp only [Act.put, pA,pB,pC]
    refine RegP.held1 (by (simp only [gA,gB,gC]); rfl) (by exact fun _ _ _ h => h) (by rfl) (by intro w' hS_; (try dsimp only at hS_); go_split_ands; go_simp; try with_reducible rfl) ?_
    try simp only [Act.put, pA,pB,pC]
    refine RegP.pure1 (by (simp only [gA,gB,gC]); rfl) (by exact fun _ _ _ h => h) (by rfl) (by intro w'; go_simp; try with_reducible rfl) ?_
    try simp only [Act.put, pA,pB,pC]
    refine RegP.pure1 (by (simp only [gA,gB,gC]); rfl) (by exact fun _ _ _ h => h) (by rfl) (by intro w'; go_simp; try with_reducible rfl) ?_
    try simp only [Act.put, pA,pB,pC]
    refine RegP.pure1 (by (simp only [gA,gB,gC]); rfl) (by exact fun _ _ _ h => h) (by rfl) (by intro w'; go_simp; try with_reducible rfl) ?_
    try simp only [Act.put, pA,pB,pC]
    refine RegP.held1 (by (simp only [gA,gB,gC]); rfl) (by exact fun _ _ _ h => h) (by rfl) (by intro w' hS_; (try dsimp only at hS_); go_split_ands; go_simp; try with_reducible rfl) ?_
    try simp only [Act.put, pA,pB,pC]
    refine RegP.pure1 (by (simp only [gA,gB,gC]); rfl) (by exact fun _ _ _ h => h) (by rfl) (by intro w'; go_simp; try with_reducible rfl) ?_
    try simp only [Act.put, pA,pB,pC]
    refine RegP.pure1 (by (simp only [gA,gB,gC]); rfl) (by exact fun _ _ _ h => h) (by rfl) (by intro w'; go_simp; try with_reducible rfl) ?_
    try simp only [Act.put, pA,pB,pC]
    refine RegP.held1 (by (simp only [gA,gB,gC]); rfl) (by exact fun _ _ _ h => h) (by rfl) (by intro w' hS_; (try dsimp only at hS_); go_split_ands; go_simp; try with_reducible rfl) ?_
    try simp only [Act.put, pA,pB,pC]
    refine RegP.held1 (by (simp only [gA,gB,gC]); rfl) (by exact fun _ _ _ h => h) (by rfl) (by intro w' hS_; (try dsimp only at hS_); go_split_ands; go_simp; try with_reducible rfl) ?_
    try simp only [Act.put, pA,pB,pC]
    refine RegP.pure1 (by (simp only [gA,gB,gC]); rfl) (by exact fun _ _ _ h => h) (by rfl) (by intro w'; go_simp; try with_reducible rfl) ?_
    try simp only [Act.put, pA,pB,pC]
    refine RegP.held1 (by (simp only [gA,gB,gC]); rfl) (by exact fun _ _ _ h => h) (by rfl) (by intro w' hS_; (try dsimp only at hS_); go_split_ands; go_simp; try with_reducible rfl) ?_
    try simp only [Act.put, pA,pB,pC]
    refine RegP.pure1 (by (simp only [gA,gB,gC]); rfl) (by exact fun _ _ _ h => h) (by rfl) (by intro w'; go_simp; try with_reducible rfl) ?_
    try simp only [Act.put, pA,pB,pC]
    refine RegP.pure1 (by (simp only [gA,gB,gC]); rfl) (by exact fun _ _ _ h => h) (by rfl) (by intro w'; go_simp; try with_reducible rfl) ?_
    try simp only [Act.put, pA,pB,pC]
    refine RegP.held1 (by (simp only [gA,gB,gC]); rfl) (by exact fun _ _ _ h => h) (by rfl) (by intro w' hS_; (try dsimp only at hS_); go_split_ands; go_simp; try with_reducible rfl) ?_
    try simp only [Act.put, pA,pB,pC]
    refine RegP.held1 (by (simp only [gA,gB,gC]); rfl) (by exact fun _ _ _ h => h) (by rfl) (by intro w' hS_; (try dsimp only at hS_); go_split_ands; go_simp; try with_reducible rfl) ?_
    try simp only [Act.put, pA,pB,pC]
    refine RegP.pure1 (by (simp only [gA,gB,gC]); rfl) (by exact fun _ _ _ h => h) (by rfl) (by intro w'; go_simp; try with_reducible rfl) ?_
    try simp only [Act.put, pA,pB,pC]
    refine RegP.pure1 (by (simp only [gA,gB,gC]); rfl) (by exact fun _ _ _ h => h) (by rfl) (by intro w'; go_simp; try with_reducible rfl) ?_
    try simp only [Act.put, pA,pB,pC]
    refine RegP.pure1 (by (simp only [gA,gB,gC]); rfl) (by exact fun _ _ _ h => h) (by rfl) (by intro w'; go_simp; try with_reducible rfl) ?_
    try simp only [Act.put, pA,pB,pC]
    refine RegP.pure1 (by (simp only [gA,gB,gC]); rfl) (by exact fun _ _ _ h => h) (by rfl) (by intro w'; go_simp; try with_reducible rfl) ?_
    try simp only [Act.put, pA,pB,pC]
    refine RegP.pure1 (by (simp only [gA,gB,gC]); rfl) (by exact fun _ _ _ h => h) (by rfl) (by intro w'; go_simp; try with_reducible rfl) ?_
    try simp only [Act.put, pA,pB,pC]
    refine RegP.held1 (by (simp only [gA,gB,gC]); rfl) (by exact fun _ _ _ h => h) (by rfl) (by intro w' hS_; (try dsimp only at hS_); go_split_ands; go_simp; try with_reducible rfl) ?_
    try simp only [Act.put, pA,pB,pC]
    refine RegP.pure1 (by (simp only [gA,gB,gC]); rfl) (by exact fun _ _ _ h => h) (by rfl) (by intro w'; go_simp; try with_reducible rfl) ?_
    try simp only [Act.put, pA,pB,pC]
    refine RegP.pure1 (by (simp only [gA,gB,gC]); rfl) (by exact fun _ _ _ h => h) (by rfl) (by intro w'; go_simp; try with_reducible rfl) ?_
    try simp only [Act.put, pA,pB,pC]
    refine RegP.held1 (by (simp only [gA,gB,gC]); rfl) (by exact fun _ _ _ h => h) (by rfl) (by intro w' hS_; (try dsimp only at hS_); go_split_ands; go_simp; try with_reducible rfl) ?_
    try simp only [Act.put, pA,pB,pC]
    refine RegP.held1 (by (simp only [gA,gB,gC]); rfl) (by exact fun _ _ _ h => h) (by rfl) (by intro w' hS_; (try dsimp only at hS_); go_split_ands; go_simp; try with_reducible rfl) ?_
    try simp only [Act.put, pA,pB,pC]
    refine RegP.pure1 (by (simp only [gA,gB,gC]); rfl) (by exact fun _ _ _ h => h) (by rfl) (by intro w'; go_simp; try with_reducible rfl) ?_
    try simp only [Act.put, pA,pB,pC]
    refine RegP.pure1 (by (simp only [gA,gB,gC]); rfl) (by exact fun _ _ _ h => h) (by rfl) (by intro w'; go_simp; try with_reducible rfl) ?_
    try simp only [Act.put, pA,pB,pC]
    refine RegP.pure1 (by (simp only [gA,gB,gC]); rfl) (by exact fun _ _ _ h => h) (by rfl) (by intro w'; go_simp; try with_reducible rfl) ?_
    try simp only [Act.put, pA,pB,pC]
    refine RegP.ev1 (by (simp only [gA,gB,gC]); rfl) (fun K hK => ?_)
    go_simp
    refine (hAw.out _ hB7d.out).mono ?_
    rintro e w9 ⟨rfl, hb9⟩
    have hB9 := Lib.hid (hB7d.out.trans (hb9.mono hB7d.out.size))
    have hB69 : Hid (Below V6.heap.size V6 w9) := ((Below.refl V6.heap.size V6).drew).trans (hb9.mono (Nat.le_refl _))
    refine hK.out _ _ ?_ (fun hHeld => ?_)
    · (try dsimp only); exact hS15.out _ hB69.out
    clear hK K
    try simp only [Act.put, pA,pB,pC]
    refine RegP.pure1 (by (simp only [gA,gB,gC]); rfl) (by exact fun _ _ _ h => h) (by rfl) (by intro w'; go_simp; try with_reducible rfl) ?_
    try simp only [Act.put, pA,pB,pC]
    refine RegP.pure1 (by (simp only [gA,gB,gC]); rfl) (by exact fun _ _ _ h => h) (by rfl) (by intro w'; go_simp; try with_reducible rfl) ?_
    try simp only [Act.put, pA,pB,pC]
    refine RegP.done1 ?_
    try dsimp only
    go_wp2_with fail
    go_ret
    exact ⟨rfl, hB9.out⟩
  | false =>
    refine RegP.regionH (fun w' => w'.cell? ⟨d3, 0, none⟩ = some (.slice (some ad3) 1 co3) ∧ w'.cell? ⟨d4, 0, none⟩ = some (.slice (some ad4) 1 co4) ∧ w'.cell? ⟨d5, 0, none⟩ = some (.slice (some ad5) 1 co5) ∧ w'.cell? ⟨d6, 0, none⟩ = some (.slice (some ad6) 1 co6) ∧ w'.cell? ⟨ad3.block, ad3.off + 1, none⟩ = some (.slice A3 lx c3) ∧ w'.cell? ⟨ad4.block, ad4.off + 1, none⟩ = some (.slice A4 17 c4) ∧ w'.cell? ⟨ad5.block, ad5.off + 1, none⟩ = some (.slice A5 17 c5) ∧ w'.cell? ⟨ad6.block, ad6.off + 1, none⟩ = some (.slice A6 4 c6) ∧ (convert 24 9 (.slice A3 lx c3)).run Tryd.prog w' = .ok (.string (B x)) w' ∧ (convert 24 9 (.slice A4 17 c4)).run Tryd.prog w' = .ok (.string (B hx')) w' ∧ (convert 24 9 (.slice A5 17 c5)).run Tryd.prog w' = .ok (.string (B hy')) w' ∧ (convert 24 9 (.slice A6 4 c6)).run Tryd.prog w' = .ok (.string (B [97, 32, 98, 10])) w' ∧ (convert 24 9 (.slice ax lx cx)).run Tryd.prog w' = .ok (.string (B x)) w' ∧ (convert 24 9 (.slice ay ly cy)).run Tryd.prog w' = .ok (.string (B y)) w') [(0, 0), (1, 1), (0, 2), (0, 3), (1, 4), (1, 5), (0, 6), (1, 7), (0, 8), (0, 9), (0, 10), (1, 11), (0, 12), (0, 13), (1, 14), (0, 15), (0, 16), (0, 17), (0, 18), (0, 19), (1, 20), (0, 21), (1, 22), (0, 23), (0, 24), (4, 25), (4, 26), (4, 27), (4, 28), (4, 29), (4, 30), (4, 31), (4, 32), (4, 33), (4, 34), (4, 35), (4, 36), (4, 37), (0, 38), (0, 39), (0, 40), (0, 41), (1, 42), (0, 43), (0, 44), (1, 45), (1, 46), (0, 47), (0, 48), (0, 49), (2, 50), (0, 51), (0, 52)] (by kernel_rfl) (by kernel_rfl) (by rfl) (by kernel_rfl) (by exact hS15.out _ ((Below.refl _ _).drew)) ?_
    refine RegP.pure1 (by (simp only [gA,gB,gC]); rfl) (by exact fun _ _ _ h => h) (by rfl) (by intro w'; go_simp; try with_reducible rfl) ?_
    try simp only [Act.put, pA,pB,pC]
    refine RegP.held1 (by (simp only [gA,gB,gC]); rfl) (by exact fun _ _ _ h => h) (by rfl) (by intro w' hS_; (try dsimp only at hS_); go_split_ands; go_simp; try with_reducible rfl) ?_
    try simp only [Act.put, pA,pB,pC]
    refine RegP.pure1 (by (simp only [gA,gB,gC]); rfl) (by exact fun _ _ _ h => h) (by rfl) (by intro w'; go_simp; try with_reducible rfl) ?_
    try simp only [Act.put, pA,pB,pC]
    refine RegP.pure1 (by (simp only [gA,gB,gC]); rfl) (by exact fun _ _ _ h => h) (by rfl) (by intro w'; go_simp; try with_reducible rfl) ?_
    try simp only [Act.put, pA,pB,pC]
    refine RegP.held1 (by (simp only [gA,gB,gC]); rfl) (by exact fun _ _ _ h => h) (by rfl) (by intro w' hS_; (try dsimp only at hS_); go_split_ands; go_simp; try with_reducible rfl) ?_
    try simp only [Act.put, pA,pB,pC]
    refine RegP.held1 (by (simp only [gA,gB,gC]); rfl) (by exact fun _ _ _ h => h) (by rfl) (by intro w' hS_; (try dsimp only at hS_); go_split_ands; go_simp; try with_reducible rfl) ?_
    try simp only [Act.put, pA,pB,pC]
    refine RegP.pure1 (by (simp only [gA,gB,gC]); rfl) (by exact fun _ _ _ h => h) (by rfl) (by intro w'; go_simp; try with_reducible rfl) ?_
    try simp only [Act.put, pA,pB,pC]
    refine RegP.held1 (by (simp only [gA,gB,gC]); rfl) (by exact fun _ _ _ h => h) (by rfl) (by intro w' hS_; (try dsimp only at hS_); go_split_ands; go_simp; try with_reducible rfl) ?_
    try simp only [Act.put, pA,pB,pC]
    refine RegP.pure1 (by (simp only [gA,gB,gC]); rfl) (by exact fun _ _ _ h => h) (by rfl) (by intro w'; go_simp; try with_reducible rfl) ?_
    try simp only [Act.put, pA,pB,pC]
    refine RegP.pure1 (by (simp only [gA,gB,gC]); rfl) (by exact fun _ _ _ h => h) (by rfl) (by intro w'; go_simp; try with_reducible rfl) ?_
    try simp only [Act.put, pA,pB,pC]
    refine RegP.pure1 (by (simp only [gA,gB,gC]); rfl) (by exact fun _ _ _ h => h) (by rfl) (by intro w'; go_simp; try with_reducible rfl) ?_
    try simp only [Act.put, pA,pB,pC]
    refine RegP.held1 (by (simp only [gA,gB,gC]); rfl) (by exact fun _ _ _ h => h) (by rfl) (by intro w' hS_; (try dsimp only at hS_); go_split_ands; go_simp; try with_reducible rfl) ?_
    try simp only [Act.put, pA,pB,pC]
    refine RegP.pure1 (by (simp only [gA,gB,gC]); rfl) (by exact fun _ _ _ h => h) (by rfl) (by intro w'; go_simp; try with_reducible rfl) ?_
    try simp only [Act.put, pA,pB,pC]
    refine RegP.pure1 (by (simp only [gA,gB,gC]); rfl) (by exact fun _ _ _ h => h) (by rfl) (by intro w'; go_simp; try with_reducible rfl) ?_
    try simp only [Act.put, pA,pB,pC]
    refine RegP.held1 (by (simp only [gA,gB,gC]); rfl) (by exact fun _ _ _ h => h) (by rfl) (by intro w' hS_; (try dsimp only at hS_); go_split_ands; go_simp; try with_reducible rfl) ?_
    try simp only [Act.put, pA,pB,pC]
    refine RegP.pure1 (by (simp only [gA,gB,gC]); rfl) (by exact fun _ _ _ h => h) (by rfl) (by intro w'; go_simp; try with_reducible rfl) ?_
    try simp only [Act.put, pA,pB,pC]
    refine RegP.pure1 (by (simp only [gA,gB,gC]); rfl) (by exact fun _ _ _ h => h) (by rfl) (by intro w'; go_simp; try with_reducible rfl) ?_
    try simp only [Act.put, pA,pB,pC]
    refine RegP.pure1 (by (simp only [gA,gB,gC]); rfl) (by exact fun _ _ _ h => h) (by rfl) (by intro w'; go_simp; try with_reducible rfl) ?_
    try simp only [Act.put, pA,pB,pC]
    refine RegP.pure1 (by (simp only [gA,gB,gC]); rfl) (by exact fun _ _ _ h => h) (by rfl) (by intro w'; go_simp; try with_reducible rfl) ?_
    try simp only [Act.put, pA,pB,pC]
    refine RegP.pure1 (by (simp only [gA,gB,gC]); rfl) (by exact fun _ _ _ h => h) (by rfl) (by intro w'; go_simp; try with_reducible rfl) ?_
    try simp only [Act.put, pA,pB,pC]
    refine RegP.held1 (by (simp only [gA,gB,gC]); rfl) (by exact fun _ _ _ h => h) (by rfl) (by intro w' hS_; (try dsimp only at hS_); go_split_ands; go_simp; try with_reducible rfl) ?_
    try simp only [Act.put, pA,pB,pC]
    refine RegP.pure1 (by (simp only [gA,gB,gC]); rfl) (by exact fun _ _ _ h => h) (by rfl) (by intro w'; go_simp; try with_reducible rfl) ?_
    try simp only [Act.put, pA,pB,pC]
    refine RegP.held1 (by (simp only [gA,gB,gC]); rfl) (by exact fun _ _ _ h => h) (by rfl) (by intro w' hS_; (try dsimp only at hS_); go_split_ands; go_simp; try with_reducible rfl) ?_
    try simp only [Act.put, pA,pB,pC]
    refine RegP.pure1 (by (simp only [gA,gB,gC]); rfl) (by exact fun _ _ _ h => h) (by rfl) (by intro w'; go_simp; try with_reducible rfl) ?_
    try simp only [Act.put, pA,pB,pC]
    refine RegP.pure1 (by (simp only [gA,gB,gC]); rfl) (by exact fun _ _ _ h => h) (by rfl) (by intro w'; go_simp; try with_reducible rfl) ?_
    try simp only [Act.put, pA,pB,pC]
    refine RegP.skip1 (by (simp only [gA,gB,gC]); rfl) (by exact fun _ _ _ h => h) (by rfl) ?_
    try simp only [Act.put, pA,pB,pC]
    refine RegP.skip1 (by (simp only [gA,gB,gC]); rfl) (by exact fun _ _ _ h => h) (by rfl) ?_
    try simp only [Act.put, pA,pB,pC]
    refine RegP.skip1 (by (simp only [gA,gB,gC]); rfl) (by exact fun _ _ _ h => h) (by rfl) ?_
    try simp only [Act.put, pA,pB,pC]
    refine RegP.skip1 (by (simp only [gA,gB,gC]); rfl) (by exact fun _ _ _ h => h) (by rfl) ?_
    try simp only [Act.put, pA,pB,pC]
    refine RegP.skip1 (by (simp only [gA,gB,gC]); rfl) (by exact fun _ _ _ h => h) (by rfl) ?_
    try simp only [Act.put, pA,pB,pC]
    refine RegP.skip1 (by (simp only [gA,gB,gC]); rfl) (by exact fun _ _ _ h => h) (by rfl) ?_
    try simp only [Act.put, pA,pB,pC]
    refine RegP.skip1 (by (simp only [gA,gB,gC]); rfl) (by exact fun _ _ _ h => h) (by rfl) ?_
    try simp only [Act.put, pA,pB,pC]
    refine RegP.skip1 (by (simp only [gA,gB,gC]); rfl) (by exact fun _ _ _ h => h) (by rfl) ?_
    try simp only [Act.put, pA,pB,pC]
    refine RegP.skip1 (by (simp only [gA,gB,gC]); rfl) (by exact fun _ _ _ h => h) (by rfl) ?_
    try simp only [Act.put, pA,pB,pC]
    refine RegP.skip1 (by (simp only [gA,gB,gC]); rfl) (by exact fun _ _ _ h => h) (by rfl) ?_
    try simp only [Act.put, pA,pB,pC]
    refine RegP.skip1 (by (simp only [gA,gB,gC]); rfl) (by exact fun _ _ _ h => h) (by rfl) ?_
    try simp only [Act.put, pA,pB,pC]
    refine RegP.skip1 (by (simp only [gA,gB,gC]); rfl) (by exact fun _ _ _ h => h) (by rfl) ?_
    try simp only [Act.put, pA,pB,pC]
    refine RegP.skip1 (by (simp only [gA,gB,gC]); rfl) (by exact fun _ _ _ h => h) (by rfl) ?_
    try simp only [Act.put, pA,pB,pC]
    refine RegP.pure1 (by (simp only [gA,gB,gC]); rfl) (by exact fun _ _ _ h => h) (by rfl) (by intro w'; go_simp; try with_reducible rfl) ?_
    try simp only [Act.put, pA,pB,pC]
    refine RegP.pure1 (by (simp only [gA,gB,gC]); rfl) (by exact fun _ _ _ h => h) (by rfl) (by intro w'; go_simp; try with_reducible rfl) ?_
    try simp only [Act.put, pA,pB,pC]
    refine RegP.pure1 (by (simp only [gA,gB,gC]); rfl) (by exact fun _ _ _ h => h) (by rfl) (by intro w'; go_simp; try with_reducible rfl) ?_
    try simp only [Act.put, pA,pB,pC]
    refine RegP.pure1 (by (simp only [gA,gB,gC]); rfl) (by exact fun _ _ _ h => h) (by rfl) (by intro w'; go_simp; try with_reducible rfl) ?_
    try simp only [Act.put, pA,pB,pC]
    refine RegP.held1 (by (simp only [gA,gB,gC]); rfl) (by exact fun _ _ _ h => h) (by rfl) (by intro w' hS_; (try dsimp only at hS_); go_split_ands; go_simp; try with_reducible rfl) ?_
    try simp only [Act.put, pA,pB,pC]
    refine RegP.pure1 (by (simp only [gA,gB,gC]); rfl) (by exact fun _ _ _ h => h) (by rfl) (by intro w'; go_simp; try with_reducible rfl) ?_
    try simp only [Act.put, pA,pB,pC]
    refine RegP.pure1 (by (simp only [gA,gB,gC]); rfl) (by exact fun _ _ _ h => h) (by rfl) (by intro w'; go_simp; try with_reducible rfl) ?_
    try simp only [Act.put, pA,pB,pC]
    refine RegP.held1 (by (simp only [gA,gB,gC]); rfl) (by exact fun _ _ _ h => h) (by rfl) (by intro w' hS_; (try dsimp only at hS_); go_split_ands; go_simp; try with_reducible rfl) ?_
    try simp only [Act.put, pA,pB,pC]
    refine RegP.held1 (by (simp only [gA,gB,gC]); rfl) (by exact fun _ _ _ h => h) (by rfl) (by intro w' hS_; (try dsimp only at hS_); go_split_ands; go_simp; try with_reducible rfl) ?_
    try simp only [Act.put, pA,pB,pC]
    refine RegP.pure1 (by (simp only [gA,gB,gC]); rfl) (by exact fun _ _ _ h => h) (by rfl) (by intro w'; go_simp; try with_reducible rfl) ?_
    try simp only [Act.put, pA,pB,pC]
    refine RegP.pure1 (by (simp only [gA,gB,gC]); rfl) (by exact fun _ _ _ h => h) (by rfl) (by intro w'; go_simp; try with_reducible rfl) ?_
    try simp only [Act.put, pA,pB,pC]
    refine RegP.pure1 (by (simp only [gA,gB,gC]); rfl) (by exact fun _ _ _ h => h) (by rfl) (by intro w'; go_simp; try with_reducible rfl) ?_
    try simp only [Act.put, pA,pB,pC]
    refine RegP.ev1 (by (simp only [gA,gB,gC]); rfl) (fun K hK => ?_)
    go_simp
    refine (hAw.out _ hB7d.out).mono ?_
    rintro e w9 ⟨rfl, hb9⟩
    have hB9 := Lib.hid (hB7d.out.trans (hb9.mono hB7d.out.size))
    have hB69 : Hid (Below V6.heap.size V6 w9) := ((Below.refl V6.heap.size V6).drew).trans (hb9.mono (Nat.le_refl _))
    refine hK.out _ _ ?_ (fun hHeld => ?_)
    · (try dsimp only); exact hS15.out _ hB69.out
    clear hK K
    try simp only [Act.put, pA,pB,pC]
    refine RegP.pure1 (by (simp only [gA,gB,gC]); rfl) (by exact fun _ _ _ h => h) (by rfl) (by intro w'; go_simp; try with_reducible rfl) ?_
    try simp only [Act.put, pA,pB,pC]
    refine RegP.pure1 (by (simp only [gA,gB,gC]); rfl) (by exact fun _ _ _ h => h) (by rfl) (by intro w'; go_simp; try with_reducible rfl) ?_
    try simp only [Act.put, pA,pB,pC]
    refine RegP.done1 ?_
    try dsimp only
    go_wp2_with fail
    go_ret
    exact ⟨rfl, hB9.out⟩
end Go.Proofs.YtbklhcjcgiblkaaDoor.Ck
end
section
namespace Go.Proofs.YtbklhcjcgiblkaaDoor.cookCats
open Go.ChangeShapes Go.WideShapes Go.ChangeAt Go.RowKit
open Go.ChangeMaps (open_string shut_string)
set_option linter.unusedVariables false
theorem own : ownKnob Tryd.prog.godebug = none := by kernel_rfl
theorem laidOut : laidOutB Tryd.prog = true := by kernel_rfl
set_option maxRecDepth 100000 in
theorem lifted (os : Os) (started : os.Started) (H : Type) (enc : TypeId × Value → H) :
    ReturnsInHanded {} Tryd.checked os 6 .any (fun w args => (Rows.cookCatsSpec.pre enc Tryd.prog Tryd.f6 Rows.cookCatsRow.domain false w args ∧ laidMetH Tryd.prog Rows.cookCatsRow.laid w) ∧ sizedMet enc Tryd.prog Tryd.f6 (OpenSpec.ofChange Rows.cookCatsSpec) false w args) (Rows.cookCatsSpec.post enc Tryd.prog Tryd.f6 false true false false) := by
  refine returnsInHanded_of_change_and (C := Tryd.checked) (X := fun w _ => laidMetH Tryd.prog Rows.cookCatsRow.laid w) (fun _ _ _ hh h => h.of_heap hh) own started (by kernel_rfl) Tryd.func6
    (ChangeSpec.witness_shaped (enc := enc) (C := Tryd.checked) (os := os) (X := fun w _ => laidMetH Tryd.prog Rows.cookCatsRow.laid w) false (World.laidAll Tryd.prog os Rows.cookCatsRow.laid) #[.slice none 0 0, .slice none 0 0] 8 (World.laidAll_os _ _ _)
      (World.shaped_of_ZipB (by kernel_rfl) (by kernel_rfl)) (by kernel_rfl) (by kernel_rfl) (by kernel_rfl)
      (by rw [MakeChecks.laidMetH_plain _ _ _ (by kernel_rfl)]; exact laidMet_laidAll _ (by kernel_rfl) (by kernel_rfl))) ?_
  intro W base args ds gs before hval0 hW hcnd hsz0 hL _
  have hsz : (DataW.weightsEach Tryd.prog (Tryd.f6.params.toList ++ Rows.cookCatsSpec.plain.varTypes Tryd.prog) (ds ++ gs)).all (· ≤ reachBytes) = true := hsz0
  have hval : ∀ (j : Nat) t v, Tryd.f6.params[j]? = some t → args[j]? = some v → Value.okWide Tryd.prog W .any base t v := hval0
  have hW' := hW
  obtain ⟨p, q, hA0, hV, rfl, hfz, hnd⟩ := hW
  have hA : DataW.TrodAll enc Tryd.prog W 0 (fun _ => true) true Tryd.f6.params.toList args.toList ds p := hA0
  rw [Tryd.params6] at hA hval hsz
  obtain ⟨v0, vs0, d0, ds0, p0, q0, hargs, rfl, rfl, h0, r0⟩ := trodAll_cons hA
  obtain ⟨v1, vs1, d1, ds1, p1, q1, rfl, rfl, rfl, h1, r1⟩ := trodAll_cons r0
  obtain ⟨rfl, rfl, rfl⟩ := trodAll_nil r1
  obtain rfl : args = #[v0, v1] := by cases args; simp_all
  obtain ⟨rfl, rfl⟩ := trodVars_none hV
  obtain ⟨a0, len0, cap0, rfl⟩ := okWide_slice Tryd.underlying24 (hval 0 24 v0 rfl rfl)
  have k0 := h0
  have lt0 : ∀ x ∈ p0, x.block < W.heap.size := by obtain ⟨m, hm⟩ := k0; exact DataW.trod_lt m _ _ _ hm
  obtain ⟨l0, w0⟩ := Ck.bytes_open k0
  obtain ⟨a1, len1, cap1, rfl⟩ := okWide_slice Tryd.underlying24 (hval 1 24 v1 rfl rfl)
  have k1 := h1
  have lt1 : ∀ x ∈ p1, x.block < W.heap.size := by obtain ⟨m, hm⟩ := k1; exact DataW.trod_lt m _ _ _ hm
  obtain ⟨l1, w1⟩ := Ck.bytes_open k1
  clear hA0 hval0 hsz0 hsz
  refine (Ck.cats_walk a0 len0 cap0 l0 a1 len1 cap1 l1 W (Tab.of_laid hL) w0 w1).mono fun e W' ⟨he, bel⟩ => ?_
  subst he
  exact ⟨_, rfl, _, _, _, [], _, [], hW', trodAll_mk1 (shut_bool Tryd.underlying4 _), (trodAll_cons_mk (Below.trod laidOut (by kernel_rfl) (of_decide_eq_true (by kernel_rfl)) k0 bel lt0) (trodAll_cons_mk (Below.trod laidOut (by kernel_rfl) (of_decide_eq_true (by kernel_rfl)) k1 bel lt1) trodAll_mk0)), rfl, bel.frame _, fun h => by cases h⟩
theorem over : Rows.cookCatsRow.holds Tryd.pinned (OpenSpec.ofChange Rows.cookCatsSpec) :=
  OpenClaim.holds_of_wide 6 Tryd.f6 rfl rfl rfl rfl rfl rfl rfl ⟨rfl, rfl, rfl, rfl, rfl⟩ rfl rfl rfl rfl rfl (by kernel_rfl) Tryd.func6 (by kernel_rfl)
    (of_decide_eq_true (by kernel_rfl)) (by unfold Func.isWrapper; first | (rw [if_pos (by decide +kernel)]; kernel_rfl) | (rw [if_neg (by decide +kernel)]; exact ⟨rfl, rfl⟩))
    (fun os started H enc _ => lifted os started H enc)
theorem card : Rows.CookCatsCardSaid :=
  Claim7.holds_tied_plain_at .later [] [.data, .data, .data, .data, .pinned] true (true, "38a24746a22e816a7c20228ce871cbdf67fddb3eb70abfcecec18083f03f6761") true over (fun _ h => by cases h) (by kernel_rfl) (fun _ h => by cases h) cookCats_row_tie rfl ⟨rfl, rfl⟩ (by kernel_rfl) rfl
    (fun f fn hf hfn => by
      obtain rfl : f = 6 := Option.some.inj ((show Tryd.prog.funcNamed "bellows/bellowslaw15.CookCats" = some 6 by kernel_rfl).symm.trans hf) |>.symm
      obtain rfl : fn = Tryd.f6 := (Option.some.inj (Tryd.func6.symm.trans hfn)).symm
      have hall : (Tryd.f6.params.toList.all fun u => !Tryd.prog.wantsStandIn u) = true := by kernel_rfl
      exact ⟨by kernel_rfl, fun j t ht => by
        have hm : t ∈ Tryd.f6.params.toList := by simpa using Array.mem_of_getElem? ht
        exact (show Tryd.prog.wantsStandIn t = false by simpa using List.all_eq_true.1 hall t hm)⟩)
    (by kernel_rfl)
#print axioms card
end Go.Proofs.YtbklhcjcgiblkaaDoor.cookCats
namespace Go.Proofs.YtbklhcjcgiblkaaDoor
theorem cookCats_card : Rows.CookCatsCardSaid := cookCats.card
end Go.Proofs.YtbklhcjcgiblkaaDoor
end
