/- Laid together by wip/tools/shake.py from texts of this claim: TpCrc, TpOfA, TpGiven, TpNewI, TpNew, TpEvalP, TpEvalW, TpLawP, TpLaw, TpOpen, CardTopOrders. -/
import Derived.Test.YtnegfigaiomehaaGreatDoorTz5
import Derived.Lib.SlBytesConst
import Derived.ChangeSlices
import Derived.ChangeArms
import Derived.ProofKit
import Derived.KernelRfl
import Derived.Test.YtnegfigaiomehaaGreatDoorRows
import Derived.WalkKit
import Derived.OpenShut
import Derived.ShutString
import Derived.ChangeOld
import Derived.Below
import Derived.SizedLaws
import Derived.Carry
import Derived.LaidMore
import Derived.Lay
import Derived.SevenTiedAt
import Derived.Stop.Joined
import Derived.Test.YtnegfigaiomehaaGreatDoorTie
import Derived.Test.YtnegfigaiomehaaGreatDoorCards
set_option linter.unusedVariables false
set_option linter.unusedSimpArgs false
section
namespace Go.Proofs.YtnegfigaiomehaaGreatDoor.Tp
open Go.RowKit Go.Lib Go.Shelf Go.Maps Go.Proofs.YtnegfigaiomehaaGreatDoorW.PrintWords Go.Proofs.YtnegfigaiomehaaGreatDoorW.PrintLast Go.Proofs.YtnegfigaiomehaaGreatDoorW.PrintMore Go.Proofs.YtnegfigaiomehaaGreatDoor.U Go.Proofs.YtnegfigaiomehaaGreatDoor.P Go.Proofs.YtnegfigaiomehaaGreatDoor.PTh Go.Proofs.YtnegfigaiomehaaGreatDoor.MapV Go.Proofs.YtnegfigaiomehaaGreatDoor.Ck
def crcV (i : Nat) : Int := [4294967295, 2082672712, 2964110130, 2008521773, 1679564636, 873121251, 4136447134, 2952566368, 1696539984, 873187033].getD i 0
def crcC (i : Nat) : Int := [49, 50, 51, 52, 53, 54, 55, 56, 57].getD i 0
theorem crc_step : ((List.range 9).all fun i => crc_shifted.f 12 (crcV i) (crcC i) == some (crcV (i + 1))) = true := by decide +kernel
theorem shifted_at (i : Nat) (hi : i < 9) (w : World) : Calls Tryz.prog 98 #[.int .u32 (crcV i), .int .u8 (crcC i)] w fun e w' => e = .returned (.int .u32 (crcV (i + 1))) ∧ Below w.heap.size w w' := by
 have h := List.all_eq_true.1 crc_step i (List.mem_range.2 hi)
 refine (crc_shifted.calls 12 _ _ _ w (eq_of_beq h)).mono (fun e w' hh => ?_)
 obtain ⟨rfl, ⟨m, rfl⟩⟩ := hh
 exact ⟨rfl, pw_below_drewN (Below.refl _ _) m⟩
set_option maxRecDepth 100000 in
set_option maxHeartbeats 4000000 in
theorem fold32_any (p : Nat) (c : Nat) (w : World) (hC : ∀ i, i < 9 → w.cell? ⟨p, i, none⟩ = some (.int .u8 (crcC i))) :
  Calls Tryz.prog 97 #[.int .u32 4294967295, .slice (some ⟨p, 0, none⟩) 9 c, .func (.func 98) #[] #[]] w fun e w' => e = .returned (.int .u32 873187033) ∧ Below w.heap.size w w' := by
 have hCH := Lib.hid hC
 clear hC
 go_enter Tryz.func97, Tryz.ntmps97
 go_wp2_with fail
 go_loopg [0, 11] 9 (fun gk s0 s11 wr => ∃ i : Nat, s0 = .int .u32 (crcV i) ∧ s11 = .int .i64 (i : Int) ∧ i + gk = 9 ∧ Hid (Below w.heap.size w wr))
 case atStart => exact ⟨0, rfl, rfl, rfl, Below.refl _ _⟩
 case round =>
  obtain ⟨i, rfl, rfl, hik, hB⟩ := hrel
  cases gk with
  | zero =>
   obtain rfl : i = 9 := by omega
   have hv : crcV 9 = 873187033 := rfl
   rw [hv]
   go_wp2_with fail
   go_ret
   exact ⟨rfl, hB.out⟩
  | succ gk =>
   have hlt : decide ((i : Int) < 9) = true := by rw [decide_eq_true_iff]; omega
   have i1 : (0 : Int) ≤ (i : Int) := by omega
   have i2 : (i : Int) < 9 := by omega
   have k0 := below_cell hB.out (hCH.out i (by omega))
   have hP := Lib.hid (shifted_at i (by omega) wr)
   go_wp2_with fail
   refine hP.out.mono ?_
   rintro e w1 ⟨rfl, hb⟩
   have hB1 := Lib.hid (hB.out.trans (hb.mono hB.out.size))
   clear hb k0 hP
   go_wp2_with fail
   go_roundg gk
   case measure => omega
   case rel => exact ⟨i + 1, rfl, by first | rfl | simp, by omega, hB1⟩
set_option maxRecDepth 100000 in
set_option maxHeartbeats 4000000 in
theorem Sum_any (p : Nat) (c : Nat) (w : World) (hC : ∀ i, i < 9 → w.cell? ⟨p, i, none⟩ = some (.int .u8 (crcC i))) :
  Calls Tryz.prog 33 #[.slice (some ⟨p, 0, none⟩) 9 c] w fun e w' => e = .returned (.int .u32 3421780262) ∧ Below w.heap.size w w' := by
 have hF := Lib.hid (fold32_any p c w hC)
 have hM : Hid (Calls Tryz.prog 69 #[.int .u32 0, .slice (some ⟨p, 0, none⟩) 9 c] w fun e w' => e = .returned (.int .u32 3421780262) ∧ Below w.heap.size w w') := by
  refine Lib.hid ?_
  clear hC
  go_enter Tryz.func69, Tryz.ntmps69
  go_wp2_with fail
  refine hF.out.mono ?_
  rintro e w1 ⟨rfl, hb⟩
  have hB := Lib.hid hb
  clear hb
  go_wp2_with fail
  go_ret
  exact ⟨rfl, hB.out⟩
 clear hC hF
 go_enter Tryz.func33, Tryz.ntmps33
 go_wp2_with fail
 refine hM.out.mono ?_
 rintro e w1 ⟨rfl, hb⟩
 have hB := Lib.hid hb
 clear hb
 go_wp2_with fail
 go_ret
 exact ⟨rfl, hB.out⟩
set_option maxRecDepth 100000 in
set_option maxHeartbeats 4000000 in
theorem awakeT_any (w : World) : Calls Tryz.prog 8 #[] w fun e w' => e = .returned (.bool true) ∧ Below w.heap.size w w' := by
 have kc := fun (w : World) (C : Array Value) (n c : Nat) => Lib.run_convert_bytes_const (P := Tryz.prog) w 37 5 C n c Tryz.underlying37 Tryz.underlying5
 have hx := heap_alloc_new w (.cells #[.int .u8 49, .int .u8 50, .int .u8 51, .int .u8 52, .int .u8 53, .int .u8 54, .int .u8 55, .int .u8 56, .int .u8 57] 5 (9, 10))
 have hb0 : Hid (Below w.heap.size w (w.alloc (.cells #[.int .u8 49, .int .u8 50, .int .u8 51, .int .u8 52, .int .u8 53, .int .u8 54, .int .u8 55, .int .u8 56, .int .u8 57] 5 (9, 10)))) := Lib.hid ((Below.refl _ _).alloc (Nat.le_refl _) _)
 have hS := Lib.hid (Sum_any w.heap.size 9 (w.alloc (.cells #[.int .u8 49, .int .u8 50, .int .u8 51, .int .u8 52, .int .u8 53, .int .u8 54, .int .u8 55, .int .u8 56, .int .u8 57] 5 (9, 10))) (by
  intro i hi
  match i, hi with
  | 0, _ => exact (cell_of_heap (j := 0) hx).trans rfl
  | 1, _ => exact (cell_of_heap (j := 1) hx).trans rfl
  | 2, _ => exact (cell_of_heap (j := 2) hx).trans rfl
  | 3, _ => exact (cell_of_heap (j := 3) hx).trans rfl
  | 4, _ => exact (cell_of_heap (j := 4) hx).trans rfl
  | 5, _ => exact (cell_of_heap (j := 5) hx).trans rfl
  | 6, _ => exact (cell_of_heap (j := 6) hx).trans rfl
  | 7, _ => exact (cell_of_heap (j := 7) hx).trans rfl
  | 8, _ => exact (cell_of_heap (j := 8) hx).trans rfl))
 clear hx
 go_enter Tryz.func8, Tryz.ntmps8
 go_wp2_with fail
 refine hS.out.mono ?_
 rintro e w1 ⟨rfl, hb⟩
 have hB := Lib.hid (hb0.out.trans (hb.mono hb0.out.size))
 clear hb
 go_wp2_with fail
 go_ret
 exact ⟨rfl, hB.out⟩
end Go.Proofs.YtnegfigaiomehaaGreatDoor.Tp
end
section
namespace Go.Proofs.YtnegfigaiomehaaGreatDoor.Of4
open Go Go.RowKit Go.Lib Go.Shelf Go.Maps Go.Proofs.YtnegfigaiomehaaGreatDoorW.PrintWords Go.Proofs.YtnegfigaiomehaaGreatDoor.U Go.Proofs.YtnegfigaiomehaaGreatDoor.P Go.Proofs.YtnegfigaiomehaaGreatDoor.RegP Go.Proofs.YtnegfigaiomehaaGreatDoor.Ck Go.Proofs.YtnegfigaiomehaaGreatDoor.Tp
theorem heapAt_lt {w : World} {o : Obj} {k : Nat} (h : k < w.heap.size) : (w.alloc o).heap[k]? = w.heap[k]? := ((Below.refl w.heap.size w).alloc (Nat.le_refl _) o).block k h
theorem heapAt_eq {w : World} {o : Obj} {k : Nat} (h : k = w.heap.size) : (w.alloc o).heap[k]? = some o := by
 subst h
 show (w.heap.push o)[w.heap.size]? = _
 simp
def set4 {α : Type} (f : Fin 4 → α) (i : Fin 4) (x : α) : Fin 4 → α := fun j => if j = i then x else f j
theorem set4_same {α : Type} (f : Fin 4 → α) (i : Fin 4) (x : α) : set4 f i x i = x := if_pos rfl
theorem set4_other {α : Type} (f : Fin 4 → α) {i j : Fin 4} (x : α) (h : j ≠ i) : set4 f i x j = f j := if_neg h
structure Four (w : World) (base : Nat) (a p : Fin 4 → Bool) (v : Fin 4 → Value) (xs : Fin 4 → List ByteArray) : Prop where
 row : ∀ i, a i = true → Kd.R Kd.string 9 w base (fun _ => True) (v i) (if p i = true then xs i else [])
 emp : ∀ i, a i = false → (v i).ownBlock = none
 dis : ∀ i j, i ≠ j → ∀ k, (v i).ownBlock = some k → (v j).ownBlock ≠ some k
section
variable {w w' : World} {base : Nat} {a p : Fin 4 → Bool} {v : Fin 4 → Value} {xs : Fin 4 → List ByteArray}
theorem Four.lt (h : Four w base a p v xs) (i : Fin 4) (k : Nat) (hk : (v i).ownBlock = some k) : k < w.heap.size := by
 cases hi : a i with
 | false => rw [h.emp i hi] at hk; cases hk
 | true => exact Kd.R_lt (h.row i hi) k hk
theorem R_kept {v : Value} {l : List ByteArray} {ok : Nat → Prop} (h : Kd.R Kd.string 9 w base ok v l) (hm : ∀ k, v.ownBlock = some k → w'.heap[k]? = w.heap[k]?) : Kd.R Kd.string 9 w' base ok v l := by
 obtain ⟨h1, inner, ho, hr⟩ := h
 exact ⟨h1, inner, own_move ho hm, hr⟩
theorem Four.alloc (h : Four w base a p v xs) (hb : base ≤ w.heap.size) (i : Fin 4) (hp : p i = false) (hw : Kd.R Kd.string 9 (w.alloc (.cells #[] 9)) base (fun _ => True) (.slice (some ⟨w.heap.size, 0, none⟩) 0 0) []) :
  Four (w.alloc (.cells #[] 9)) base (set4 a i true) p (set4 v i (.slice (some ⟨w.heap.size, 0, none⟩) 0 0)) xs := by
 refine ⟨fun j hj => ?_, fun j hj => ?_, fun j l hjl k hk => ?_⟩
 ·by_cases e : j = i
  ·subst e
   rw [set4_same, hp]; exact hw
  ·rw [set4_other _ _ e] at hj ⊢
   exact R_kept (h.row j hj) fun k hk => heapAt_lt (h.lt j k hk)
 ·by_cases e : j = i
  ·subst e; rw [set4_same] at hj; cases hj
  ·rw [set4_other _ _ e] at hj ⊢; exact h.emp j hj
 ·by_cases e : j = i
  ·subst e
   rw [set4_same] at hk
   have : w.heap.size = k := by simpa [Value.ownBlock] using hk
   rw [set4_other _ _ (Ne.symm hjl)]
   intro hl
   have := h.lt l k hl
   omega
  ·rw [set4_other _ _ e] at hk
   by_cases e2 : l = i
   ·subst e2
    rw [set4_same]
    intro hl
    have : w.heap.size = k := by simpa [Value.ownBlock] using hl
    have := h.lt j k hk
    omega
   ·rw [set4_other _ _ e2]; exact h.dis j l hjl k hk
theorem Four.append (h : Four w base a p v xs) (i : Fin 4) (ha : a i = true) {v1 : Value} (hR : Kd.R Kd.string 9 w' base (fun _ => True) v1 (xs i)) (hg : w.grownBy w' (v i).ownBlock) (hat : v1.ownBlock = (v i).ownBlock ∨ ∃ b, v1.ownBlock = some b ∧ w.heap.size ≤ b) :
  Four w' base a (set4 p i true) (set4 v i v1) xs := by
 have keep : ∀ j, j ≠ i → ∀ k, (v j).ownBlock = some k → w'.heap[k]? = w.heap[k]? := fun j hj k hk =>
  hg.block k (h.lt j k hk) (fun e => h.dis j i hj k hk e.symm)
 have apart : ∀ j, j ≠ i → ∀ k, (v j).ownBlock = some k → v1.ownBlock ≠ some k := by
  intro j hj k hk e
  rcases hat with hat | ⟨b, hb, hle⟩
  ·rw [hat] at e; exact h.dis j i hj k hk e
  ·rw [hb] at e; injection e with e
   have := h.lt j k hk
   omega
 refine ⟨fun j hj => ?_, fun j hj => ?_, fun j l hjl k hk => ?_⟩
 ·by_cases e : j = i
  ·subst e
   rw [set4_same, set4_same, if_pos rfl]; exact hR
  ·rw [set4_other _ _ e, set4_other _ _ e]
   exact R_kept (h.row j hj) (keep j e)
 ·by_cases e : j = i
  ·subst e; rw [ha] at hj; cases hj
  ·rw [set4_other _ _ e]; exact h.emp j hj
 ·by_cases e : j = i
  ·subst e
   rw [set4_same] at hk
   rw [set4_other _ _ (Ne.symm hjl)]
   intro hl
   exact apart l (Ne.symm hjl) k hl hk
  ·rw [set4_other _ _ e] at hk
   by_cases e2 : l = i
   ·subst e2
    rw [set4_same]; exact apart j e k hk
   ·rw [set4_other _ _ e2]; exact h.dis j l hjl k hk
end
def ch (i j : Nat) (q b p : Bool) : List Nat := if b = true then (if p = true then [] else if q = true then [j] else []) else [i]
def rdy (b0 p0 b1 p1 b2 p2 b3 p3 : Bool) : List Nat := ch 2 5 true b0 p0 ++ (ch 6 9 p0 b1 p1 ++ (ch 10 13 p1 b2 p2 ++ (ch 14 17 p2 b3 p3 ++ (if (p0 && p1 && p2 && p3) = true then [22] else []))))
def Larr (b0 p0 b1 p1 b2 p2 b3 p3 : Bool) : Array Bool := #[true, true, b0, true, true, p0, b1, true, true, p1, b2, true, true, p2, b3, true, true, p3, true, true, true, true, false, false, false, false, false]
def one (b : Bool) : Nat := if b = true then 0 else 1
def cnt (b0 p0 b1 p1 b2 p2 b3 p3 : Bool) : Nat := one b0 + one p0 + one b1 + one p1 + one b2 + one p2 + one b3 + one p3
theorem ch_mem {i j k : Nat} {q b p : Bool} (h : k ∈ ch i j q b p) : (k = i ∧ b = false) ∨ (k = j ∧ b = true ∧ p = false ∧ q = true) := by
 unfold ch at h
 cases b <;> cases p <;> cases q <;> simp at h
 ·exact .inl ⟨h, rfl⟩
 ·exact .inl ⟨h, rfl⟩
 ·exact .inl ⟨h, rfl⟩
 ·exact .inl ⟨h, rfl⟩
 ·exact .inr ⟨h, rfl, rfl, rfl⟩
theorem rdy_mem {b0 p0 b1 p1 b2 p2 b3 p3 : Bool} {i : Nat} (h : i ∈ rdy b0 p0 b1 p1 b2 p2 b3 p3) (hn : (p0 && p1 && p2 && p3) = false) : ((i = 2 ∧ b0 = false) ∨ (i = 5 ∧ b0 = true ∧ p0 = false)) ∨ ((i = 6 ∧ b1 = false) ∨ (i = 9 ∧ b1 = true ∧ p1 = false)) ∨ ((i = 10 ∧ b2 = false) ∨ (i = 13 ∧ b2 = true ∧ p2 = false)) ∨ ((i = 14 ∧ b3 = false) ∨ (i = 17 ∧ b3 = true ∧ p3 = false)) := by
 unfold rdy at h
 have d : ∀ {i j k : Nat} {q b p : Bool}, k ∈ ch i j q b p → (k = i ∧ b = false) ∨ (k = j ∧ b = true ∧ p = false) := fun h => (ch_mem h).imp id (fun h => ⟨h.1, h.2.1, h.2.2.1⟩)
 rcases List.mem_append.1 h with h | h
 ·exact .inl (d h)
 rcases List.mem_append.1 h with h | h
 ·exact .inr (.inl (d h))
 rcases List.mem_append.1 h with h | h
 ·exact .inr (.inr (.inl (d h)))
 rcases List.mem_append.1 h with h | h
 ·exact .inr (.inr (.inr (d h)))
 ·rw [hn] at h; cases h
theorem rdy_ne : ∀ b0 p0 b1 p1 b2 p2 b3 p3 : Bool, rdy b0 p0 b1 p1 b2 p2 b3 p3 ≠ [] := by decide +kernel
theorem cnt_zero {b0 p0 b1 p1 b2 p2 b3 p3 : Bool} (h : 0 = cnt b0 p0 b1 p1 b2 p2 b3 p3) : b0 = true ∧ p0 = true ∧ b1 = true ∧ p1 = true ∧ b2 = true ∧ p2 = true ∧ b3 = true ∧ p3 = true := by
 unfold cnt one at h
 cases b0 <;> cases p0 <;> cases b1 <;> cases p1 <;> cases b2 <;> cases p2 <;> cases b3 <;> cases p3 <;> simp at h ⊢
theorem cnt_succ {n : Nat} : ∀ {b0 p0 b1 p1 b2 p2 b3 p3 : Bool}, n + 1 = cnt b0 p0 b1 p1 b2 p2 b3 p3 → (p0 = true → b0 = true) → (p1 = true → b1 = true) → (p2 = true → b2 = true) → (p3 = true → b3 = true) → (p0 && p1 && p2 && p3) = false := by
 intro b0 p0 b1 p1 b2 p2 b3 p3 h h0 h1 h2 h3
 cases p0 <;> cases p1 <;> cases p2 <;> cases p3 <;> simp at h0 h1 h2 h3 ⊢
 subst h0 h1 h2 h3
 unfold cnt one at h
 simp at h
theorem wpOp_shut {P : Program} {ops : Array Oper} {Q : Exit → Act → World → Prop} {i : Nat} {K : Act → World → Prop} {a : Act} {w : World} {o : Oper} (ho : ops[i]? = some o)
  (h : ∀ K' : Act → World → Prop, Shut (∀ a w, K a w → K' a w) → if Region.wanted o (yielded ops a.tmps) = true then Oper.wp P o a w K' Q else K' (a.put o.dst undef) w) : wpOp P ops Q i K a w := by
 have := h K (fun a w h => h)
 unfold wpOp
 rw [ho]
 dsimp only
 by_cases hw : Region.wanted o (yielded ops a.tmps) = true
 ·rw [if_pos hw] at this ⊢; exact .inl this
 ·rw [if_neg hw] at this ⊢; exact this
def sel4 {α : Type} (a b c d : α) : Fin 4 → α
 | 0 => a
 | 1 => b
 | 2 => c
 | 3 => d
theorem R_fresh (w : World) (base : Nat) (hb : base ≤ w.heap.size) : Kd.R Kd.string 9 (w.alloc (.cells #[] 9)) base (fun _ => True) (.slice (some ⟨w.heap.size, 0, none⟩) 0 0) [] :=
 ⟨fun _ _ => trivial, [], World.ownsRow_made w #[] 0 hb (Nat.zero_le _) rfl, Reps.none _ _⟩
theorem cnt_b (b p : Fin 4 → Bool) (j : Fin 4) (h : b j = false) : cnt (set4 b j true 0) (p 0) (set4 b j true 1) (p 1) (set4 b j true 2) (p 2) (set4 b j true 3) (p 3) + 1 = cnt (b 0) (p 0) (b 1) (p 1) (b 2) (p 2) (b 3) (p 3) := by
 have t : one true = 0 := rfl
 have f : one false = 1 := rfl
 match j with
 | 0 => show cnt true (p 0) (b 1) (p 1) (b 2) (p 2) (b 3) (p 3) + 1 = _; rw [h]; unfold cnt; omega
 | 1 => show cnt (b 0) (p 0) true (p 1) (b 2) (p 2) (b 3) (p 3) + 1 = _; rw [h]; unfold cnt; omega
 | 2 => show cnt (b 0) (p 0) (b 1) (p 1) true (p 2) (b 3) (p 3) + 1 = _; rw [h]; unfold cnt; omega
 | 3 => show cnt (b 0) (p 0) (b 1) (p 1) (b 2) (p 2) true (p 3) + 1 = _; rw [h]; unfold cnt; omega
theorem cnt_p (b p : Fin 4 → Bool) (j : Fin 4) (h : p j = false) : cnt (b 0) (set4 p j true 0) (b 1) (set4 p j true 1) (b 2) (set4 p j true 2) (b 3) (set4 p j true 3) + 1 = cnt (b 0) (p 0) (b 1) (p 1) (b 2) (p 2) (b 3) (p 3) := by
 have t : one true = 0 := rfl
 have f : one false = 1 := rfl
 match j with
 | 0 => show cnt (b 0) true (b 1) (p 1) (b 2) (p 2) (b 3) (p 3) + 1 = _; rw [h]; unfold cnt; omega
 | 1 => show cnt (b 0) (p 0) (b 1) true (b 2) (p 2) (b 3) (p 3) + 1 = _; rw [h]; unfold cnt; omega
 | 2 => show cnt (b 0) (p 0) (b 1) (p 1) (b 2) true (b 3) (p 3) + 1 = _; rw [h]; unfold cnt; omega
 | 3 => show cnt (b 0) (p 0) (b 1) (p 1) (b 2) (p 2) (b 3) true + 1 = _; rw [h]; unfold cnt; omega
structure I4 (w0 : World) (xs : Fin 4 → List ByteArray) (n : Nat) (b p : Fin 4 → Bool) (X Y v : Fin 4 → Value) (W : World) : Prop where
 n : n = cnt (b 0) (p 0) (b 1) (p 1) (b 2) (p 2) (b 3) (p 3)
 bp : ∀ j, p j = true → b j = true
 X : ∀ j, b j = true → p j = false → X j = v j
 Y : ∀ j, p j = true → Y j = v j
 four : Four W w0.heap.size b p v xs
 bel : Below w0.heap.size w0 W
section
variable {w0 W : World} {xs : Fin 4 → List ByteArray} {n : Nat} {b p : Fin 4 → Bool} {X Y v : Fin 4 → Value}
theorem I4.alloc (h : I4 w0 xs (n + 1) b p X Y v W) (j : Fin 4) (hj : b j = false) :
  I4 w0 xs n (set4 b j true) p (set4 X j (.slice (some ⟨W.heap.size, 0, none⟩) 0 0)) Y (set4 v j (.slice (some ⟨W.heap.size, 0, none⟩) 0 0)) (W.alloc (.cells #[] 9)) := by
 have hp : p j = false := by
  cases e : p j with
  | false => rfl
  | true => rw [h.bp j e] at hj; cases hj
 refine ⟨by have := cnt_b b p j hj; have := h.n; omega, fun i hi => ?_, fun i hi hi' => ?_, fun i hi => ?_, h.four.alloc h.bel.size j hp (R_fresh W _ h.bel.size), h.bel.alloc h.bel.size _⟩
 ·by_cases e : i = j
  ·subst e; exact set4_same _ _ _
  ·rw [set4_other _ _ e]; exact h.bp i hi
 ·by_cases e : i = j
  ·subst e; rw [set4_same, set4_same]
  ·rw [set4_other _ _ e] at hi; rw [set4_other _ _ e, set4_other _ _ e]; exact h.X i hi hi'
 ·by_cases e : i = j
  ·subst e; rw [hp] at hi; cases hi
  ·rw [set4_other _ _ e]; exact h.Y i hi
theorem I4.append (h : I4 w0 xs (n + 1) b p X Y v W) (j : Fin 4) (hj : b j = true) (hj' : p j = false) {v1 : Value} {w1 : World} (hR : Kd.R Kd.string 9 w1 w0.heap.size (fun _ => True) v1 ([] ++ xs j)) (hb : Below w0.heap.size w0 w1) (hg : W.grownBy w1 (v j).ownBlock)
  (hat : v1.ownBlock = (v j).ownBlock ∨ ∃ b, v1.ownBlock = some b ∧ W.heap.size ≤ b) : I4 w0 xs n b (set4 p j true) X (set4 Y j v1) (set4 v j v1) w1 := by
 refine ⟨by have := cnt_p b p j hj'; have := h.n; omega, fun i hi => ?_, fun i hi hi' => ?_, fun i hi => ?_, h.four.append j hj hR hg hat, hb⟩
 ·by_cases e : i = j
  ·subst e; exact hj
  ·rw [set4_other _ _ e] at hi; exact h.bp i hi
 ·by_cases e : i = j
  ·subst e; rw [set4_same] at hi'; cases hi'
  ·rw [set4_other _ _ e] at hi'; rw [set4_other _ _ e]; exact h.X i hi hi'
 ·by_cases e : i = j
  ·subst e; rw [set4_same, set4_same]
  ·rw [set4_other _ _ e] at hi; rw [set4_other _ _ e, set4_other _ _ e]; exact h.Y i hi
theorem I4.row (h : I4 w0 xs (n + 1) b p X Y v W) (j : Fin 4) (hj : b j = true) (hj' : p j = false) : Kd.R Kd.string 9 W w0.heap.size (fun _ => True) (v j) [] := by
 have := h.four.row j hj
 rw [hj', if_neg (by decide)] at this
 exact this
theorem I4.nempty (h : I4 w0 xs (n + 1) b p X Y v W) : (p 0 && p 1 && p 2 && p 3) = false := cnt_succ h.n (h.bp 0) (h.bp 1) (h.bp 2) (h.bp 3)
theorem I4.done (h : I4 w0 xs 0 b p X Y v W) (j : Fin 4) : b j = true ∧ p j = true ∧ Kd.R Kd.string 9 W w0.heap.size (fun _ => True) (Y j) (xs j) := by
 obtain ⟨h0, g0, h1, g1, h2, g2, h3, g3⟩ := cnt_zero h.n
 have hp : p j = true := by
  match j with
  | 0 => exact g0
  | 1 => exact g1
  | 2 => exact g2
  | 3 => exact g3
 have := h.four.row j (h.bp j hp)
 rw [if_pos hp, ← h.Y j hp] at this
 exact ⟨h.bp j hp, hp, this⟩
end
theorem ready_step {md : Region.Mode} {ops : Array Oper} {L : Array Bool} {R : List Nat} {p : Nat → Prop} (h : Region.ready md ops L = R) (h1 : R ≠ []) (h2 : ∀ i ∈ R, p i) : Region.ready md ops L ≠ [] ∧ ∀ i ∈ Region.ready md ops L, p i := by
 rw [h]; exact ⟨h1, h2⟩
end Go.Proofs.YtnegfigaiomehaaGreatDoor.Of4
end
section
namespace Go.Proofs.YtnegfigaiomehaaGreatDoor.Of4
open Go.RowKit Go.Lib Go.Shelf Go.Maps Go.Proofs.YtnegfigaiomehaaGreatDoorW.PrintWords Go.Proofs.YtnegfigaiomehaaGreatDoor.U Go.Proofs.YtnegfigaiomehaaGreatDoor.P Go.Proofs.YtnegfigaiomehaaGreatDoor.Ck Go.Proofs.YtnegfigaiomehaaGreatDoor.Tp
def OfPost (m : List SE) (d : List ByteArray) (w : World) (x : Ending) (w' : World) : Prop :=
 ∃ A0 c0 A1 c1, x = .returned (.agg #[.slice A0 m.length c0, .slice A1 d.length c1]) ∧ (m.length ≤ c0 ∧ Kd.C KE w' A0 m.length m) ∧ (d.length ≤ c1 ∧ Kd.C Kd.string w' A1 d.length d) ∧ Below w.heap.size w w'
def conv (x : SR) : SE := ⟨x.f0, x.f1, x.f2, x.f3, x.f4, x.f5⟩
theorem infoStr16 : (Tryz.prog.info? 9).map (fun i => (i.zero, i.size, i.bytes)) = some (some (.string ⟨#[]⟩), 1, 16) := by kernel_rfl
theorem infoEdge6 : (Tryz.prog.info? 35).map (fun i => (i.zero, i.size, i.bytes)) = some (some (.agg #[.slice none 0 0, .slice none 0 0, .slice none 0 0, .slice none 0 0, .string ⟨#[]⟩, .string ⟨#[]⟩]), 6, 128) := by kernel_rfl
structure SmallE (x : SR) : Prop where
 l0 : x.f0.length ≤ 1000
 l1 : x.f1.length ≤ 1000
 l2 : x.f2.length ≤ 1000
 l3 : x.f3.length ≤ 1000
set_option maxRecDepth 100000 in
set_option maxHeartbeats 16000000 in
theorem of_any (e : List SR) (d : List ByteArray) (A0 A1 : Option Addr) (c0 c1 : Nat) (w : World) (h0 : e.length ≤ c0) (g0 : Kd.C KR w A0 e.length e) (h1 : d.length ≤ c1) (g1 : Kd.C Kd.string w A1 d.length d) (hn : e.length ≤ 1000) (hd : d.length ≤ 1000) (hx : ∀ x ∈ e, SmallE x) :
  Calls Tryz.prog 5 #[.agg #[.slice A0 e.length c0, .slice A1 d.length c1]] w (OfPost (e.map conv) d w) := by
 have hu25 := Tryz.underlying25
 have hu32 := Tryz.underlying32
 have hu42 := Tryz.underlying51
 have hu47 := Tryz.underlying35
 have hG := Lib.hid g0
 have hXS := Lib.hid hx
 have hB0 : Hid (Below w.heap.size w ((w.alloc (.cells #[.slice A0 e.length c0, .slice A1 d.length c1] 25)).alloc (.cells #[.slice none 0 0, .slice none 0 0] 32))) := Lib.hid (by (repeat (first | exact Below.refl _ _ | refine Below.drew ?_ | refine Below.setCell ?_ (by simp <;> omega) _ | refine Below.alloc ?_ (by simp <;> omega) _)))
 have hb0 : Hid (((w.alloc (.cells #[.slice A0 e.length c0, .slice A1 d.length c1] 25)).alloc (.cells #[.slice none 0 0, .slice none 0 0] 32)).heap[w.heap.size]? = some (.cells #[.slice A0 e.length c0, .slice A1 d.length c1] 25 (0, 0))) := Lib.hid ((heapAt_lt (by simp only [World.size_alloc]; omega)).trans (heapAt_eq rfl))
 have hr0 : Hid (((w.alloc (.cells #[.slice A0 e.length c0, .slice A1 d.length c1] 25)).alloc (.cells #[.slice none 0 0, .slice none 0 0] 32)).heap[w.heap.size + 1]? = some (.cells #[.slice none 0 0, .slice none 0 0] 32 (0, 0))) := Lib.hid (heapAt_eq (by simp only [World.size_alloc]))
 have hz0 : ((w.alloc (.cells #[.slice A0 e.length c0, .slice A1 d.length c1] 25)).alloc (.cells #[.slice none 0 0, .slice none 0 0] 32)).heap.size = w.heap.size + 1 + 1 := by simp
 have hC1 := Lib.hid (Kd.C_below g1 (hB0.out.alloc hB0.out.size (.cells #[] 9)))
 have hF0 := Lib.hid (R_fresh ((w.alloc (.cells #[.slice A0 e.length c0, .slice A1 d.length c1] 25)).alloc (.cells #[.slice none 0 0, .slice none 0 0] 32)) (w.heap.size + 1 + 1) (by rw [hz0]; exact Nat.le_refl _))
 have hBf : Hid (Below (w.heap.size + 1 + 1) ((w.alloc (.cells #[.slice A0 e.length c0, .slice A1 d.length c1] 25)).alloc (.cells #[.slice none 0 0, .slice none 0 0] 32)) (((w.alloc (.cells #[.slice A0 e.length c0, .slice A1 d.length c1] 25)).alloc (.cells #[.slice none 0 0, .slice none 0 0] 32)).alloc (.cells #[] 9))) := Lib.hid ((Below.refl _ _).alloc (by rw [hz0]; exact Nat.le_refl _) _)
 clear g0 g1 hx
 go_enter Tryz.func5, Tryz.ntmps5
 go_wp2_with (at_builtin; go_must (refine Kd.R_append_rows Kd.string (Rr := fun (x : ByteArray) cs => cs = [.string x]) (w0 := (w.alloc (.cells #[.slice A0 e.length c0, .slice A1 d.length c1] 25)).alloc (.cells #[.slice none 0 0, .slice none 0 0] 32)) (W := ((w.alloc (.cells #[.slice A0 e.length c0, .slice A1 d.length c1] 25)).alloc (.cells #[.slice none 0 0, .slice none 0 0] 32)).alloc (.cells #[] 9)) (w.heap.size + 1 + 1) rfl _ _ 23 9 (.string ⟨#[]⟩) 16 rfl Tryz.underlying23 infoStr16 rfl (by decide) (by decide) (.slice (some ⟨w.heap.size + 1 + 1, 0, none⟩) 0 0) [] d A1 d.length c1 (fun _ => True) (fun _ => False) rfl rfl (by have := hF0.out; rw [hz0] at this; exact this) hC1.out (fun _ _ h => h) (fun _ h => h.elim) (fun _ _ => trivial) hBf.out (by simp only [World.size_alloc]; omega) (by rw [List.length_nil]; omega) ?_))
 intro v1 w1 hR hb hg hat
 obtain ⟨B1, cb, rfl⟩ := Kd.R_slice hR
 have hbox1 := Lib.hid ((hb.block _ (by omega)).trans hb0.out)
 have hres1 := Lib.hid ((hb.block _ (by omega)).trans hr0.out)
 have hB1 := Lib.hid (hB0.out.trans (hb.mono (by omega)))
 have hz1 : w.heap.size + 1 + 1 ≤ w1.heap.size := by have := hb.size; omega
 have hD1 := Lib.hid (Kd.R_lower hR (by omega : w.heap.size ≤ w.heap.size + 1 + 1))
 clear hR hb hg hat hBf hF0 hC1 hB0 hb0 hr0 hz0
 have hB2 : Hid (Below w.heap.size w (w1.alloc (.cells #[.slice none 0 0, .slice B1 d.length cb] 32))) := Lib.hid (hB1.out.alloc hB1.out.size _)
 have hbox2 : Hid ((w1.alloc (.cells #[.slice none 0 0, .slice B1 d.length cb] 32)).heap[w.heap.size]? = some (.cells #[.slice A0 e.length c0, .slice A1 d.length c1] 25 (0, 0))) := Lib.hid ((heapAt_lt (by omega)).trans hbox1.out)
 have hres2 : Hid ((w1.alloc (.cells #[.slice none 0 0, .slice B1 d.length cb] 32)).heap[w.heap.size + 1]? = some (.cells #[.slice none 0 0, .slice none 0 0] 32 (0, 0))) := Lib.hid ((heapAt_lt (by omega)).trans hres1.out)
 have hout2 : Hid ((w1.alloc (.cells #[.slice none 0 0, .slice B1 d.length cb] 32)).heap[w1.heap.size]? = some (.cells #[.slice none 0 0, .slice B1 d.length cb] 32 (0, 0))) := heap_alloc_new _ _
 have hD2 : Hid (Kd.R Kd.string 9 (w1.alloc (.cells #[.slice none 0 0, .slice B1 d.length cb] 32)) w.heap.size (fun _ => True) (.slice B1 d.length cb) d) := Lib.hid (R_kept hD1.out fun k hk => heapAt_lt (Kd.R_lt hD1.out k hk))
 obtain ⟨bo, hbo⟩ : ∃ bo, w1.heap.size = bo := ⟨_, rfl⟩
 go_wp2_with fail
 rw [hbo] at hout2
 go_loopg [4] e.length (fun gk s4 wr => ∃ (i : Nat) (A : Option Addr) (c : Nat), s4 = .int .i64 (i : Int) ∧ i + gk = e.length ∧ Hid (Below w.heap.size w wr) ∧ Hid (wr.heap[w.heap.size]? = some (.cells #[.slice A0 e.length c0, .slice A1 d.length c1] 25 (0, 0))) ∧ Hid (wr.heap[w.heap.size + 1]? = some (.cells #[.slice none 0 0, .slice none 0 0] 32 (0, 0))) ∧ Hid (wr.heap[bo]? = some (.cells #[.slice A i c, .slice B1 d.length cb] 32 (0, 0))) ∧ Hid (Kd.R Kd.string 9 wr w.heap.size (fun _ => True) (.slice B1 d.length cb) d) ∧ Hid (Kd.R KE 35 wr w.heap.size (fun _ => True) (.slice A i c) ((e.take i).map conv)))
 case atStart => exact ⟨0, none, 0, rfl, Nat.zero_add _, hB2, hbox2, hres2, hout2, hD2, Lib.hid (Kd.R_nil _ _ _ _ _)⟩
 case round =>
  clear hB2 hbox2 hres2 hout2 hD2 hbox1 hres1 hB1 hD1
  obtain ⟨i, A, c, rfl, hik, hB, hm, hr, ho, hD, hE⟩ := hrel
  have m0 := (cell_of_heap (j := 0) hm.out).trans rfl
  have m1 := (cell_of_heap (j := 1) hm.out).trans rfl
  have r0 := (cell_of_heap (j := 0) hr.out).trans rfl
  have r1 := (cell_of_heap (j := 1) hr.out).trans rfl
  have o0 := (cell_of_heap (j := 0) ho.out).trans rfl
  have o1 := (cell_of_heap (j := 1) ho.out).trans rfl
  have rf0 := frozen_of_heap hr.out 0
  have rf1 := frozen_of_heap hr.out 1
  have z0 := lt_blk hm.out
  have z1 := lt_blk hr.out
  have z2 := lt_blk ho.out
  cases gk with
  | zero =>
   obtain rfl : i = e.length := by omega
   have hlt : decide ((e.length : Int) < (e.length : Int)) = false := by simp
   have hne : ∀ W : World, ∀ k cells t, W.heap[w.heap.size + 1]? = some (.cells #[.slice none 0 0, .slice none 0 0] 32 (0, 0)) → W.heap[k]? = some (.cells cells t (0, 0)) → t ≠ 32 → k ≠ w.heap.size + 1 := by
    rintro W k cells t h1 h2 h3 rfl
    rw [h1] at h2
    injection h2 with h2
    injection h2 with _ h2 _
    exact h3 h2.symm
   go_wp2_with fail
   refine bodyPost_ret (results_cell_row rfl _ _ (w.heap.size + 1) 32 #[.slice A e.length c, .slice B1 d.length cb] (0, 0) _ rfl (blk_put (blk_put hr.out 0 _ rfl) 1 _ rfl) Tryz.underlying32 rfl (by kernel_rfl)) rfl ?_
   have hst : ∀ k, k ≠ w.heap.size + 1 → ((wr.setCell ⟨w.heap.size + 1, 0, none⟩ (.slice A e.length c)).setCell ⟨w.heap.size + 1, 1, none⟩ (.slice B1 d.length cb)).heap[k]? = wr.heap[k]? := fun k hk => by rw [Below.heap_setCell _ _ _ k hk, Below.heap_setCell _ _ _ k hk]
   have hBf : Below w.heap.size w ((wr.setCell ⟨w.heap.size + 1, 0, none⟩ (.slice A e.length c)).setCell ⟨w.heap.size + 1, 1, none⟩ (.slice B1 d.length cb)) := (hB.out.setCell (by show _ ≤ w.heap.size + 1; omega) _).setCell (by show _ ≤ w.heap.size + 1; omega) _
   generalize (wr.setCell ⟨w.heap.size + 1, 0, none⟩ (.slice A e.length c)).setCell ⟨w.heap.size + 1, 1, none⟩ (.slice B1 d.length cb) = wf at *
   have hEF' : Kd.R KE 35 wf w.heap.size (fun _ => True) (.slice A e.length c) (e.map conv) := by
    have h := hE.out
    rw [List.take_length] at h
    exact Kd.R_mono (Kd.R_move (Kd.R_bound h) (fun k hk => by
     obtain ⟨_, _, _, q, hq, cells, hc⟩ := hk
     exact hst k (hne wr k cells q hr.out hc ((by decide : ∀ q, q ∈ 35 :: KE.E → q ≠ 32) q hq)))) (fun _ _ => trivial)
   obtain ⟨A', c', he, q0, q1⟩ := Kd.R_reads hEF'
   rw [List.length_map] at he q0 q1
   injection he with e1 _ e3
   subst e1 e3
   have hD' := R_kept (w' := wf) hD.out fun k hk => by
    obtain ⟨inner, hin⟩ := Kd.R_own hD.out
    obtain ⟨cs, hcs⟩ := own_typed hin k hk
    exact hst k (hne wr k cs _ hr.out hcs (by decide))
   obtain ⟨A2, c2, he2, q2, q3⟩ := Kd.R_reads hD'
   injection he2 with e1 _ e3
   subst e1 e3
   exact ⟨A, c, B1, cb, by rw [List.length_map], by rw [List.length_map]; exact ⟨q0, q1⟩, ⟨q2, q3⟩, hBf⟩
  | succ gk =>
   have hi : i < e.length := by omega
   have hlt : decide ((i : Int) < (e.length : Int)) = true := by rw [decide_eq_true_iff]; omega
   have i1 : (0 : Int) ≤ (i : Int) := by omega
   have i2 : (i : Int) < (e.length : Int) := by omega
   obtain ⟨ad, a0, d0, a1, d1, a2, d2, a3, d3, rfl, k0, k1, k2, k3, k4, k5, l0, g0, l1, g1, l2, g2, l3, g3⟩ := at_T51 hG.out (i : Int) i1 (by omega)
   rw [Int.toNat_natCast] at k0 k1 k2 k3 k4 k5
   have hx0 : rd_T51 e (i : Int) = e[i] := by
    show e.getD (i : Int).toNat _ = _
    rw [Int.toNat_natCast, List.getD_eq_getElem?_getD, List.getElem?_eq_getElem hi]; rfl
   rw [hx0] at k0 k1 k2 k3 k4 k5 l0 g0 l1 g1 l2 g2 l3 g3
   have hsm := Lib.hid (hXS.out e[i] (List.getElem_mem hi))
   have htk : Hid (e.take (i + 1) = e.take i ++ [e[i]]) := List.take_succ_eq_append_getElem hi
   generalize e[i] = x at *
   replace k0 := below_cell hB.out k0
   replace k1 := below_cell hB.out k1
   replace k2 := below_cell hB.out k2
   replace k3 := below_cell hB.out k3
   replace k4 := below_cell hB.out k4
   replace k5 := below_cell hB.out k5
   have hg0 := Lib.hid (fun W (hW : Below w.heap.size w W) => Kd.C_below g0 hW)
   have hg1 := Lib.hid (fun W (hW : Below w.heap.size w W) => Kd.C_below g1 hW)
   have hg2 := Lib.hid (fun W (hW : Below w.heap.size w W) => Kd.C_below g2 hW)
   have hg3 := Lib.hid (fun W (hW : Below w.heap.size w W) => Kd.C_below g3 hW)
   clear g0 g1 g2 g3 hx0 r0 r1 rf0 rf1
   have hW5 : Hid (Below w.heap.size w (wr.alloc (.cells #[.slice a0 x.f0.length d0, .slice a1 x.f1.length d1, .slice a2 x.f2.length d2, .slice a3 x.f3.length d3, .string x.f4, .string x.f5] 51))) := Lib.hid (hB.out.alloc hB.out.size _)
   have hEc : Hid ((wr.alloc (.cells #[.slice a0 x.f0.length d0, .slice a1 x.f1.length d1, .slice a2 x.f2.length d2, .slice a3 x.f3.length d3, .string x.f4, .string x.f5] 51)).heap[wr.heap.size]? = some (.cells #[.slice a0 x.f0.length d0, .slice a1 x.f1.length d1, .slice a2 x.f2.length d2, .slice a3 x.f3.length d3, .string x.f4, .string x.f5] 51 (0, 0))) := heap_alloc_new _ _
   have hm5 := Lib.hid ((heapAt_lt (o := .cells #[.slice a0 x.f0.length d0, .slice a1 x.f1.length d1, .slice a2 x.f2.length d2, .slice a3 x.f3.length d3, .string x.f4, .string x.f5] 51) z0).trans hm.out)
   have hr5 := Lib.hid ((heapAt_lt (o := .cells #[.slice a0 x.f0.length d0, .slice a1 x.f1.length d1, .slice a2 x.f2.length d2, .slice a3 x.f3.length d3, .string x.f4, .string x.f5] 51) z1).trans hr.out)
   have ho5 := Lib.hid ((heapAt_lt (o := .cells #[.slice a0 x.f0.length d0, .slice a1 x.f1.length d1, .slice a2 x.f2.length d2, .slice a3 x.f3.length d3, .string x.f4, .string x.f5] 51) z2).trans ho.out)
   have hD5 : Hid (Kd.R Kd.string 9 (wr.alloc (.cells #[.slice a0 x.f0.length d0, .slice a1 x.f1.length d1, .slice a2 x.f2.length d2, .slice a3 x.f3.length d3, .string x.f4, .string x.f5] 51)) w.heap.size (fun _ => True) (.slice B1 d.length cb) d) := Lib.hid (R_kept hD.out fun k hk => heapAt_lt (Kd.R_lt hD.out k hk))
   have hE5 : Hid (Kd.R KE 35 (wr.alloc (.cells #[.slice a0 x.f0.length d0, .slice a1 x.f1.length d1, .slice a2 x.f2.length d2, .slice a3 x.f3.length d3, .string x.f4, .string x.f5] 51)) w.heap.size (fun _ => True) (.slice A i c) ((e.take i).map conv)) := Lib.hid (Kd.R_below hE.out ((Below.refl _ _).alloc (Nat.le_refl _) _))
   have hbe : wr.heap.size < (wr.alloc (.cells #[.slice a0 x.f0.length d0, .slice a1 x.f1.length d1, .slice a2 x.f2.length d2, .slice a3 x.f3.length d3, .string x.f4, .string x.f5] 51)).heap.size := by simp
   go_upto_region 6 with (fail)
   clear hm hr ho hD hE k0 k1 k2 k3 k4 k5 m0 m1 o0 o1 hB
   obtain ⟨be, hbeq⟩ : ∃ be, wr.heap.size = be := ⟨_, rfl⟩
   generalize wr.alloc (.cells #[.slice a0 x.f0.length d0, .slice a1 x.f1.length d1, .slice a2 x.f2.length d2, .slice a3 x.f3.length d3, .string x.f4, .string x.f5] 51) = W5 at *
   rw [hbeq] at hEc hbe ⊢
   clear hbeq z0 z1 z2
   have hS : Hid (∀ W, Below W5.heap.size W5 W → (fun w' => w'.cell? ⟨be, 0, none⟩ = some (.slice a0 x.f0.length d0) ∧ w'.cell? ⟨be, 1, none⟩ = some (.slice a1 x.f1.length d1) ∧ w'.cell? ⟨be, 2, none⟩ = some (.slice a2 x.f2.length d2) ∧ w'.cell? ⟨be, 3, none⟩ = some (.slice a3 x.f3.length d3) ∧ w'.cell? ⟨be, 4, none⟩ = some (.string x.f4) ∧ w'.cell? ⟨be, 5, none⟩ = some (.string x.f5) ∧ w'.cell? ⟨bo, 0, none⟩ = some (.slice A i c)) W) := Lib.hid (fun W hW => ⟨(cell_of_heap (j := 0) ((hW.block _ (lt_blk hEc.out)).trans hEc.out)).trans rfl, (cell_of_heap (j := 1) ((hW.block _ (lt_blk hEc.out)).trans hEc.out)).trans rfl, (cell_of_heap (j := 2) ((hW.block _ (lt_blk hEc.out)).trans hEc.out)).trans rfl, (cell_of_heap (j := 3) ((hW.block _ (lt_blk hEc.out)).trans hEc.out)).trans rfl, (cell_of_heap (j := 4) ((hW.block _ (lt_blk hEc.out)).trans hEc.out)).trans rfl, (cell_of_heap (j := 5) ((hW.block _ (lt_blk hEc.out)).trans hEc.out)).trans rfl, (cell_of_heap (j := 0) ((hW.block _ (lt_blk ho5.out)).trans ho5.out)).trans rfl⟩)
   have hO : Hid (∀ W, Below W5.heap.size W5 W → W.heap[bo]? = some (.cells #[.slice A i c, .slice B1 d.length cb] 32 (0, 0))) := Lib.hid (fun W hW => (hW.block _ (lt_blk ho5.out)).trans ho5.out)
   refine RegI.regionI (fun w' => w'.cell? ⟨be, 0, none⟩ = some (.slice a0 x.f0.length d0) ∧ w'.cell? ⟨be, 1, none⟩ = some (.slice a1 x.f1.length d1) ∧ w'.cell? ⟨be, 2, none⟩ = some (.slice a2 x.f2.length d2) ∧ w'.cell? ⟨be, 3, none⟩ = some (.slice a3 x.f3.length d3) ∧ w'.cell? ⟨be, 4, none⟩ = some (.string x.f4) ∧ w'.cell? ⟨be, 5, none⟩ = some (.string x.f5) ∧ w'.cell? ⟨bo, 0, none⟩ = some (.slice A i c)) 26 [(0, 0), (1, 1), (0, 3), (1, 4), (0, 7), (1, 8), (0, 11), (1, 12), (0, 15), (1, 16), (0, 18), (1, 19), (0, 20), (1, 21)] [(0, 22), (2, 23), (2, 24), (0, 25), (3, 26)] 8 (Larr true true true true true true true true) (fun n l a W => ∃ (b p : Fin 4 → Bool) (X Y v : Fin 4 → Value), l = Larr (b 0) (p 0) (b 1) (p 1) (b 2) (p 2) (b 3) (p 3) ∧ a = { tmps := #[.agg #[.slice (some ad) e.length c0, .slice A1 d.length c1], .pointer (some ⟨w.heap.size, 0, none⟩), .pointer (some ⟨w.heap.size + 1, 0, none⟩), .pointer (some ⟨bo, 0, none⟩), .int .i64 (i : Int), .pointer (some ⟨be, 0, none⟩), .slice (some ⟨w.heap.size + 1 + 1, 0, none⟩) 0 0, .pointer (some ⟨w.heap.size, 1, none⟩), .slice A1 d.length c1, .slice B1 d.length cb, .agg #[.slice none 0 0, .slice B1 d.length cb], .int .i64 (i : Int), .pointer (some ⟨w.heap.size, 0, none⟩), .slice (some ad) e.length c0, .int .i64 (e.length : Int), .bool true, u16, u17, .pointer (some ⟨w.heap.size, 0, none⟩), .slice (some ad) e.length c0, .int .i64 (i : Int), .pointer (some (ad.add (i * 6))), .agg #[.slice a0 x.f0.length d0, .slice a1 x.f1.length d1, .slice a2 x.f2.length d2, .slice a3 x.f3.length d3, .string x.f4, .string x.f5], .pointer (some ⟨bo, 0, none⟩), .slice A i c, X 0, .pointer (some ⟨be, 0, none⟩), .slice a0 x.f0.length d0, Y 0, X 1, .pointer (some ⟨be, 1, none⟩), .slice a1 x.f1.length d1, Y 1, X 2, .pointer (some ⟨be, 2, none⟩), .slice a2 x.f2.length d2, Y 2, X 3, .pointer (some ⟨be, 3, none⟩), .slice a3 x.f3.length d3, Y 3, .pointer (some ⟨be, 4, none⟩), .string x.f4, .pointer (some ⟨be, 5, none⟩), .string x.f5, u45, u46, u47, u48, undef], defers := [] } ∧ I4 W5 (sel4 x.f0 x.f1 x.f2 x.f3) n b p X Y v W)
    (by kernel_rfl) (by kernel_rfl) (by rfl) (by kernel_rfl) (by kernel_rfl) (by exact hS.out _ (Below.refl _ _).drew) ?hd ?hst ?hpre
   case hpre =>
    refine RegI.p0 (by (simp only [gA,gB,gC]); rfl) (by exact fun _ _ _ h => h) (by rfl) (by intro w'; go_simp; try with_reducible rfl) ?_
    try simp only [Act.put, pA,pB,pC]
    refine RegI.p1 (by (simp only [gA,gB,gC]); rfl) (by exact fun _ _ _ h => h) (by rfl) (by intro w' hS_; (try dsimp only at hS_); go_split_ands; go_simp; try with_reducible rfl) ?_
    try simp only [Act.put, pA,pB,pC]
    refine RegI.p0 (by (simp only [gA,gB,gC]); rfl) (by exact fun _ _ _ h => h) (by rfl) (by intro w'; go_simp; try with_reducible rfl) ?_
    try simp only [Act.put, pA,pB,pC]
    refine RegI.p1 (by (simp only [gA,gB,gC]); rfl) (by exact fun _ _ _ h => h) (by rfl) (by intro w' hS_; (try dsimp only at hS_); go_split_ands; go_simp; try with_reducible rfl) ?_
    try simp only [Act.put, pA,pB,pC]
    refine RegI.p0 (by (simp only [gA,gB,gC]); rfl) (by exact fun _ _ _ h => h) (by rfl) (by intro w'; go_simp; try with_reducible rfl) ?_
    try simp only [Act.put, pA,pB,pC]
    refine RegI.p1 (by (simp only [gA,gB,gC]); rfl) (by exact fun _ _ _ h => h) (by rfl) (by intro w' hS_; (try dsimp only at hS_); go_split_ands; go_simp; try with_reducible rfl) ?_
    try simp only [Act.put, pA,pB,pC]
    refine RegI.p0 (by (simp only [gA,gB,gC]); rfl) (by exact fun _ _ _ h => h) (by rfl) (by intro w'; go_simp; try with_reducible rfl) ?_
    try simp only [Act.put, pA,pB,pC]
    refine RegI.p1 (by (simp only [gA,gB,gC]); rfl) (by exact fun _ _ _ h => h) (by rfl) (by intro w' hS_; (try dsimp only at hS_); go_split_ands; go_simp; try with_reducible rfl) ?_
    try simp only [Act.put, pA,pB,pC]
    refine RegI.p0 (by (simp only [gA,gB,gC]); rfl) (by exact fun _ _ _ h => h) (by rfl) (by intro w'; go_simp; try with_reducible rfl) ?_
    try simp only [Act.put, pA,pB,pC]
    refine RegI.p1 (by (simp only [gA,gB,gC]); rfl) (by exact fun _ _ _ h => h) (by rfl) (by intro w' hS_; (try dsimp only at hS_); go_split_ands; go_simp; try with_reducible rfl) ?_
    try simp only [Act.put, pA,pB,pC]
    refine RegI.p0 (by (simp only [gA,gB,gC]); rfl) (by exact fun _ _ _ h => h) (by rfl) (by intro w'; go_simp; try with_reducible rfl) ?_
    try simp only [Act.put, pA,pB,pC]
    refine RegI.p1 (by (simp only [gA,gB,gC]); rfl) (by exact fun _ _ _ h => h) (by rfl) (by intro w' hS_; (try dsimp only at hS_); go_split_ands; go_simp; try with_reducible rfl) ?_
    try simp only [Act.put, pA,pB,pC]
    refine RegI.p0 (by (simp only [gA,gB,gC]); rfl) (by exact fun _ _ _ h => h) (by rfl) (by intro w'; go_simp; try with_reducible rfl) ?_
    try simp only [Act.put, pA,pB,pC]
    refine RegI.p1 (by (simp only [gA,gB,gC]); rfl) (by exact fun _ _ _ h => h) (by rfl) (by intro w' hS_; (try dsimp only at hS_); go_split_ands; go_simp; try with_reducible rfl) ?_
    try simp only [Act.put, pA,pB,pC]
    refine RegI.pe ⟨fun _ => false, fun _ => false, sel4 u25 u29 u33 u37, sel4 u28 u32 u36 u40, fun _ => .bool false, rfl, rfl, rfl, fun _ h => h, fun _ h => (by cases h), fun _ h => (by cases h), ⟨fun _ h => (by cases h), fun _ _ => rfl, fun _ _ _ _ h => (by cases h)⟩, (Below.refl _ _).drew⟩
   case hd =>
    rintro l a W ⟨b, p, X, Y, v, rfl, rfl, hI⟩
    obtain ⟨eb0, ep0, hy0⟩ := hI.done 0
    obtain ⟨eb1, ep1, hy1⟩ := hI.done 1
    obtain ⟨eb2, ep2, hy2⟩ := hI.done 2
    obtain ⟨eb3, ep3, hy3⟩ := hI.done 3
    refine ⟨by rw [eb0, eb1, eb2, eb3, ep0, ep1, ep2, ep3], hS.out _ hI.bel, ?_⟩
    have hIH := Lib.hid hI
    have hWW := Lib.hid (hW5.out.trans (hI.bel.mono hW5.out.size))
    have hWs : w.heap.size ≤ W.heap.size := hWW.out.size
    have hEW : Hid (Kd.R KE 35 W w.heap.size (fun _ => True) (.slice A i c) ((e.take i).map conv)) := Lib.hid (Kd.R_below hE5.out hI.bel)
    have hrow : Hid (∀ b, (Value.slice A i c).ownBlock = some b → b < W5.heap.size) := Lib.hid (fun b hb => ((Kd.R_bound hE5.out).1 b hb).2.2.1)
    have hDW : Hid (Kd.R Kd.string 9 W w.heap.size (fun _ => True) (.slice B1 d.length cb) d) := Lib.hid (R_kept hD5.out fun k hk => hI.bel.block _ (Kd.R_lt hD5.out k hk))
    have hmW := Lib.hid ((hI.bel.block _ (lt_blk hm5.out)).trans hm5.out)
    have hrW := Lib.hid ((hI.bel.block _ (lt_blk hr5.out)).trans hr5.out)
    have hoW := Lib.hid ((hI.bel.block _ (lt_blk ho5.out)).trans ho5.out)
    have heW := Lib.hid ((hI.bel.block _ (lt_blk hEc.out)).trans hEc.out)
    have hle : w.heap.size ≤ W5.heap.size := hW5.out.size
    have hr_0 := Lib.hid hy0
    have hr_1 := Lib.hid hy1
    have hr_2 := Lib.hid hy2
    have hr_3 := Lib.hid hy3
    obtain ⟨Y0, y0, hY0⟩ := Kd.R_slice hy0
    obtain ⟨Y1, y1, hY1⟩ := Kd.R_slice hy1
    obtain ⟨Y2, y2, hY2⟩ := Kd.R_slice hy2
    obtain ⟨Y3, y3, hY3⟩ := Kd.R_slice hy3
    rw [hY0] at hr_0
    rw [hY1] at hr_1
    rw [hY2] at hr_2
    rw [hY3] at hr_3
    have hln : ((e.take i).map conv).length = i := by rw [List.length_map, List.length_take]; omega
    clear hI hy0 hy1 hy2 hy3 hD5 hE5 hm5 hr5 ho5 hO
    refine RegP.pure1 (by (simp only [gA,gB,gC]); rfl) (by exact fun _ _ _ h => h) (by rfl) (by intro w'; go_simp; try with_reducible rfl) ?_
    try simp only [Act.put, pA,pB,pC]
    refine RegP.ev1 (by (simp only [gA,gB,gC]); rfl) (fun K hK => ?_)
    go_simp
    refine hK.out _ _ ?_ (fun hHeld => ?_)
    ·exact hS.out _ (hIH.out.bel.alloc hIH.out.bel.size _)
    clear hK K hHeld
    try simp only [Act.put, pA,pB,pC]
    refine RegP.ev1 (by (simp only [gA,gB,gC]); rfl) (fun K hK => ?_)
    have hMx : KE.M W w.heap.size (fun k => True ∧ some k ≠ (Value.slice A i c).ownBlock) (conv x) [.slice Y0 (sel4 x.f0 x.f1 x.f2 x.f3 0).length y0, .slice Y1 (sel4 x.f0 x.f1 x.f2 x.f3 1).length y1, .slice Y2 (sel4 x.f0 x.f1 x.f2 x.f3 2).length y2, .slice Y3 (sel4 x.f0 x.f1 x.f2 x.f3 3).length y3, .string x.f4, .string x.f5] := k35_mkM W w.heap.size _ (conv x) (Kd.R_mono (Kd.R_lower (Kd.R_bound hr_0.out) hle) (fun k hk => ⟨trivial, fun e => by have := hrow.out _ e.symm; have := hk.2.1; omega⟩)) (Kd.R_mono (Kd.R_lower (Kd.R_bound hr_1.out) hle) (fun k hk => ⟨trivial, fun e => by have := hrow.out _ e.symm; have := hk.2.1; omega⟩)) (Kd.R_mono (Kd.R_lower (Kd.R_bound hr_2.out) hle) (fun k hk => ⟨trivial, fun e => by have := hrow.out _ e.symm; have := hk.2.1; omega⟩)) (Kd.R_mono (Kd.R_lower (Kd.R_bound hr_3.out) hle) (fun k hk => ⟨trivial, fun e => by have := hrow.out _ e.symm; have := hk.2.1; omega⟩))
    refine Kd.R_append_step KE (w0 := w) (W := W) w.heap.size rfl _ _ 30 35 (.agg #[.slice none 0 0, .slice none 0 0, .slice none 0 0, .slice none 0 0, .string ⟨#[]⟩, .string ⟨#[]⟩]) 128 rfl Tryz.underlying30 infoEdge6 rfl (by decide) (by decide) (.slice A i c) ((e.take i).map conv) (conv x) [.slice Y0 (sel4 x.f0 x.f1 x.f2 x.f3 0).length y0, .slice Y1 (sel4 x.f0 x.f1 x.f2 x.f3 1).length y1, .slice Y2 (sel4 x.f0 x.f1 x.f2 x.f3 2).length y2, .slice Y3 (sel4 x.f0 x.f1 x.f2 x.f3 3).length y3, .string x.f4, .string x.f5] (fun _ => True) _ rfl rfl hMx (fun _ h => h) (fun _ _ => trivial) hEW.out (hWW.out) hWs (by rw [hln]; omega) ?_
    intro v9 w9 ho hb hg hat
    obtain ⟨A9, c9, rfl⟩ := Kd.R_slice ho
    have hl9 : ((e.take i).map conv ++ [conv x]).length = i + 1 := by rw [List.length_append, hln]; rfl
    rw [hl9] at ho ⊢
    have hkeep : ∀ (k : Nat) (cells : Array Value) (t : TypeId), W.heap[k]? = some (.cells cells t (0, 0)) → t ≠ 35 → w9.heap[k]? = some (.cells cells t (0, 0)) := fun k cells t hk ht => (hg.block k (lt_blk hk) (fun q => by
     obtain ⟨inner, hin⟩ := Kd.R_own hEW.out
     obtain ⟨cs', hcs'⟩ := own_typed hin k q.symm
     rw [hk] at hcs'
     injection hcs' with q
     injection q with _ q _
     exact ht q)).trans hk
    have hEF9 := Lib.hid ho
    have he9 := Lib.hid (hkeep _ _ _ heW.out (by decide))
    have ho9 := Lib.hid (hkeep _ _ _ hoW.out (by decide))
    have hm9 := Lib.hid (hkeep _ _ _ hmW.out (by decide))
    have hr9 := Lib.hid (hkeep _ _ _ hrW.out (by decide))
    have hD9 : Hid (Kd.R Kd.string 9 w9 w.heap.size (fun _ => True) (.slice B1 d.length cb) d) := Lib.hid (R_kept hDW.out fun k hk => by
     obtain ⟨inner, hin⟩ := Kd.R_own hDW.out
     obtain ⟨cs, hcs⟩ := own_typed hin k hk
     exact (hkeep k cs _ hcs (by decide)).trans hcs.symm)
    have hb9 := Lib.hid hb
    have o9 := (cell_of_heap (j := 0) ho9.out).trans rfl
    have of9 := frozen_of_heap ho9.out 0
    clear hkeep ho hb hg hat hMx hl9
    refine hK.out _ _ ?_ (fun hHeld => ?_)
    ·exact ⟨(cell_of_heap (j := 0) he9.out).trans rfl, (cell_of_heap (j := 1) he9.out).trans rfl, (cell_of_heap (j := 2) he9.out).trans rfl, (cell_of_heap (j := 3) he9.out).trans rfl, (cell_of_heap (j := 4) he9.out).trans rfl, (cell_of_heap (j := 5) he9.out).trans rfl, (cell_of_heap (j := 0) ho9.out).trans rfl⟩
    clear hK K hHeld
    try simp only [Act.put, pA,pB,pC]
    refine RegP.pure1 (by (simp only [gA,gB,gC]); rfl) (by exact fun _ _ _ h => h) (by rfl) (by intro w'; go_simp; try with_reducible rfl) ?_
    try simp only [Act.put, pA,pB,pC]
    refine RegP.last1 (by (simp only [gA,gB,gC]); rfl) (fun K hK => ?_)
    go_simp
    refine hK.out _ _ ?_
    clear hK K
    try simp only [Act.put, pA,pB,pC]
    refine RegP.done1 ?_
    have hbw : w.heap.size < bo := by omega
    have hbr : w.heap.size + 1 < bo := by omega
    have hst : ∀ k : Nat, k ≠ bo → (w9.setCell ⟨bo, 0, none⟩ (.slice A9 (i + 1) c9)).heap[k]? = w9.heap[k]? := fun k hk => Below.heap_setCell _ _ _ k hk
    have hty : ∀ (k : Nat) (cs : Array Value) (t : TypeId), w9.heap[k]? = some (.cells cs t (0, 0)) → t ≠ 32 → k ≠ bo := by
     rintro k cs t h1 h2 rfl
     rw [ho9.out] at h1
     injection h1 with h1
     injection h1 with _ h1 _
     exact h2 h1.symm
    have hB10 : Hid (Below w.heap.size w (w9.setCell ⟨bo, 0, none⟩ (.slice A9 (i + 1) c9))) := Lib.hid (hb9.out.setCell (by show _ ≤ bo; omega) _)
    have hm10 := Lib.hid ((hst _ (by omega)).trans hm9.out)
    have hr10 := Lib.hid ((hst _ (by omega)).trans hr9.out)
    have ho10 := Lib.hid (blk_put ho9.out 0 (.slice A9 (i + 1) c9) rfl)
    have hD10 : Hid (Kd.R Kd.string 9 (w9.setCell ⟨bo, 0, none⟩ (.slice A9 (i + 1) c9)) w.heap.size (fun _ => True) (.slice B1 d.length cb) d) := Lib.hid (R_kept hD9.out fun k hk => by
     obtain ⟨inner, hin⟩ := Kd.R_own hD9.out
     obtain ⟨cs, hcs⟩ := own_typed hin k hk
     exact hst k (hty k cs _ hcs (by decide)))
    have hE10 : Hid (Kd.R KE 35 (w9.setCell ⟨bo, 0, none⟩ (.slice A9 (i + 1) c9)) w.heap.size (fun _ => True) (.slice A9 (i + 1) c9) ((e.take (i + 1)).map conv)) := by
     rw [htk.out, List.map_append, List.map_cons, List.map_nil]
     exact Lib.hid (Kd.R_set hEF9.out ho9.out (by decide) 0 _)
    clear hrow hst hty hD9 hr9 hm9 ho9 he9 o9 of9 hb9 hEF9 hEW hDW hmW hrW hoW heW hr_0 hr_1 hr_2 hr_3 hS hIH hWW
    go_wp2_with fail
    go_roundg gk
    case measure => omega
    case rel => exact ⟨i + 1, A9, c9, by simp, by omega, hB10, hm10, hr10, ho10, hD10, hE10⟩
   case hst =>
    rintro n l a W ⟨b, p, X, Y, v, rfl, rfl, hI⟩
    have hIH := Lib.hid hI
    refine ready_step (R := rdy (b 0) (p 0) (b 1) (p 1) (b 2) (p 2) (b 3) (p 3)) (by generalize b 0 = b0; generalize b 1 = b1; generalize b 2 = b2; generalize b 3 = b3; generalize p 0 = p0; generalize p 1 = p1; generalize p 2 = p2; generalize p 3 = p3; revert b0 p0 b1 p1 b2 p2 b3 p3; decide +kernel) (rdy_ne _ _ _ _ _ _ _ _) (fun q hq => ?_)
    have hq := rdy_mem hq hI.nempty
    clear hI
    rcases hq with ((⟨rfl, hj⟩ | ⟨rfl, hj, hj'⟩) | (⟨rfl, hj⟩ | ⟨rfl, hj, hj'⟩) | (⟨rfl, hj⟩ | ⟨rfl, hj, hj'⟩) | (⟨rfl, hj⟩ | ⟨rfl, hj, hj'⟩))
    ·refine wpOp_shut (by (simp only [gA,gB,gC]); rfl) (fun K hK => ?_)
     go_simp
     refine hK.out _ _ ⟨hS.out _ (hIH.out.alloc 0 hj).bel, ⟨_, _, _, _, _, ?_, ?_, hIH.out.alloc 0 hj⟩⟩
     ·rfl
     ·rfl
    ·refine wpOp_shut (by (simp only [gA,gB,gC]); rfl) (fun K hK => ?_)
     refine Kd.R_append_rows_step Kd.string (Rr := fun (x : ByteArray) cs => cs = [.string x]) (w0 := W5) W5.heap.size (by rfl) _ _ 23 9 (.string ⟨#[]⟩) 16 rfl Tryz.underlying23 infoStr16 rfl (by decide) (by decide) (v 0) [] x.f0 a0 x.f0.length d0 (fun _ => True) (fun _ => False) (by rw [← hIH.out.X 0 hj hj']; rfl) rfl (hIH.out.row 0 hj hj') (hg0.out _ (hW5.out.trans (hIH.out.bel.mono hW5.out.size))) (fun _ _ h => h) (fun _ h => h.elim) (fun _ _ => trivial) hIH.out.bel hIH.out.bel.size (by have := hsm.out.l0; rw [List.length_nil]; omega) ?_
     intro v1 w1 hR hb hg hat
     have hIn := hIH.out.append 0 hj hj' hR hb hg hat
     refine hK.out _ _ ⟨hS.out _ hb, ⟨_, _, _, _, _, ?_, ?_, hIn⟩⟩
     ·rfl
     ·rfl
    ·refine wpOp_shut (by (simp only [gA,gB,gC]); rfl) (fun K hK => ?_)
     go_simp
     refine hK.out _ _ ⟨hS.out _ (hIH.out.alloc 1 hj).bel, ⟨_, _, _, _, _, ?_, ?_, hIH.out.alloc 1 hj⟩⟩
     ·rfl
     ·rfl
    ·refine wpOp_shut (by (simp only [gA,gB,gC]); rfl) (fun K hK => ?_)
     refine Kd.R_append_rows_step Kd.string (Rr := fun (x : ByteArray) cs => cs = [.string x]) (w0 := W5) W5.heap.size (by rfl) _ _ 23 9 (.string ⟨#[]⟩) 16 rfl Tryz.underlying23 infoStr16 rfl (by decide) (by decide) (v 1) [] x.f1 a1 x.f1.length d1 (fun _ => True) (fun _ => False) (by rw [← hIH.out.X 1 hj hj']; rfl) rfl (hIH.out.row 1 hj hj') (hg1.out _ (hW5.out.trans (hIH.out.bel.mono hW5.out.size))) (fun _ _ h => h) (fun _ h => h.elim) (fun _ _ => trivial) hIH.out.bel hIH.out.bel.size (by have := hsm.out.l1; rw [List.length_nil]; omega) ?_
     intro v1 w1 hR hb hg hat
     have hIn := hIH.out.append 1 hj hj' hR hb hg hat
     refine hK.out _ _ ⟨hS.out _ hb, ⟨_, _, _, _, _, ?_, ?_, hIn⟩⟩
     ·rfl
     ·rfl
    ·refine wpOp_shut (by (simp only [gA,gB,gC]); rfl) (fun K hK => ?_)
     go_simp
     refine hK.out _ _ ⟨hS.out _ (hIH.out.alloc 2 hj).bel, ⟨_, _, _, _, _, ?_, ?_, hIH.out.alloc 2 hj⟩⟩
     ·rfl
     ·rfl
    ·refine wpOp_shut (by (simp only [gA,gB,gC]); rfl) (fun K hK => ?_)
     refine Kd.R_append_rows_step Kd.string (Rr := fun (x : ByteArray) cs => cs = [.string x]) (w0 := W5) W5.heap.size (by rfl) _ _ 23 9 (.string ⟨#[]⟩) 16 rfl Tryz.underlying23 infoStr16 rfl (by decide) (by decide) (v 2) [] x.f2 a2 x.f2.length d2 (fun _ => True) (fun _ => False) (by rw [← hIH.out.X 2 hj hj']; rfl) rfl (hIH.out.row 2 hj hj') (hg2.out _ (hW5.out.trans (hIH.out.bel.mono hW5.out.size))) (fun _ _ h => h) (fun _ h => h.elim) (fun _ _ => trivial) hIH.out.bel hIH.out.bel.size (by have := hsm.out.l2; rw [List.length_nil]; omega) ?_
     intro v1 w1 hR hb hg hat
     have hIn := hIH.out.append 2 hj hj' hR hb hg hat
     refine hK.out _ _ ⟨hS.out _ hb, ⟨_, _, _, _, _, ?_, ?_, hIn⟩⟩
     ·rfl
     ·rfl
    ·refine wpOp_shut (by (simp only [gA,gB,gC]); rfl) (fun K hK => ?_)
     go_simp
     refine hK.out _ _ ⟨hS.out _ (hIH.out.alloc 3 hj).bel, ⟨_, _, _, _, _, ?_, ?_, hIH.out.alloc 3 hj⟩⟩
     ·rfl
     ·rfl
    ·refine wpOp_shut (by (simp only [gA,gB,gC]); rfl) (fun K hK => ?_)
     refine Kd.R_append_rows_step Kd.string (Rr := fun (x : ByteArray) cs => cs = [.string x]) (w0 := W5) W5.heap.size (by rfl) _ _ 23 9 (.string ⟨#[]⟩) 16 rfl Tryz.underlying23 infoStr16 rfl (by decide) (by decide) (v 3) [] x.f3 a3 x.f3.length d3 (fun _ => True) (fun _ => False) (by rw [← hIH.out.X 3 hj hj']; rfl) rfl (hIH.out.row 3 hj hj') (hg3.out _ (hW5.out.trans (hIH.out.bel.mono hW5.out.size))) (fun _ _ h => h) (fun _ h => h.elim) (fun _ _ => trivial) hIH.out.bel hIH.out.bel.size (by have := hsm.out.l3; rw [List.length_nil]; omega) ?_
     intro v1 w1 hR hb hg hat
     have hIn := hIH.out.append 3 hj hj' hR hb hg hat
     refine hK.out _ _ ⟨hS.out _ hb, ⟨_, _, _, _, _, ?_, ?_, hIn⟩⟩
     ·rfl
     ·rfl
end Go.Proofs.YtnegfigaiomehaaGreatDoor.Of4
end
section
namespace Go.Proofs.YtnegfigaiomehaaGreatDoor.Tp
open Go.RowKit Go.Lib Go.Shelf Go.Maps Go.Proofs.YtnegfigaiomehaaGreatDoorW.PrintWords Go.Proofs.YtnegfigaiomehaaGreatDoorW.PrintLast Go.Proofs.YtnegfigaiomehaaGreatDoorW.PrintMore Go.Proofs.YtnegfigaiomehaaGreatDoor.U Go.Proofs.YtnegfigaiomehaaGreatDoor.P Go.Proofs.YtnegfigaiomehaaGreatDoor.MapV Go.Proofs.YtnegfigaiomehaaGreatDoor.Ck
theorem infoEdge : (Tryz.prog.info? 35).map (fun i => (i.zero, i.size, i.bytes)) = some (some (.agg #[.slice none 0 0, .slice none 0 0, .slice none 0 0, .slice none 0 0, .string ⟨#[]⟩, .string ⟨#[]⟩]), 6, 128) := by kernel_rfl
theorem infoRow : (Tryz.prog.info? 57).map (fun i => (i.zero, i.size, i.bytes)) = some (some (.slice none 0 0), 1, 24) := by kernel_rfl
structure NewA (w : World) (p mb : Nat) (es : List EdgeL) (defs : List Txt) (k i : Nat) (fs : List Txt) (q : Nat) (wr : World) : Prop where
 blk : ∃ AE cE AD cD, wr.heap[p]? = some (.cells #[.slice AE k cE, .slice AD defs.length cD, .map (some mb), .slice none 0 0] 86 (0, 0)) ∧ Kd.R Kd.string 9 wr (p + 1) (fun _ => True) (.slice AD defs.length cD) (defs.map B) ∧ Kd.R KE 35 wr (p + 1) (fun _ => True) (.slice AE k cE) ((es.take k).map toE)
 own : OwnsV wr mb q (putV (makerV (es.take i)) fs i)
 nd : ((es.take i).flatMap EdgeL.outs ++ fs).Nodup
 bel : Below w.heap.size w wr
theorem NewA.below {w : World} {p mb : Nat} {es : List EdgeL} {defs : List Txt} {k i : Nat} {fs : List Txt} {q : Nat} {wr w' : World} (h : NewA w p mb es defs k i fs q wr) (hb : Below wr.heap.size wr w') : NewA w p mb es defs k i fs q w' := by
 obtain ⟨⟨AE, cE, AD, cD, h1, h3, h4⟩, h5, h6, h7⟩ := h
 exact ⟨⟨AE, cE, AD, cD, below_blk hb h1, Kd.R_below h3 hb, Kd.R_below h4 hb⟩, h5.same (hb.block _ h5.lt), h6, h7.trans (hb.mono h7.size)⟩
theorem NewA.store {w : World} {p mb : Nat} {es : List EdgeL} {defs : List Txt} {k i : Nat} {fs : List Txt} {q : Nat} {wr w' : World} (h : NewA w p mb es defs k i fs q wr) (x : Txt) (hx : x ∉ (es.take i).flatMap EdgeL.outs ++ fs) (hmp : mb < p) (hwm : w.heap.size ≤ mb)
  (ho : OwnsV w' mb (q + 1) (updV (putV (makerV (es.take i)) fs i) x (.int .i64 (i : Int)))) (hg : wr.grownBy w' (some mb)) : NewA w p mb es defs k i (fs ++ [x]) (q + 1) w' := by
 obtain ⟨⟨AE, cE, AD, cD, h1, h3, h4⟩, h5, h6, h7⟩ := h
 refine ⟨⟨AE, cE, AD, cD, (hg.block p (lt_blk h1) (by simp; omega)).trans h1, R_old h3 fun k hk hlt => hg.block k hlt (by simp; omega), R_old h4 fun k hk hlt => hg.block k hlt (by simp; omega)⟩, by rw [← putV_add]; exact ho, ?_, h7.grown hg h7.size (fun k hk => by injection hk with hk; omega)⟩
 rw [← List.append_assoc, List.nodup_append]
 exact ⟨h6, by simp, fun a ha b hb => by rintro rfl; rw [List.mem_singleton] at hb; exact hx (hb ▸ ha)⟩
structure NewB (W2 : World) (p mb n : Nat) (vE vD : Value) (es : List EdgeL) (i : Nat) (s11 : Value) (wj : World) : Prop where
 blk : ∃ A3 c3, wj.heap[p]? = some (.cells #[vE, vD, .map (some mb), .slice A3 i c3] 86 (0, 0)) ∧ Kd.R KI 57 wj W2.heap.size (fun k => some k ≠ s11.ownBlock) (.slice A3 i c3) (aheadRow es i)
 all : Kd.R (Kd.int .i64) 3 wj W2.heap.size (fun _ => True) s11 (intsN (List.range i))
 but : But p W2 wj
theorem but_grownR {o : Nat} {a b c : World} {r : Option Nat} (h : But o a b) (g : b.grownBy c r) (hr : ∀ k, r = some k → a.heap.size ≤ k) : But o a c :=
 ⟨g.os.trans h.os, g.tape.trans h.tape, g.output.trans h.output, Nat.le_trans h.size g.size, fun i hi hne => (g.block i (Nat.lt_of_lt_of_le hi h.size) (fun e => by have := hr _ e.symm; omega)).trans (h.same i hi hne)⟩
theorem but_growB {o : Nat} {a b c : World} (h : But o a b) (k : Below b.heap.size b c) : But o a c := but_grownR h (grown_below k none) (fun _ h => by cases h)
theorem but_low {o : Nat} {w a b : World} (hb : Below w.heap.size w a) (h : But o a b) (ho : w.heap.size ≤ o) : Below w.heap.size w b :=
 ⟨h.os.trans hb.os, h.tape.trans hb.tape, h.output.trans hb.output, Nat.le_trans hb.size h.size, fun k hk => (h.same k (Nat.lt_of_lt_of_le hk hb.size) (by omega)).trans (hb.block k hk)⟩
end Go.Proofs.YtnegfigaiomehaaGreatDoor.Tp
end
section
namespace Go.Proofs.YtnegfigaiomehaaGreatDoor.Tp
open Go.RowKit Go.Lib Go.Shelf Go.Maps Go.Proofs.YtnegfigaiomehaaGreatDoorW.PrintWords Go.Proofs.YtnegfigaiomehaaGreatDoorW.PrintLast Go.Proofs.YtnegfigaiomehaaGreatDoorW.PrintMore Go.Proofs.YtnegfigaiomehaaGreatDoor.U Go.Proofs.YtnegfigaiomehaaGreatDoor.P Go.Proofs.YtnegfigaiomehaaGreatDoor.MapV Go.Proofs.YtnegfigaiomehaaGreatDoor.Ck
set_option maxRecDepth 100000 in
set_option maxHeartbeats 16000000 in
theorem New_any (es : List EdgeL) (defs : List Txt) (A : Option Addr) (c : Nat) (vD : Value) (w : World) (hC : Kd.C KE w A es.length (es.map toE)) (hD : Str w vD defs) (hE : es.length ≤ 100) (hd : defs.length ≤ 1000) (hF : ∀ e ∈ es, Few4 e) (hO : ∀ e ∈ es, e.outs.length ≤ 1000) (hN : ∀ e ∈ es, (needsL e).length ≤ 1000) (hx : ∀ e ∈ es, ∀ f, f ∈ e.outs ∨ f ∈ needsL e → f.length ≤ 100000) :
  Calls Tryz.prog 14 #[.agg #[.slice A es.length c, vD]] w (Built es defs w) := by
 obtain ⟨AD, cD, rfl, hlD, hCD⟩ := hD
 have hmm := @run_makeMap Tryz.prog
 obtain ⟨n, hn⟩ : ∃ n, es.length = n := ⟨_, rfl⟩
 obtain ⟨W0, hW0⟩ : ∃ W0, ((w.alloc (.cells #[.slice A n c, .slice AD defs.length cD] 32)).alloc (.map #[] 0)).alloc (.cells #[.slice none 0 0, .slice none 0 0, .map (some (w.heap.size + 1)), .slice none 0 0] 86) = W0 := ⟨_, rfl⟩
 have hs0 : W0.heap.size = w.heap.size + 1 + 1 + 1 := by rw [← hW0]; simp
 have hb0 : Below w.heap.size w W0 := by
  rw [← hW0]
  have h1 := (Below.refl w.heap.size w).alloc (Nat.le_refl _) (.cells #[.slice A n c, .slice AD defs.length cD] 32)
  have h2 := h1.alloc h1.size (.map #[] 0)
  exact h2.alloc h2.size _
 have hz : W0.heap[w.heap.size]? = some (.cells #[.slice A n c, .slice AD defs.length cD] 32 (0, 0)) := by
  have h1 := heap_alloc_new w (.cells #[.slice A n c, .slice AD defs.length cD] 32)
  have h2 := (Below.refl (w.alloc (.cells #[.slice A n c, .slice AD defs.length cD] 32)).heap.size (w.alloc (.cells #[.slice A n c, .slice AD defs.length cD] 32))).alloc (Nat.le_refl _) (.map #[] 0)
  have h3 := h2.alloc h2.size (.cells #[.slice none 0 0, .slice none 0 0, .map (some (w.heap.size + 1)), .slice none 0 0] 86)
  rw [hW0] at h3
  exact below_blk h3 h1
 have hg0 : W0.heap[w.heap.size + 1 + 1]? = some (.cells #[.slice none 0 0, .slice none 0 0, .map (some (w.heap.size + 1)), .slice none 0 0] 86 (0, 0)) := by
  have h1 := heap_alloc_new ((w.alloc (.cells #[.slice A n c, .slice AD defs.length cD] 32)).alloc (.map #[] 0)) (.cells #[.slice none 0 0, .slice none 0 0, .map (some (w.heap.size + 1)), .slice none 0 0] 86)
  rw [hW0] at h1
  simpa using h1
 have hm0 : OwnsV W0 (w.heap.size + 1) 0 noneV := by
  have h1 := OwnsV.made (w.alloc (.cells #[.slice A n c, .slice AD defs.length cD] 32))
  rw [World.size_alloc] at h1
  have h2 := (Below.refl ((w.alloc (.cells #[.slice A n c, .slice AD defs.length cD] 32)).alloc (.map #[] 0)).heap.size ((w.alloc (.cells #[.slice A n c, .slice AD defs.length cD] 32)).alloc (.map #[] 0))).alloc (Nat.le_refl _) (.cells #[.slice none 0 0, .slice none 0 0, .map (some (w.heap.size + 1)), .slice none 0 0] 86)
  rw [hW0] at h2
  exact h1.same (h2.block _ h1.lt)
 have hcl := Lib.hid (Clone_any (.slice AD defs.length cD) defs W0 ⟨AD, cD, rfl, hlD, Kd.C_below hCD hb0⟩ (by omega))
 have z1 := (cell_of_heap (j := 1) hz).trans rfl
 have hnH := Lib.hid hn
 have hCH := Lib.hid hC
 have hFH := Lib.hid hF
 have hOH := Lib.hid hO
 have hNH := Lib.hid hN
 have hxH := Lib.hid hx
 have hW0H := Lib.hid hW0
 have hs0H := Lib.hid hs0
 have hb0H := Lib.hid hb0
 have hzH := Lib.hid hz
 have hg0H := Lib.hid hg0
 have hm0H := Lib.hid hm0
 rw [hn] at hE ⊢
 clear hn hC hF hO hN hx hW0 hs0 hb0 hz hg0 hm0 hCD hlD
 go_enter Tryz.func14, Tryz.ntmps14
 go_upto_region 2 with (fail)
 rw [hW0H.out]
 clear hmm hW0H
 go_wp2_with fail
 refine hcl.out.mono ?_
 rintro e w1 ⟨v, rfl, hR, hb⟩
 obtain ⟨A1, c1, rfl⟩ := Kd.R_slice hR
 rw [List.length_map] at hR ⊢
 have hRH := Lib.hid hR
 have hbH := Lib.hid hb
 have hg1 := Lib.hid (below_blk hb hg0H.out)
 have hm1 := Lib.hid (hm0H.out.same (hb.block _ hm0H.out.lt))
 have hz1 := Lib.hid (below_blk hb hzH.out)
 have hB1 := Lib.hid (hb0H.out.trans (hb.mono hb0H.out.size))
 clear hR hb hcl z1
 have x1 := (cell_of_heap (j := 1) hg1.out).trans rfl
 have f1 := frozen_of_heap hg1.out 1
 go_upto_region 3 with (fail)
 clear x1 f1
 obtain ⟨p, hp⟩ : ∃ p, w.heap.size + 1 + 1 = p := ⟨_, rfl⟩
 obtain ⟨mb, hmb⟩ : ∃ p, w.heap.size + 1 = p := ⟨_, rfl⟩
 have hmp : Hid (mb < p) := Lib.hid (by omega)
 have hwm : Hid (w.heap.size ≤ mb) := Lib.hid (by omega)
 have hs1 : Hid (W0.heap.size = p + 1) := Lib.hid (by have := hs0H.out; omega)
 obtain ⟨s, hs⟩ : ∃ s, w.heap.size = s := ⟨_, rfl⟩
 have hsH := Lib.hid hs
 have hA1 : Hid (NewA w p mb es defs 0 0 [] 0 (w1.setCell ⟨p, 1, none⟩ (.slice A1 defs.length c1))) := by
  have hg2 := hg1.out
  have hm2 := hm1.out
  rw [hp, hmb] at hg2
  rw [hmb] at hm2
  have hR2 := hRH.out
  rw [hs1.out] at hR2
  refine Lib.hid ⟨⟨none, 0, A1, c1, blk_put hg2 1 _ rfl, R_set_old hR2 _ (by omega), Kd.R_nil _ _ _ _ _⟩, ?_, by simp, hB1.out.setCell (by show w.heap.size ≤ p; omega) _⟩
  rw [putV_nil, List.take_zero, makerV_nil]
  exact hm2.same (Below.heap_setCell w1 ⟨p, 1, none⟩ _ mb (by show mb ≠ p; have := hmp.out; omega))
 have hz2 : Hid ((w1.setCell ⟨p, 1, none⟩ (.slice A1 defs.length c1)).heap[s]? = some (.cells #[.slice A n c, .slice AD defs.length cD] 32 (0, 0))) := by
  rw [← hs]
  exact Lib.hid ((Below.heap_setCell w1 ⟨p, 1, none⟩ _ w.heap.size (by show w.heap.size ≠ p; omega)).trans hz1.out)
 rw [hp, hs]
 clear hg1 hm1 hz1 hRH hB1 hg0H hm0H hb0H hs0H hzH hs1 hbH
 have hswH := Lib.hid (show s ≤ mb by omega)
 clear hs hp hmb
 have x0 := (cell_of_heap (j := 0) hz2.out).trans rfl
 generalize w1.setCell ⟨p, 1, none⟩ (.slice A1 defs.length c1) = W1 at *
 go_wp2_with fail
 clear x0
 go_loopg [27] n (fun gk s27 wr => ∃ i q : Nat, s27 = .int .i64 (i : Int) ∧ i + gk = n ∧ q ≤ 1000 * i ∧ Hid (NewA w p mb es defs i i [] q wr))
 case atStart => exact ⟨0, 0, rfl, Nat.zero_add _, Nat.zero_le _, hA1⟩
 case round =>
  obtain ⟨i, q, rfl, hik, hq, hA⟩ := hrel
  clear hA1 hz2
  obtain ⟨go, rfl⟩ : ∃ g, g = gk := ⟨_, rfl⟩
  cases go with
  | zero =>
   obtain rfl : i = n := by omega
   have hlt : decide ((i : Int) < (i : Int)) = false := by simp
   obtain ⟨AE, cE, AD1, cD1, hgb, hRD, hRE⟩ := hA.out.blk
   have hRDH := Lib.hid hRD
   have hREH : Hid (Kd.R KE 35 wr (p + 1) (fun _ => True) (.slice AE i cE) (es.map toE)) := by
    rw [List.take_of_length_le (by rw [hnH.out]; exact Nat.le_refl _)] at hRE
    exact Lib.hid hRE
   have hgH := Lib.hid hgb
   have hMk : Hid (OwnsV wr mb q (makerV es)) := by
    have h := hA.out.own
    rw [putV_nil, List.take_of_length_le (by rw [hnH.out]; exact Nat.le_refl _)] at h
    exact Lib.hid h
   have hOn : Hid (Once es) := by
    have h := hA.out.nd
    rw [List.append_nil, List.take_of_length_le (by rw [hnH.out]; exact Nat.le_refl _)] at h
    exact Lib.hid h
   have hBw := Lib.hid hA.out.bel
   have x0 : wr.cell? ⟨p, 0, none⟩ = some (.slice AE i cE) := (cell_of_heap (j := 0) hgb).trans rfl
   clear hgb hRD hRE hA
   obtain ⟨n, rfl⟩ : ∃ n, n = i := ⟨_, rfl⟩
   obtain ⟨W2, rfl⟩ : ∃ x, x = wr := ⟨_, rfl⟩
   have hlp := Lib.hid (lt_blk hgH.out)
   have hlm := Lib.hid hMk.out.lt
   go_wp2_with fail
   clear x0 hlt
   go_loopg [11, 76] n (fun gk s11 s76 wj => ∃ i : Nat, s76 = .int .i64 (i : Int) ∧ i + gk = n ∧ Hid (NewB W2 p mb n (.slice AE n cE) (.slice AD1 defs.length cD1) es i s11 wj))
   case atStart => exact ⟨0, rfl, Nat.zero_add _, Lib.hid ⟨⟨none, 0, hgH.out, Kd.R_nil _ _ _ _ _⟩, Kd.R_nil _ _ _ _ _, But.refl _ _⟩⟩
   case round =>
    obtain ⟨i, rfl, hik, hNB⟩ := hrel
    have hREj := Lib.hid (R_old hREH.out (w1 := wr) (fun k hk hlt => hNB.out.but.same k hlt (by omega)))
    have hRDj := Lib.hid (R_old hRDH.out (w1 := wr) (fun k hk hlt => hNB.out.but.same k hlt (by omega)))
    have hMj := Lib.hid (hMk.out.same (hNB.out.but.same mb hlm.out (by have := hmp.out; omega)))
    have hBj := Lib.hid (but_low hBw.out hNB.out.but (by have := hmp.out; have := hwm.out; omega))
    obtain ⟨A11, c11, rfl⟩ := Kd.R_slice hNB.out.all
    have hl11 : (intsN (List.range i)).length = i := by rw [intsN_len, List.length_range]
    rw [hl11] at hNB ⊢
    obtain ⟨A3, c3, hgj, hR3⟩ := hNB.out.blk
    have hgjH := Lib.hid hgj
    have hR3H := Lib.hid hR3
    obtain ⟨AE', cE', he', hle', hCE⟩ := Kd.R_reads hREj.out
    injection he' with e1 e2 e3
    rw [← e1] at hCE
    rw [← e3] at hle'
    have hCEH : Hid (Kd.C KE wr AE n (es.map toE)) := by
     rw [← e2] at hCE; exact Lib.hid hCE
    have hcE : Hid (n ≤ cE) := by rw [← e2] at hle'; exact Lib.hid hle'
    clear hCE hle' e2 e1 e3
    have hMa : Hid (MakersAt wr p es) := Lib.hid ⟨_, _, _, mb, q, hgj, by omega, hMj.out⟩
    have hbn : Hid (∀ b, (Value.slice A11 i c11).ownBlock = some b → W2.heap.size ≤ b ∧ b < wr.heap.size) := Lib.hid (fun b hb => ⟨((Kd.R_bound hNB.out.all).1 b hb).2.1, ((Kd.R_bound hNB.out.all).1 b hb).2.2.1⟩)
    have hb3 : Hid (∀ b, (Value.slice A3 i c3).ownBlock = some b → W2.heap.size ≤ b ∧ b < wr.heap.size) := Lib.hid (fun b hb => ⟨((Kd.R_bound hR3).1 b hb).2.1, ((Kd.R_bound hR3).1 b hb).2.2.1⟩)
    have hall : Hid (Kd.R (Kd.int .i64) 3 wr W2.heap.size (fun _ => True) (.slice A11 i c11) (intsN (List.range i))) := Lib.hid hNB.out.all
    have hbut := Lib.hid hNB.out.but
    clear hgj hR3 hNB hl11
    cases gk with
    | zero =>
     obtain rfl : i = n := by omega
     have hlt3 : decide ((i : Int) < (i : Int)) = false := by simp
     have hGr : Hid (GraphAt wr p es defs) := by
      refine Lib.hid ⟨AE, cE, AD1, cD1, mb, A3, c3, by rw [hnH.out]; exact hgjH.out, by rw [hnH.out]; exact ⟨hcE.out, hCEH.out⟩, str_of_R hRDj.out, ⟨q, by omega, hMj.out⟩, ?_⟩
      obtain ⟨A3', c3', he3, hl3, hC3⟩ := Kd.R_reads hR3H.out
      injection he3 with e1 e2 e3
      rw [← e1] at hC3
      rw [← e3] at hl3
      rw [← e2] at hl3 hC3
      rw [hnH.out]
      exact ⟨hl3, hC3⟩
     have hIn : Hid (Ints wr (.slice A11 i c11) (List.range i)) := Lib.hid (ints_of_R hall.out)
     have hor := Lib.hid (order_any p es defs (List.range i) _ wr hGr.out (by rw [hnH.out]; omega) hIn.out (by rw [List.length_range]; omega) (fun k hk => by rw [hnH.out]; exact List.mem_range.1 hk) (aheadL_len es hNH.out))
     unfold ptr at hor
     go_wp2_with fail
     refine hor.out.mono ?_
     rintro e w3 ⟨v', out, rfl, hO, hR, hb⟩
     obtain ⟨A5, c5, rfl⟩ := Kd.R_slice hR
     rw [intsN_len]
     have hGr3 := Lib.hid (hGr.out.below hb)
     have hB3 := Lib.hid (hBj.out.trans (hb.mono hBj.out.size))
     have hOH := Lib.hid hO
     clear hR hb hO hor hlt3
     by_cases hlt4 : out.length < i
     ·have hd4 : decide ((out.length : Int) < (i : Int)) = true := by rw [decide_eq_true_iff]; omega
      have hno : Hid (¬ Ranked es) := Lib.hid (fun hr => by
       have h := order_full hr (out := out) (by rw [hnH.out]; exact hOH.out)
       rw [hnH.out] at h
       omega)
      go_wp2_with fail
      go_ret2
      exact ⟨hB3.out, .inr (.inl ⟨rfl, hno.out⟩)⟩
     ·have hd4 : decide ((out.length : Int) < (i : Int)) = false := by rw [decide_eq_false_iff_not]; omega
      have hrk : Hid (Ranked es) := Lib.hid (ranked_of (out := out) (by rw [hnH.out]; exact hOH.out) (by rw [hnH.out]; omega))
      go_wp2_with fail
      go_ret2
      exact ⟨hB3.out, .inr (.inr ⟨p, rfl, hOn.out, hrk.out, hGr3.out⟩)⟩
    | succ gk =>
     have hi : i < es.length := by rw [hnH.out]; omega
     have hlt3 : decide ((i : Int) < (n : Int)) = true := by rw [decide_eq_true_iff]; omega
     have i1 : (0 : Int) ≤ (i : Int) := by omega
     have i2 : (i : Int) < (n : Int) := by omega
     obtain ⟨ad, a0, d0, a1, d1, a2, d2, a3, d3, hAd, k0, k1, k2, k3, k4, k5, hed⟩ := edge_at hnH.out hCEH.out i hi
     subst hAd
     have hNe := hNH.out es[i] (List.getElem_mem hi)
     have hxe := Lib.hid (hxH.out es[i] (List.getElem_mem hi))
     have hrs : Hid (aheadRow es (i + 1) = aheadRow es i ++ [intsN (madeL es (needsL es[i]))]) := Lib.hid (aheadRow_succ es i hi)
     have hedH := Lib.hid hed
     clear hed
     generalize es[i] = e at *
     obtain ⟨wa, hwa⟩ : ∃ x, wr.alloc (.cells #[.slice a0 e.outs.length d0, .slice a1 e.ins.length d1, .slice a2 e.imp.length d2, .slice a3 e.ord.length d3, .string (B e.cmd), .string (B e.dep)] 35) = x := ⟨_, rfl⟩
     have hba : Below wr.heap.size wr wa := by rw [← hwa]; exact (Below.refl _ _).alloc (Nat.le_refl _) _
     have hxa := heap_alloc_new wr (.cells #[.slice a0 e.outs.length d0, .slice a1 e.ins.length d1, .slice a2 e.imp.length d2, .slice a3 e.ord.length d3, .string (B e.cmd), .string (B e.dep)] 35)
     rw [hwa] at hxa
     have hxaH := Lib.hid hxa
     have hwaH := Lib.hid hwa
     have hbaH := Lib.hid hba
     clear hba hxa hwa
     go_upto_region 20 with (fail)
     rw [hwaH.out]
     clear hwaH k0 k1 k2 k3 k4 k5
     obtain ⟨x, hxx⟩ : ∃ x, wr.heap.size = x := ⟨_, rfl⟩
     have hxxH := Lib.hid hxx
     rw [hxx]
     have hxa2 : Hid (wa.heap[x]? = some (.cells #[.slice a0 e.outs.length d0, .slice a1 e.ins.length d1, .slice a2 e.imp.length d2, .slice a3 e.ord.length d3, .string (B e.cmd), .string (B e.dep)] 35 (0, 0))) := by rw [← hxx]; exact hxaH
     have hb3x : Hid (∀ b, (Value.slice A3 i c3).ownBlock = some b → W2.heap.size ≤ b ∧ b < x) := by rw [← hxx]; exact hb3
     have hbnx : Hid (∀ b, (Value.slice A11 i c11).ownBlock = some b → W2.heap.size ≤ b ∧ b < x) := by rw [← hxx]; exact hbn
     have hxs : Hid (x ≤ wa.heap.size) := by rw [← hxx]; exact Lib.hid hbaH.out.size
     have hpx : Hid (p < x) := by rw [← hxx]; exact Lib.hid (lt_blk hgjH.out)
     have hWx : Hid (W2.heap.size ≤ x) := by rw [← hxx]; exact Lib.hid hbut.out.size
     clear hxaH hxx hb3 hbn
     have hgaH := Lib.hid (below_blk hbaH.out hgjH.out)
     have hR3a := Lib.hid (Kd.R_below hR3H.out hbaH.out)
     have hala := Lib.hid (Kd.R_below hall.out hbaH.out)
     have hMaa := Lib.hid (hMa.out.below hbaH.out)
     have heda := Lib.hid (hedH.out.below hbaH.out)
     have hbuta := Lib.hid (but_growB hbut.out hbaH.out)
     have hSS : Hid (∀ W' : World, W'.heap[p]? = some (.cells #[.slice (some ad) n cE, .slice AD1 defs.length cD1, .map (some mb), .slice A3 i c3] 86 (0, 0)) → W'.heap[x]? = some (.cells #[.slice a0 e.outs.length d0, .slice a1 e.ins.length d1, .slice a2 e.imp.length d2, .slice a3 e.ord.length d3, .string (B e.cmd), .string (B e.dep)] 35 (0, 0)) → (fun w' => w'.cell? ⟨p, 3, none⟩ = some (.slice A3 i c3) ∧ w'.cell? ⟨x, 0, none⟩ = some (.slice a0 e.outs.length d0) ∧ w'.cell? ⟨x, 1, none⟩ = some (.slice a1 e.ins.length d1) ∧ w'.cell? ⟨x, 2, none⟩ = some (.slice a2 e.imp.length d2) ∧ w'.cell? ⟨x, 3, none⟩ = some (.slice a3 e.ord.length d3) ∧ w'.cell? ⟨x, 4, none⟩ = some (.string (B e.cmd)) ∧ w'.cell? ⟨x, 5, none⟩ = some (.string (B e.dep))) W') := Lib.hid (fun W' h1 h2 => ⟨(cell_of_heap (j := 3) h1).trans rfl, (cell_of_heap (j := 0) h2).trans rfl, (cell_of_heap (j := 1) h2).trans rfl, (cell_of_heap (j := 2) h2).trans rfl, (cell_of_heap (j := 3) h2).trans rfl, (cell_of_heap (j := 4) h2).trans rfl, (cell_of_heap (j := 5) h2).trans rfl⟩)
     have hB0 : Hid (Below wa.heap.size wa wa.drew) := Lib.hid (Below.refl _ _).drew
     clear hR3H hall hMa hedH hgjH hREj hRDj hMj hBj hCEH hbut
     refine RegP.region (fun w' => w'.cell? ⟨p, 3, none⟩ = some (.slice A3 i c3) ∧ w'.cell? ⟨x, 0, none⟩ = some (.slice a0 e.outs.length d0) ∧ w'.cell? ⟨x, 1, none⟩ = some (.slice a1 e.ins.length d1) ∧ w'.cell? ⟨x, 2, none⟩ = some (.slice a2 e.imp.length d2) ∧ w'.cell? ⟨x, 3, none⟩ = some (.slice a3 e.ord.length d3) ∧ w'.cell? ⟨x, 4, none⟩ = some (.string (B e.cmd)) ∧ w'.cell? ⟨x, 5, none⟩ = some (.string (B e.dep))) 13 [(0, 0), (0, 1), (0, 2), (0, 3), (1, 4), (0, 5), (1, 6), (2, 7), (2, 8), (2, 9), (2, 10), (0, 11), (0, 12), (3, 13)] (by kernel_rfl) (by kernel_rfl) (by rfl) (by kernel_rfl) (by exact hSS.out _ (below_blk hB0.out hgaH.out) (below_blk hB0.out hxa2.out)) ?_
     repeat ((first | refine RegP.pu ?_ | refine RegP.he ?_ | refine RegP.sk ?_); try simp only [Act.put, pA,pB,pC])
     refine RegP.evq (fun K hK => ?_)
     go_simp
     refine (needs_any [.slice a0 e.outs.length d0, .slice a1 e.ins.length d1, .slice a2 e.imp.length d2, .slice a3 e.ord.length d3, .string (B e.cmd), .string (B e.dep)] e _ (heda.out.below hB0.out) (by omega)).mono ?_
     rintro x7 y1 ⟨v7, rfl, hR7, hb⟩
     obtain ⟨A7, c7, rfl⟩ := Kd.R_slice hR7
     have hB1 : Hid (Below wa.heap.size wa y1) := Lib.hid (hB0.out.trans (hb.mono hB0.out.size))
     have hR7H := Lib.hid (str_of_R hR7)
     rw [List.length_map] at hR7H ⊢
     clear hR7 hb
     refine hK.out _ _ ?_ (fun hHeld => ?_)
     ·(try dsimp only); exact hSS.out _ (below_blk hB1.out hgaH.out) (below_blk hB1.out hxa2.out)
     clear hK K
     try simp only [Act.put, pA,pB,pC]
     refine RegP.evq (fun K hK => ?_)
     go_simp
     have hmd := Lib.hid (made_any p es (needsL e) (.slice A7 (needsL e).length c7) y1 (hMaa.out.below hB1.out) hR7H.out (by omega) (fun f hf => hxe.out f (.inr hf)))
     unfold ptr at hmd
     refine hmd.out.mono ?_
     rintro x8 y2 ⟨v8, rfl, hR8, hb⟩
     obtain ⟨A8, c8, rfl⟩ := Kd.R_slice hR8
     have hB2 : Hid (Below wa.heap.size wa y2) := Lib.hid (hB1.out.trans (hb.mono hB1.out.size))
     have hM8 : Hid (KI.M y2 W2.heap.size (fun k => some k ≠ (Value.slice A11 i c11).ownBlock ∧ some k ≠ (Value.slice A3 i c3).ownBlock) (intsN (madeL es (needsL e))) [.slice A8 (intsN (madeL es (needsL e))).length c8]) := by
      have h1 := hB1.out.size
      have h2 := hxs.out
      have h3 := hWx.out
      exact Lib.hid ⟨_, rfl, Kd.R_mono (Kd.R_lower (Kd.R_bound hR8) (by omega)) (fun k hk => ⟨fun e => by have := hbnx.out _ e.symm; have := hk.2.1; omega, fun e => by have := hb3x.out _ e.symm; have := hk.2.1; omega⟩)⟩
     clear hR8 hb hmd
     refine hK.out _ _ ?_ (fun hHeld => ?_)
     ·(try dsimp only); exact hSS.out _ (below_blk hB2.out hgaH.out) (below_blk hB2.out hxa2.out)
     clear hK K
     try simp only [Act.put, pA,pB,pC]
     refine RegP.evq (fun K hK => ?_)
     go_simp
     refine hK.out _ _ ?_ (fun hHeld => ?_)
     ·(try dsimp only); exact hSS.out _ (below_blk ((Below.refl _ _).alloc (Nat.le_refl _) _) (below_blk hB2.out hgaH.out)) (below_blk ((Below.refl _ _).alloc (Nat.le_refl _) _) (below_blk hB2.out hxa2.out))
     clear hK K
     try simp only [Act.put, pA,pB,pC]
     refine RegP.evq (fun K hK => ?_)
     have hR3b := Lib.hid (Kd.R_below hR3a.out hB2.out)
     have halb := Lib.hid (Kd.R_below hala.out hB2.out)
     refine Kd.R_append_step KI (w0 := y2) W2.heap.size (by rfl) _ _ 84 57 (.slice none 0 0) 24 rfl Tryz.underlying84 infoRow rfl (by decide) (by decide) (.slice A3 i c3) (aheadRow es i) (intsN (madeL es (needsL e))) _ (fun k => some k ≠ (Value.slice A11 i c11).ownBlock) _ rfl rfl hM8.out (fun _ h => h) (fun k hk e => by have := hbnx.out _ e.symm; have := hB2.out.size; have := hxs.out; omega) hR3b.out (Below.refl _ _) (by have := hB2.out.size; have := hxs.out; have := hWx.out; omega) (by rw [show (aheadRow es i).length = i by simp [aheadRow]]; omega) ?_
     intro v9 w9 hR9 _ hg9 _
     rw [← hrs.out] at hR9
     obtain ⟨A9, c9, rfl⟩ := Kd.R_slice hR9
     have hl9 : (aheadRow es (i + 1)).length = i + 1 := by simp [aheadRow]
     rw [hl9] at hR9 ⊢
     have hR9H := Lib.hid hR9
     have hg9H := Lib.hid hg9
     have hgb9 : Hid (w9.heap[p]? = some (.cells #[.slice (some ad) n cE, .slice AD1 defs.length cD1, .map (some mb), .slice A3 i c3] 86 (0, 0))) := Lib.hid ((hg9.block p (lt_blk (below_blk hB2.out hgaH.out)) (fun e => by have := hb3x.out _ e.symm; have := hlp.out; omega)).trans (below_blk hB2.out hgaH.out))
     have hxb9 : Hid (w9.heap[x]? = some (.cells #[.slice a0 e.outs.length d0, .slice a1 e.ins.length d1, .slice a2 e.imp.length d2, .slice a3 e.ord.length d3, .string (B e.cmd), .string (B e.dep)] 35 (0, 0))) := Lib.hid ((hg9.block x (lt_blk (below_blk hB2.out hxa2.out)) (fun e => by have := hb3x.out _ e.symm; omega)).trans (below_blk hB2.out hxa2.out))
     have hal9 := Lib.hid (Kd.R_over halb.out hR3b.out (by decide) hg9)
     have hbut9 : Hid (But p W2 w9) := Lib.hid (but_grownR (but_growB hbuta.out hB2.out) hg9 (fun b hb => (hb3x.out b hb).1))
     clear hR9 hg9 hl9
     refine hK.out _ _ ?_ (fun hHeld => ?_)
     ·(try dsimp only); exact hSS.out _ hgb9.out hxb9.out
     clear hK K
     try simp only [Act.put, pA,pB,pC]
     repeat ((first | refine RegP.pu ?_ | refine RegP.he ?_ | refine RegP.sk ?_); try simp only [Act.put, pA,pB,pC])
     refine RegP.laq (fun K hK => ?_)
     have c19 := (cell_of_heap (j := 3) hgb9.out).trans rfl
     have f19 := frozen_of_heap hgb9.out 3
     go_simp
     clear c19 f19
     have hgz : Hid ((w9.setCell ⟨p, 3, none⟩ (.slice A9 (i + 1) c9)).heap[p]? = some (.cells #[.slice (some ad) n cE, .slice AD1 defs.length cD1, .map (some mb), .slice A9 (i + 1) c9] 86 (0, 0))) := Lib.hid (blk_put hgb9.out 3 _ rfl)
     have hR3z := Lib.hid (R_set_old (j := 3) hR9H.out (.slice A9 (i + 1) c9) hlp.out)
     have halz := Lib.hid (R_set_old (j := 3) hal9.out (.slice A9 (i + 1) c9) hlp.out)
     have hbutz := Lib.hid (hbut9.out.set 3 (.slice A9 (i + 1) c9))
     generalize w9.setCell ⟨p, 3, none⟩ (.slice A9 (i + 1) c9) = z1 at *
     refine hK.out _ _ ?_
     clear hK K
     try simp only [Act.put, pA,pB,pC]
     refine RegP.done1 ?_
     try dsimp only
     clear hgb9 hxb9 hal9 hbut9 hR9H hg9H hR3b halb hM8 hB2 hB1 hB0 hSS hgaH hR3a hala hMaa heda hbuta hR7H
     have hbd : ((intsN (List.range i)).length + 1) * 8 ≤ 140737488355328 := by rw [intsN_len, List.length_range]; omega
     go_wp2_with (at_builtin; go_loud (refine Kd.R_append (Kd.int .i64) (w0 := z1) W2.heap.size rfl _ _ 57 3 (.int .i64 0) 8 rfl Tryz.underlying57 infoInt rfl (by decide) (by decide) (.slice A11 i c11) (intsN (List.range i)) (i : Int) [.int .i64 (i : Int)] (fun _ => True) (fun _ => False) rfl rfl rfl (fun _ h => h.elim) (fun _ _ => trivial) halz.out (Below.refl _ _) hbutz.out.size hbd ?_))
     intro v1 w1 hR1 _ hg1 hat
     have hN1 : Hid (NewB W2 p mb n (.slice (some ad) n cE) (.slice AD1 defs.length cD1) es (i + 1) v1 w1) := by
      refine Lib.hid ⟨⟨A9, c9, (hg1.block p (lt_blk hgz.out) (fun e => by have := hbnx.out _ e.symm; have := hlp.out; omega)).trans hgz.out, ?_⟩, by rw [intsN_range]; exact hR1, but_grownR hbutz.out hg1 (fun b hb => (hbnx.out b hb).1)⟩
      have h := Kd.R_grown (Kd.R_bound hR3z.out) hg1 (fun k hk => hk.1)
      exact Kd.R_mono h (fun k hk => by
       rcases hat with e1 | ⟨b, e1, hb⟩
       ·rw [e1]; exact hk.1
       ·rw [e1]; intro e; injection e with e; have := hk.2.2.1; omega)
     clear hR1 hg1 hat halz hbutz hR3z hgz
     go_wp2_with fail
     go_roundg gk
     case measure => omega
     case rel => exact ⟨i + 1, by first | rfl | simp, by omega, hN1⟩
  | succ go =>
   have hi : i < es.length := by rw [hnH.out]; omega
   have hlt : decide ((i : Int) < (n : Int)) = true := by rw [decide_eq_true_iff]; omega
   have i1 : (0 : Int) ≤ (i : Int) := by omega
   have i2 : (i : Int) < (n : Int) := by omega
   have hB := Lib.hid hA.out.bel
   obtain ⟨ad, a0, d0, a1, d1, a2, d2, a3, d3, hAd, k0, k1, k2, k3, k4, k5, hed⟩ := edge_at rfl hCH.out i hi
   subst hAd
   replace k0 := below_cell hB.out k0
   replace k1 := below_cell hB.out k1
   replace k2 := below_cell hB.out k2
   replace k3 := below_cell hB.out k3
   replace k4 := below_cell hB.out k4
   replace k5 := below_cell hB.out k5
   have hFe := Lib.hid (hFH.out es[i] (List.getElem_mem hi))
   have hOe := hOH.out es[i] (List.getElem_mem hi)
   have hxe := Lib.hid (hxH.out es[i] (List.getElem_mem hi))
   have htkE : Hid ((es.take (i + 1)).map toE = (es.take i).map toE ++ [toE es[i]]) := Lib.hid (by rw [List.take_succ_eq_append_getElem hi, List.map_append]; rfl)
   have htkO : Hid ((es.take (i + 1)).flatMap EdgeL.outs = (es.take i).flatMap EdgeL.outs ++ es[i].outs) := Lib.hid (outs_take es i hi)
   have htkV : Hid (((es.take i).flatMap EdgeL.outs ++ es[i].outs).Nodup → putV (makerV (es.take i)) es[i].outs i = makerV (es.take (i + 1))) := Lib.hid (fun h => by
    have := makerV_snoc h
    rw [List.length_take, Nat.min_eq_left (by omega)] at this
    rw [List.take_succ_eq_append_getElem hi]; exact this)
   have htw : Hid (∀ (j : Nat) (hj : j < es[i].outs.length), es[i].outs[j] ∈ (es.take i).flatMap EdgeL.outs ++ es[i].outs.take j → ¬ Once es) := Lib.hid (fun j hj h => twice_not hi hj h)
   have hedH := Lib.hid hed
   clear hed
   generalize es[i] = e at *
   obtain ⟨wa, hwa⟩ : ∃ x, wr.alloc (.cells #[.slice a0 e.outs.length d0, .slice a1 e.ins.length d1, .slice a2 e.imp.length d2, .slice a3 e.ord.length d3, .string (B e.cmd), .string (B e.dep)] 35) = x := ⟨_, rfl⟩
   have hba : Below wr.heap.size wr wa := by rw [← hwa]; exact (Below.refl _ _).alloc (Nat.le_refl _) _
   have hxa := heap_alloc_new wr (.cells #[.slice a0 e.outs.length d0, .slice a1 e.ins.length d1, .slice a2 e.imp.length d2, .slice a3 e.ord.length d3, .string (B e.cmd), .string (B e.dep)] 35)
   rw [hwa] at hxa
   have hxaH := Lib.hid hxa
   have hAa := Lib.hid (hA.out.below hba)
   have hBa := Lib.hid hAa.out.bel
   have hlx : Hid (p < wr.heap.size) := Lib.hid (by obtain ⟨_, _, _, _, h, _⟩ := hA.out.blk; exact lt_blk h)
   have hrx : Hid (∀ AE cE k xs, Kd.R KE 35 wr (p + 1) (fun _ => True) (.slice AE k cE) xs → ∀ b, (Value.slice AE k cE).ownBlock = some b → p + 1 ≤ b ∧ b < wr.heap.size) := Lib.hid (fun AE cE k xs h b hb => ((Kd.R_bound h).1 b hb).2.1 |> fun h1 => ⟨h1, ((Kd.R_bound h).1 b hb).2.2.1⟩)
   have hwaH := Lib.hid hwa
   have hba2 := Lib.hid hba
   clear hba hxa hwa
   go_upto_region 6 with (fail)
   rw [hwaH.out]
   clear hwaH k0 k1 k2 k3 k4 k5
   obtain ⟨x, hxx⟩ : ∃ x, wr.heap.size = x := ⟨_, rfl⟩
   have hxxH := Lib.hid hxx
   rw [hxx]
   have hps : Hid (p + 1 ≤ wa.heap.size) := Lib.hid (by have := hlx.out; have := hba2.out.size; omega)
   have hxa2 : Hid (wa.heap[x]? = some (.cells #[.slice a0 e.outs.length d0, .slice a1 e.ins.length d1, .slice a2 e.imp.length d2, .slice a3 e.ord.length d3, .string (B e.cmd), .string (B e.dep)] 35 (0, 0))) := by rw [← hxx]; exact hxaH
   clear hxaH hxx
   obtain ⟨AE, cE, AD1, cD1, hgb0, hRD0, hRE0⟩ := hA.out.blk
   have hrowx : Hid (∀ b, (Value.slice AE i cE).ownBlock = some b → p + 1 ≤ b ∧ b < x) := Lib.hid (fun b hb => ⟨((Kd.R_bound hRE0).1 b hb).2.1, by rw [← hxxH.out]; exact ((Kd.R_bound hRE0).1 b hb).2.2.1⟩)
   have hgH := Lib.hid (below_blk hba2.out hgb0)
   have hRDH := Lib.hid (Kd.R_below hRD0 hba2.out)
   have hREH := Lib.hid (Kd.R_below hRE0 hba2.out)
   have hSS : Hid (∀ W' : World, W'.heap[p]? = some (.cells #[.slice AE i cE, .slice AD1 defs.length cD1, .map (some mb), .slice none 0 0] 86 (0, 0)) → W'.heap[x]? = some (.cells #[.slice a0 e.outs.length d0, .slice a1 e.ins.length d1, .slice a2 e.imp.length d2, .slice a3 e.ord.length d3, .string (B e.cmd), .string (B e.dep)] 35 (0, 0)) → (fun w' => w'.cell? ⟨p, 0, none⟩ = some (.slice AE i cE) ∧ w'.cell? ⟨x, 0, none⟩ = some (.slice a0 e.outs.length d0) ∧ w'.cell? ⟨x, 1, none⟩ = some (.slice a1 e.ins.length d1) ∧ w'.cell? ⟨x, 2, none⟩ = some (.slice a2 e.imp.length d2) ∧ w'.cell? ⟨x, 3, none⟩ = some (.slice a3 e.ord.length d3) ∧ w'.cell? ⟨x, 4, none⟩ = some (.string (B e.cmd)) ∧ w'.cell? ⟨x, 5, none⟩ = some (.string (B e.dep))) W') := Lib.hid (fun W' h1 h2 => ⟨(cell_of_heap (j := 0) h1).trans rfl, (cell_of_heap (j := 0) h2).trans rfl, (cell_of_heap (j := 1) h2).trans rfl, (cell_of_heap (j := 2) h2).trans rfl, (cell_of_heap (j := 3) h2).trans rfl, (cell_of_heap (j := 4) h2).trans rfl, (cell_of_heap (j := 5) h2).trans rfl⟩)
   clear hgb0 hRD0 hRE0
   have hB0 : Hid (Below wa.heap.size wa wa.drew) := Lib.hid (Below.refl _ _).drew
   refine RegP.region (fun w' => w'.cell? ⟨p, 0, none⟩ = some (.slice AE i cE) ∧ w'.cell? ⟨x, 0, none⟩ = some (.slice a0 e.outs.length d0) ∧ w'.cell? ⟨x, 1, none⟩ = some (.slice a1 e.ins.length d1) ∧ w'.cell? ⟨x, 2, none⟩ = some (.slice a2 e.imp.length d2) ∧ w'.cell? ⟨x, 3, none⟩ = some (.slice a3 e.ord.length d3) ∧ w'.cell? ⟨x, 4, none⟩ = some (.string (B e.cmd)) ∧ w'.cell? ⟨x, 5, none⟩ = some (.string (B e.dep))) 13 [(0, 0), (0, 1), (0, 2), (0, 3), (0, 4), (1, 5), (1, 6), (2, 7), (2, 8), (2, 9), (0, 10), (0, 11), (0, 12), (3, 13)] (by kernel_rfl) (by kernel_rfl) (by rfl) (by kernel_rfl) (by exact hSS.out _ (below_blk hB0.out hgH.out) (below_blk hB0.out hxa2.out)) ?_
   repeat ((first | refine RegP.pu ?_ | refine RegP.he ?_ | refine RegP.sk ?_); try simp only [Act.put, pA,pB,pC])
   refine RegP.evq (fun K hK => ?_)
   go_simp
   refine (copied_any [.slice a0 e.outs.length d0, .slice a1 e.ins.length d1, .slice a2 e.imp.length d2, .slice a3 e.ord.length d3, .string (B e.cmd), .string (B e.dep)] e _ (hedH.out.below hBa.out.drew) hFe.out).mono ?_
   rintro x7 y1 ⟨cs, rfl, hM, hb⟩
   have hB1 : Hid (Below wa.heap.size wa y1) := Lib.hid (hB0.out.trans (hb.mono hB0.out.size))
   obtain ⟨inner, hown⟩ := Kd.R_own hREH.out
   have hMn := Lib.hid (KE.M_lower (base' := p + 1) hps.out (Kd.M_new (W := wa) hM hown))
   obtain ⟨v0, v1, v2, v3, rfl, g0, g1, g2, g3⟩ := k35_openM hM
   obtain ⟨E0, f0, rfl⟩ := Kd.R_slice g0
   obtain ⟨E1, f1, rfl⟩ := Kd.R_slice g1
   obtain ⟨E2, f2, rfl⟩ := Kd.R_slice g2
   obtain ⟨E3, f3, rfl⟩ := Kd.R_slice g3
   clear hM hown g0 g1 g2 g3 hb
   refine hK.out _ _ ?_ (fun hHeld => ?_)
   ·(try dsimp only); exact hSS.out _ (below_blk hB1.out hgH.out) (below_blk hB1.out hxa2.out)
   clear hK K
   try simp only [Act.put, pA,pB,pC]
   refine RegP.evq (fun K hK => ?_)
   go_simp
   refine hK.out _ _ ?_ (fun hHeld => ?_)
   ·(try dsimp only); exact hSS.out _ (below_blk ((Below.refl _ _).alloc (Nat.le_refl _) _) (below_blk hB1.out hgH.out)) (below_blk ((Below.refl _ _).alloc (Nat.le_refl _) _) (below_blk hB1.out hxa2.out))
   clear hK K
   try simp only [Act.put, pA,pB,pC]
   refine RegP.evq (fun K hK => ?_)
   have hRE1 := Lib.hid (Kd.R_below hREH.out hB1.out)
   have hRD1 := Lib.hid (Kd.R_below hRDH.out hB1.out)
   refine Kd.R_append_step KE (w0 := y1) (p + 1) (by rfl) _ _ 30 35 (.agg #[.slice none 0 0, .slice none 0 0, .slice none 0 0, .slice none 0 0, .string ⟨#[]⟩, .string ⟨#[]⟩]) 128 rfl Tryz.underlying30 infoEdge rfl (by decide) (by decide) (.slice AE i cE) ((es.take i).map toE) (toE e) _ (fun _ => True) _ rfl rfl hMn.out (fun _ h => h) (fun _ _ => trivial) hRE1.out (Below.refl _ _) (by have := hps.out; have := hB1.out.size; omega) (by rw [List.length_map, List.length_take]; omega) ?_
   intro v9 w9 hR9 _ hg9 _
   rw [← htkE.out] at hR9
   obtain ⟨A9, c9, rfl⟩ := Kd.R_slice hR9
   have hl9 : ((es.take (i + 1)).map toE).length = i + 1 := by rw [List.length_map, List.length_take, hnH.out]; omega
   rw [hl9] at hR9 ⊢
   have hR9H := Lib.hid hR9
   have hg9H := Lib.hid hg9
   have hgb9 : Hid (w9.heap[p]? = some (.cells #[.slice AE i cE, .slice AD1 defs.length cD1, .map (some mb), .slice none 0 0] 86 (0, 0))) := Lib.hid ((hg9.block p (by have := hps.out; have := hB1.out.size; omega) (fun e => by have := hrowx.out _ e.symm; omega)).trans (below_blk hB1.out hgH.out))
   have hxb9 : Hid (w9.heap[x]? = some (.cells #[.slice a0 e.outs.length d0, .slice a1 e.ins.length d1, .slice a2 e.imp.length d2, .slice a3 e.ord.length d3, .string (B e.cmd), .string (B e.dep)] 35 (0, 0))) := Lib.hid ((hg9.block x (lt_blk (below_blk hB1.out hxa2.out)) (fun e => by have := hrowx.out _ e.symm; omega)).trans (below_blk hB1.out hxa2.out))
   have hRD9 := Lib.hid (Kd.R_over hRD1.out hRE1.out (by decide) hg9)
   clear hR9 hg9 hl9
   refine hK.out _ _ ?_ (fun hHeld => ?_)
   ·(try dsimp only); exact hSS.out _ hgb9.out hxb9.out
   clear hK K
   try simp only [Act.put, pA,pB,pC]
   repeat ((first | refine RegP.pu ?_ | refine RegP.he ?_ | refine RegP.sk ?_); try simp only [Act.put, pA,pB,pC])
   refine RegP.laq (fun K hK => ?_)
   have c19 := (cell_of_heap (j := 0) hgb9.out).trans rfl
   have f19 := frozen_of_heap hgb9.out 0
   go_simp
   clear c19 f19
   have hN1 : Hid (NewA w p mb es defs (i + 1) i [] q (w9.setCell ⟨p, 0, none⟩ (.slice A9 (i + 1) c9))) := by
    refine Lib.hid ⟨⟨A9, c9, AD1, cD1, blk_put hgb9.out 0 _ rfl, R_set_old hRD9.out _ (by omega), R_set_old hR9H.out _ (by omega)⟩, ?_, hA.out.nd, ?_⟩
    ·have h1 := hAa.out.own
     have h2 := h1.same (hB1.out.block _ h1.lt)
     exact (h2.same (hg9H.out.block _ h2.lt (fun e => by have := hrowx.out _ e.symm; have := hmp.out; omega))).same (Below.heap_setCell w9 ⟨p, 0, none⟩ _ mb (by show mb ≠ p; have := hmp.out; omega))
    ·have h1 := hBa.out.trans (hB1.out.mono hBa.out.size)
     exact (h1.grown hg9H.out h1.size (fun b hb => by have := hrowx.out _ hb; have := hmp.out; have := hwm.out; omega)).setCell (by show w.heap.size ≤ p; have := hmp.out; have := hwm.out; omega) _
   have hxz : Hid ((w9.setCell ⟨p, 0, none⟩ (.slice A9 (i + 1) c9)).heap[x]? = some (.cells #[.slice a0 e.outs.length d0, .slice a1 e.ins.length d1, .slice a2 e.imp.length d2, .slice a3 e.ord.length d3, .string (B e.cmd), .string (B e.dep)] 35 (0, 0))) := Lib.hid ((Below.heap_setCell w9 ⟨p, 0, none⟩ _ x (by show x ≠ p; have := hlx.out; have := hxxH.out; omega)).trans hxb9.out)
   generalize w9.setCell ⟨p, 0, none⟩ (.slice A9 (i + 1) c9) = z1 at *
   refine hK.out _ _ ?_
   clear hK K
   try simp only [Act.put, pA,pB,pC]
   refine RegP.done1 ?_
   try dsimp only
   clear hgb9 hxb9 hRD9 hR9H hg9H hRE1 hRD1 hMn hB1 hB0 hSS hgH hRDH hREH hrowx
   have kx := (cell_of_heap (j := 0) hxz.out).trans rfl
   obtain ⟨m, hm⟩ : ∃ m, e.outs.length = m := ⟨_, rfl⟩
   have hmH := Lib.hid hm
   have hCO : Hid (Kd.C Kd.string w a0 e.outs.length (e.outs.map B)) := by
    obtain ⟨_, _, _, _, e0, ⟨A', c', e1, hl', hC'⟩, _⟩ := hedH.out
    injection e0 with e0 _
    rw [← e0] at e1
    injection e1 with e1 _ e2
    subst e1
    exact Lib.hid hC'
   rw [hm] at kx hOe
   clear hm
   go_wp2_with fail
   clear kx
   go_loopg [48] m (fun gj s48 wj => ∃ j q' : Nat, s48 = .int .i64 (j : Int) ∧ j + gj = m ∧ q' ≤ 1000 * i + j ∧ Hid (NewA w p mb es defs (i + 1) i (e.outs.take j) q' wj))
   case atStart => exact ⟨0, q, rfl, Nat.zero_add _, by omega, by rw [List.take_zero]; exact hN1⟩
   case round =>
    obtain ⟨j, q', rfl, hjk, hq', hAj⟩ := hrel
    clear hN1 hxz
    cases gk with
    | zero =>
     obtain rfl : j = m := by omega
     have hlt2 : decide ((j : Int) < (j : Int)) = false := by simp
     have hAn : Hid (NewA w p mb es defs (i + 1) (i + 1) [] q' wr) := by
      have h := hAj.out
      rw [List.take_of_length_le (by rw [hmH.out]; exact Nat.le_refl _)] at h
      obtain ⟨h1, h2, h3, h4⟩ := h
      refine Lib.hid ⟨h1, ?_, by rw [List.append_nil, htkO.out]; exact h3, h4⟩
      rw [putV_nil, ← htkV.out h3]; exact h2
     go_wp2_with fail
     go_roundg go
     case measure => omega
     case rel => exact ⟨i + 1, q', by first | rfl | simp, by omega, by omega, hAn⟩
    | succ gj =>
     have hj : j < e.outs.length := by rw [hmH.out]; omega
     have hlt2 : decide ((j : Int) < (m : Int)) = true := by rw [decide_eq_true_iff]; omega
     have j1 : (0 : Int) ≤ (j : Int) := by omega
     have j2 : (j : Int) < (m : Int) := by omega
     obtain ⟨bd, hbd, t0⟩ := text_at hCO.out j hj
     subst hbd
     replace t0 := below_cell hAj.out.bel t0
     have hln := hxe.out _ (.inl (List.getElem_mem hj))
     have htj := Lib.hid (htw.out j hj)
     have htk : Hid (e.outs.take (j + 1) = e.outs.take j ++ [e.outs[j]]) := Lib.hid (List.take_succ_eq_append_getElem hj)
     generalize e.outs[j] = f at *
     obtain ⟨AE, cE, AD1, cD1, hgb, _, _⟩ := hAj.out.blk
     have c2 := (cell_of_heap (j := 2) hgb).trans rfl
     have hlk := hAj.out.own.look_ok (t := 83) (e := 3) Tryz.underlying83 (zeroInt wr) f (by unfold maxLen; omega)
     rw [putV_some] at hlk
     generalize (putV (makerV (es.take i)) (e.outs.take j) i f).getD (.int .i64 0) = vz at *
     clear hgb
     by_cases hin : f ∈ (es.take i).flatMap EdgeL.outs ++ e.outs.take j
     ·rw [decide_eq_true hin] at hlk
      have hno := Lib.hid (htj.out hin)
      have hBj := Lib.hid hAj.out.bel
      clear hin
      go_wp2_with fail
      go_ret2
      exact ⟨hBj.out, .inl ⟨rfl, hno.out⟩⟩
     ·rw [decide_eq_false hin] at hlk
      obtain ⟨y, r1, m1, g1⟩ := hAj.out.own.store (t := 83) (e := 3) Tryz.underlying83 (by unfold maxLen; omega) f (.int .i64 (i : Int)) (by unfold maxLen; omega)
      have hAn := Lib.hid (hAj.out.store f hin hmp.out hwm.out m1 g1)
      rw [← htk.out] at hAn
      clear hin m1 g1
      go_wp2_with fail
      go_roundg gj
      case measure => omega
      case rel => exact ⟨j + 1, q' + 1, by first | rfl | simp, by omega, by omega, hAn⟩
end Go.Proofs.YtnegfigaiomehaaGreatDoor.Tp
end
section
namespace Go.Proofs.YtnegfigaiomehaaGreatDoor.Tp
open Go.RowKit Go.Lib Go.Shelf Go.Maps Go.Proofs.YtnegfigaiomehaaGreatDoorW.PrintWords Go.Proofs.YtnegfigaiomehaaGreatDoorW.PrintLast Go.Proofs.YtnegfigaiomehaaGreatDoorW.PrintMore Go.Proofs.YtnegfigaiomehaaGreatDoor.U Go.Proofs.YtnegfigaiomehaaGreatDoor.P Go.Proofs.YtnegfigaiomehaaGreatDoor.MapV Go.Proofs.YtnegfigaiomehaaGreatDoor.Ck
def Evals (es : List EdgeL) (defs : List Txt) (l : List FileL) (w : World) (e : Ending) (w' : World) : Prop := Below w.heap.size w w' ∧ ∃ r, EvalIs ownB es defs l r ∧ match r with
 | none => ∃ c : Int, (c == 0) = false ∧ e = .returned (.tuple #[.slice none 0 0, .int .i64 c])
 | some x => ∃ v ps, e = .returned (.tuple #[v, .int .i64 0]) ∧ Pairs w' v ps ∧ Row w' ps x ∧ ps.length ≤ 1000
theorem Evals.no {es : List EdgeL} {defs : List Txt} {l : List FileL} {w w' : World} (c : Int) (hb : Below w.heap.size w w') (hc : (c == 0) = false) (h : EvalIs ownB es defs l none) : Evals es defs l w (.returned (.tuple #[.slice none 0 0, .int .i64 c])) w' := ⟨hb, none, h, c, hc, rfl⟩
theorem wrong_not {es : List EdgeL} {defs : List Txt} {l : List FileL} (h : wrongB es = true) : ¬ Ready ownB es defs l := by
 intro hr
 unfold wrongB at h
 rw [Bool.or_eq_true, List.any_eq_true, List.any_eq_true] at h
 rcases h with ⟨f, hf, ho⟩ | ⟨f, hf, ho⟩
 ·obtain ⟨e, he, hfe⟩ := List.mem_flatMap.1 hf
  rw [hr.plain e he f (.inl hfe)] at ho; cases ho
 ·obtain ⟨e, he, hfe⟩ := List.mem_flatMap.1 hf
  rw [hr.plain e he f (.inr hfe)] at ho; cases ho
theorem wrong_plain {es : List EdgeL} (h : wrongB es = false) : ∀ e ∈ es, ∀ f, f ∈ e.outs ∨ f ∈ needsL e → ownB f = false := by
 intro e he f hf
 unfold wrongB at h
 rw [Bool.or_eq_false_iff, List.any_eq_false, List.any_eq_false] at h
 cases ho : ownB f with
 | false => rfl
 | true =>
  rcases hf with hf | hf
  ·exact absurd ho (h.1 f (List.mem_flatMap.2 ⟨e, he, hf⟩))
  ·exact absurd ho (h.2 f (List.mem_flatMap.2 ⟨e, he, hf⟩))
theorem known_not {es : List EdgeL} {defs : List Txt} {l : List FileL} (h : (targetsL es defs).all (knownB es) = false) : ¬ Ready ownB es defs l := by
 intro hr
 have : (targetsL es defs).all (knownB es) = true := List.all_eq_true.2 (fun t ht => (knownB_iff es t).2 (hr.known t ht))
 rw [this] at h; cases h
theorem there_not {es : List EdgeL} {defs : List Txt} {l : List FileL} (h : (targetsL es defs).any (missingL es l) = true) : ¬ Ready ownB es defs l := by
 intro hr
 obtain ⟨t, ht, hm⟩ := List.any_eq_true.1 h
 rw [hr.there t ht] at hm; cases hm
theorem ready_of {es : List EdgeL} {defs : List Txt} {l : List FileL} (h1 : Once es) (h2 : Ranked es) (h3 : wrongB es = false) (h4 : (targetsL es defs).all (knownB es) = true) (h5 : (targetsL es defs).any (missingL es l) = false) : Ready ownB es defs l :=
 ⟨h1, h2, wrong_plain h3, fun t ht => (knownB_iff es t).1 (List.all_eq_true.1 h4 t ht), fun t ht => by
  cases hm : missingL es l t with
  | false => rfl
  | true => exact absurd hm (List.any_eq_false.1 h5 t ht)⟩
theorem targets_small {es : List EdgeL} {defs : List Txt} (hd : defs.length ≤ 1000) (hE : es.length ≤ 100) (hO : ∀ e ∈ es, e.outs.length ≤ 10) : (targetsL es defs).length ≤ 1000 := by
 unfold targetsL
 split
 ·exact hd
 ·refine Nat.le_trans (List.length_filter_le ..) ?_
  have key : ∀ l : List EdgeL, (∀ e ∈ l, e.outs.length ≤ 10) → (l.flatMap EdgeL.outs).length ≤ 10 * l.length := by
   intro l
   induction l with
   | nil => intro _; simp
   | cons e l ih =>
    intro h
    have h1 := ih (fun e he => h e (by simp [he]))
    have h2 := h e (by simp)
    rw [List.flatMap_cons, List.length_append, List.length_cons]; omega
  have := key es hO
  omega
theorem targets_text {es : List EdgeL} {defs : List Txt} (hd : ∀ t ∈ defs, t.length ≤ 100000) (hx : ∀ e ∈ es, ∀ f, f ∈ e.outs ∨ f ∈ needsL e → f.length ≤ 100000) : ∀ t ∈ targetsL es defs, t.length ≤ 100000 := by
 intro t ht
 unfold targetsL at ht
 split at ht
 ·exact hd t ht
 ·obtain ⟨e, he, hf⟩ := List.mem_flatMap.1 (List.mem_filter.1 ht).1
  exact hx e he t (.inl hf)
theorem keepF_row {w : World} {ps : List PairF} {fs : List FileL} (h : Row w ps fs) (p : Txt → Bool) : Row w (keepF p ps) (fs.filter fun f => !p f.n) := h.filter (fun n => !p n)
theorem files_is {es : List EdgeL} {l made : List FileL} {n : Nat} (hm : ∀ f ∈ made, (makerL es f.n).isSome = true) :
  (((l.filter fun f => !((makerL es f.n).isSome || ownB f.n)) ++ made).filter fun f => !!thereB es n f.n) = filesFor ownB es l made n := by
 unfold filesFor
 rw [List.filter_append, List.filter_filter]
 congr 1
 ·refine List.filter_congr fun f _ => ?_
  unfold thereB
  cases makerL es f.n <;> cases ownB f.n <;> simp
 ·refine List.filter_congr fun f hf => ?_
  have := hm f hf
  unfold thereB
  cases hk : makerL es f.n with
  | none => rw [hk] at this; cases this
  | some k => simp
theorem go_missing {es : List EdgeL} {l made : List FileL} {n : Nat} {ns : List Nat} {e : EdgeL} (he : es[n]? = some e) (h : (needsL e).any (missingL es l) = true) : evalGo ownB es l (n :: ns) made = none := by
 rw [evalGo, he]; simp only; rw [if_pos h]
theorem go_fails {es : List EdgeL} {l made : List FileL} {n : Nat} {ns : List Nat} {e : EdgeL} (he : es[n]? = some e) (h : (needsL e).any (missingL es l) = false) (hc : cookE e.cmd ⟨e.ins ++ e.imp, filesFor ownB es l made n⟩ = none) : evalGo ownB es l (n :: ns) made = none := by
 rw [evalGo, he]; simp only; rw [if_neg (by rw [h]; decide), hc]
theorem go_unfit {es : List EdgeL} {l made : List FileL} {n : Nat} {ns : List Nat} {e : EdgeL} {D : DishL} (he : es[n]? = some e) (h : (needsL e).any (missingL es l) = false) (hc : cookE e.cmd ⟨e.ins ++ e.imp, filesFor ownB es l made n⟩ = some D) (hf : fitsL e D = false) : evalGo ownB es l (n :: ns) made = none := by
 rw [evalGo, he]; simp only; rw [if_neg (by rw [h]; decide), hc]; simp only; rw [if_neg (by rw [hf]; decide)]
theorem go_on {es : List EdgeL} {l made : List FileL} {n : Nat} {ns : List Nat} {e : EdgeL} {D : DishL} (he : es[n]? = some e) (h : (needsL e).any (missingL es l) = false) (hc : cookE e.cmd ⟨e.ins ++ e.imp, filesFor ownB es l made n⟩ = some D) (hf : fitsL e D = true) : evalGo ownB es l (n :: ns) made = evalGo ownB es l ns (made ++ D.outs) := by
 rw [evalGo, he]; simp only; rw [if_neg (by rw [h]; decide), hc]; simp only; rw [if_pos hf]
def Dished (r : Option DishL) (w : World) (base : Nat) (vo : Value) (once : Bool) (dep deps : Txt) (code : Int) : Prop := match r with
 | none => vo = .slice none 0 0 ∧ code = 13
 | some D => code = 0 ∧ D.dep = dep ∧ ∃ names b, D.outs = names.map (fun n => ⟨n, b⟩) ∧ OutsAt w base vo names b
theorem cooked_form {r : Option DishL} {w w' : World} {e : Ending} (h : Cooked r w e w') : Below w.heap.size w w' ∧ ∃ A n c once dep deps code, e = .returned (.tuple #[.agg #[.slice A n c, .bool once, .string (B dep), .string (B deps)], .int .i64 code]) ∧ Dished r w' w.heap.size (.slice A n c) once dep deps code := by
 obtain ⟨hb, h⟩ := h
 cases r with
 | none =>
  exact ⟨hb, none, 0, 0, false, [], [], 13, h, rfl, rfl⟩
 | some D =>
  obtain ⟨vo, names, b, hD, he, hO⟩ := h
  obtain ⟨A, c, rfl⟩ := hO.form
  exact ⟨hb, A, _, c, _, _, _, 0, he, rfl, rfl, names, b, by rw [hD], hO⟩
theorem Dished.below {r : Option DishL} {w w' : World} {base : Nat} {vo : Value} {once : Bool} {dep deps : Txt} {code : Int} (h : Dished r w base vo once dep deps code) (hb : Below w.heap.size w w') : Dished r w' base vo once dep deps code := by
 cases r with
 | none => exact h
 | some D =>
  obtain ⟨h1, h2, names, b, h3, h4⟩ := h
  exact ⟨h1, h2, names, b, h3, h4.move (fun k _ hk => hb.block k hk)⟩
theorem Dished.lower {r : Option DishL} {w : World} {base base' : Nat} {vo : Value} {once : Bool} {dep deps : Txt} {code : Int} (h : Dished r w base vo once dep deps code) (hb : base' ≤ base) : Dished r w base' vo once dep deps code := by
 cases r with
 | none => exact h
 | some D =>
  obtain ⟨h1, h2, names, b, h3, h4⟩ := h
  exact ⟨h1, h2, names, b, h3, h4.weaken hb⟩
theorem own_set_type {w : World} {base e size n g t j : Nat} {v u : Value} {xs : List Value} {cells : Array Value} (h : w.ownsRow base e size v n xs) (hg : w.heap[g]? = some (.cells cells t (0, 0))) (ht : e ≠ t) : (w.setCell ⟨g, j, none⟩ u).ownsRow base e size v n xs :=
 own_move h (fun k hk => Below.heap_setCell w _ u k (by
  show k ≠ g
  rintro rfl
  obtain ⟨cs, h1⟩ := own_typed h k hk
  rw [h1] at hg
  injection hg with hg
  injection hg with _ hg
  exact ht hg))
theorem Dished.set {r : Option DishL} {w : World} {base : Nat} {vo : Value} {once : Bool} {dep deps : Txt} {code : Int} (h : Dished r w base vo once dep deps code) {g j : Nat} {cells : Array Value} (hg : w.heap[g]? = some (.cells cells 72 (0, 0))) (u : Value) : Dished r (w.setCell ⟨g, j, none⟩ u) base vo once dep deps code := by
 cases r with
 | none => exact h
 | some D =>
  obtain ⟨h1, h2, names, b, h3, f, h4, h5⟩ := h
  exact ⟨h1, h2, names, b, h3, f, own_set_type h4 hg (by decide), fun j' hj => own_set_type (h5 j' hj) hg (by decide)⟩
theorem dish_stored {r : Option DishL} {w : World} {base : Nat} {vo : Value} {once : Bool} {dep deps : Txt} {code : Int} (h : Dished r w base vo once dep deps code) {g : Nat} {cells : Array Value} (hg : w.heap[g]? = some (.cells cells 72 (0, 0))) (u0 u1 u2 u3 : Value) : Dished r ((((w.setCell ⟨g, 0, none⟩ u0).setCell ⟨g, 1, none⟩ u1).setCell ⟨g, 2, none⟩ u2).setCell ⟨g, 3, none⟩ u3) base vo once dep deps code :=
 have g1 := blk_put hg 0 u0 rfl
 have g2 := blk_put g1 1 u1 rfl
 have g3 := blk_put g2 2 u2 rfl
 Dished.set (Dished.set (Dished.set (Dished.set h hg u0) g1 u1) g2 u2) g3 u3
theorem below_stored {w0 w : World} (h : Below w0.heap.size w0 w) {g : Nat} (hg : w0.heap.size ≤ g) (u0 u1 u2 u3 : Value) : Below w0.heap.size w0 ((((w.setCell ⟨g, 0, none⟩ u0).setCell ⟨g, 1, none⟩ u1).setCell ⟨g, 2, none⟩ u2).setCell ⟨g, 3, none⟩ u3) :=
 (((h.setCell (p := ⟨g, 0, none⟩) hg u0).setCell (p := ⟨g, 1, none⟩) hg u1).setCell (p := ⟨g, 2, none⟩) hg u2).setCell (p := ⟨g, 3, none⟩) hg u3
theorem heap_stored {w : World} {g k : Nat} (hk : k ≠ g) {o : Obj} (h : w.heap[k]? = some o) (u0 u1 u2 u3 : Value) : ((((w.setCell ⟨g, 0, none⟩ u0).setCell ⟨g, 1, none⟩ u1).setCell ⟨g, 2, none⟩ u2).setCell ⟨g, 3, none⟩ u3).heap[k]? = some o :=
 (Below.heap_setCell _ ⟨g, 3, none⟩ u3 k hk).trans ((Below.heap_setCell _ ⟨g, 2, none⟩ u2 k hk).trans ((Below.heap_setCell _ ⟨g, 1, none⟩ u1 k hk).trans ((Below.heap_setCell _ ⟨g, 0, none⟩ u0 k hk).trans h)))
theorem cookE_small {c : Txt} {v : Env} {d : DishL} (h : cookE c v = some d) : ∀ f ∈ d.outs, f.b.length ≤ 65536 := by
 unfold cookE at h
 split at h
 ·cases h
 ·split at h
  ·cases h
  ·split at h
   ·injection h with h
    intro f hf
    rw [← h] at hf
    obtain ⟨o, _, rfl⟩ := List.mem_map.1 hf
    assumption
   ·cases h
theorem plan_lt {es : List EdgeL} {ts : List Txt} {plan : List Nat} (h : PlanOf es ts plan) : ∀ n ∈ plan, n < es.length := by
 obtain ⟨r, h1, h2⟩ := h
 intro n hn
 obtain ⟨t, _, k, hk, hs⟩ := (h1 n).1 (h2.sub n hn)
 exact hs.lt (maker_lt hk)
theorem plan_len {es : List EdgeL} {ts : List Txt} {plan : List Nat} (h : PlanOf es ts plan) : plan.length ≤ es.length := by
 have h1 := List.Nodup.length_le_of_subset (plan_nd h) (l₂ := List.range es.length) (fun n hn => List.mem_range.2 (plan_lt h n hn))
 rwa [List.length_range] at h1
structure LoopI (Wb : World) (es : List EdgeL) (l : List FileL) (pl : List Nat) (i : Nat) (s12 : Value) (ps : List PairF) (made : List FileL) (wr : World) : Prop where
 row : Kd.R KP 40 wr Wb.heap.size (fun _ => True) s12 ps
 files : RowM wr ps made
 hm : ∀ f ∈ made, (makerL es f.n).isSome = true
 sz : ∀ f ∈ made, f.b.length ≤ 65536 ∧ f.n.length ≤ 1000
 len : ps.length ≤ 10 * i
 ev : evalGo ownB es l pl [] = evalGo ownB es l (pl.drop i) made
 bel : Below Wb.heap.size Wb wr
theorem maker_is {es : List EdgeL} {e : EdgeL} {f : Txt} (he : e ∈ es) (hf : f ∈ e.outs) : (makerL es f).isSome = true := by
 rw [maker_mem, decide_eq_true_iff, List.mem_flatMap]
 exact ⟨e, he, hf⟩
theorem fits_is {e : EdgeL} {D : DishL} {names : List Txt} {b dep : Txt} (h1 : D.dep = dep) (h2 : D.outs = names.map fun n => ⟨n, b⟩) : (decide (dep = e.dep) && decide (names = e.outs)) = fitsL e D := by
 unfold fitsL
 rw [h1, h2, List.map_map]
 congr 2
 simp [Function.comp_def]
theorem LoopI.next {Wb W wr w' : World} {es : List EdgeL} {l : List FileL} {pl : List Nat} {i : Nat} {s12 v : Value} {ps qs : List PairF} {made : List FileL} (h : LoopI Wb es l pl i s12 ps made wr) (hi : i < pl.length) {e : EdgeL} {D : DishL} {names : List Txt} {b : Txt} (he : es[pl[i]]? = some e) (hmi : (needsL e).any (missingL es l) = false) (hc : cookE e.cmd ⟨e.ins ++ e.imp, filesFor ownB es l made pl[i]⟩ = some D) (hf : fitsL e D = true) (hD : D.outs = names.map fun n => ⟨n, b⟩)
  (hB : Below wr.heap.size wr W) (hQ : RowM W qs (names.map fun n => ⟨n, b⟩)) (hg : W.grownBy w' s12.ownBlock) (hR : Kd.R KP 40 w' Wb.heap.size (fun _ => True) v (ps ++ qs)) (ho : e.outs.length ≤ 10) (hx : ∀ f ∈ e.outs, f.length ≤ 1000) : LoopI Wb es l pl (i + 1) v (ps ++ qs) (made ++ D.outs) w' := by
 have hW := Kd.R_below h.row hB
 have hno : names = e.outs := by
  have h1 : decide (D.outs.map FileL.n = e.outs) = true := by
   unfold fitsL at hf
   exact (Bool.and_eq_true_iff.1 hf).2
  rw [decide_eq_true_iff] at h1
  rw [← h1, hD, List.map_map]
  simp [Function.comp_def]
 have hql : qs.length = names.length := by have := hQ.row.len; rw [List.length_map] at this; exact this
 refine ⟨hR, ((h.files.later hB).grown hW hg).app (by rw [hD]; exact hQ.grown hW hg), fun f hf' => ?_, fun f hf' => ?_, ?_, ?_, ?_⟩
 ·rcases List.mem_append.1 hf' with h1 | h1
  ·exact h.hm f h1
  ·rw [hD] at h1
   obtain ⟨n, hn, rfl⟩ := List.mem_map.1 h1
   exact maker_is (List.mem_of_getElem? he) (by rw [← hno]; exact hn)
 ·rcases List.mem_append.1 hf' with h1 | h1
  ·exact h.sz f h1
  ·refine ⟨cookE_small hc f h1, ?_⟩
   rw [hD] at h1
   obtain ⟨n, hn, rfl⟩ := List.mem_map.1 h1
   exact hx n (by rw [← hno]; exact hn)
 ·rw [List.length_append, hql, hno]
  have := h.len
  omega
 ·rw [h.ev, List.drop_eq_getElem_cons hi, go_on he hmi hc hf]
 ·exact (h.bel.trans (hB.mono h.bel.size)).grown hg (Nat.le_trans h.bel.size hB.size) (fun k hk => ((Kd.R_bound h.row).1 k hk).2.1)
end Go.Proofs.YtnegfigaiomehaaGreatDoor.Tp
end
section
namespace Go.Proofs.YtnegfigaiomehaaGreatDoor.Tp
open Go.RowKit Go.Lib Go.Shelf Go.Maps Go.Proofs.YtnegfigaiomehaaGreatDoorW.PrintWords Go.Proofs.YtnegfigaiomehaaGreatDoorW.PrintLast Go.Proofs.YtnegfigaiomehaaGreatDoorW.PrintMore Go.Proofs.YtnegfigaiomehaaGreatDoor.U Go.Proofs.YtnegfigaiomehaaGreatDoor.P Go.Proofs.YtnegfigaiomehaaGreatDoor.MapV Go.Proofs.YtnegfigaiomehaaGreatDoor.Ck
structure Sized (es : List EdgeL) (defs : List Txt) (l : List FileL) : Prop where
 n : es.length ≤ 30
 d : defs.length ≤ 100
 o : ∀ e ∈ es, e.outs.length ≤ 10
 i : ∀ e ∈ es, (needsL e).length ≤ 100
 x : ∀ e ∈ es, ∀ f, f ∈ e.outs ∨ f ∈ needsL e → f.length ≤ 1000
 dx : ∀ t ∈ defs, t.length ≤ 1000
 c : ∀ e ∈ es, e.cmd.length ≤ 10000
 m : l.length ≤ 100
 ln : ∀ f ∈ l, f.n.length ≤ 1000
 lb : ∀ f ∈ l, f.b.length ≤ 1000
theorem Sized.few {es : List EdgeL} {defs : List Txt} {l : List FileL} (h : Sized es defs l) : ∀ e ∈ es, Few4 e := fun e he => by
 have h1 := h.o e he
 have h2 := h.i e he
 unfold needsL at h2
 rw [List.length_append, List.length_append] at h2
 exact ⟨by omega, by omega, by omega, by omega⟩
set_option maxRecDepth 100000 in
set_option maxHeartbeats 16000000 in
theorem Eval_any (es : List EdgeL) (defs : List Txt) (l : List FileL) (A : Option Addr) (c : Nat) (vD : Value) (Al : Option Addr) (cl : Nat) (w : World) (hT : Tab w) (hC : Kd.C KE w A es.length (es.map toE)) (hD : Str w vD defs) (hl : Kd.C KF w Al l.length (l.map toF)) (hcl : l.length ≤ cl) (hS : Sized es defs l) :
  Calls Tryz.prog 6 #[.agg #[.slice A es.length c, vD], .slice Al l.length cl, .slice none 0 0] w (Evals es defs l w) := by
 have hmf : ∀ (fn : Fn) (first cap : Array Value) (w : World), (Instr.makeFunc fn first cap).run Tryz.prog w = .ok (.func fn first cap) w := fun _ _ _ _ => rfl
 obtain ⟨AD, cD, rfl, hlD, hCD⟩ := hD
 obtain ⟨n, hn⟩ : ∃ n, es.length = n := ⟨_, rfl⟩
 obtain ⟨nl, hnl⟩ : ∃ n, l.length = n := ⟨_, rfl⟩
 obtain ⟨W0, hW0⟩ : ∃ W0, (w.alloc (.cells #[.slice A n c, .slice AD defs.length cD] 32)).alloc (.cells #[.slice Al nl cl] 36) = W0 := ⟨_, rfl⟩
 have hb0 : Below w.heap.size w W0 := by
  rw [← hW0]
  have h1 := (Below.refl w.heap.size w).alloc (Nat.le_refl _) (.cells #[.slice A n c, .slice AD defs.length cD] 32)
  exact h1.alloc h1.size _
 have hz : W0.heap[w.heap.size]? = some (.cells #[.slice A n c, .slice AD defs.length cD] 32 (0, 0)) := by
  have h1 := heap_alloc_new w (.cells #[.slice A n c, .slice AD defs.length cD] 32)
  have h2 := (Below.refl (w.alloc (.cells #[.slice A n c, .slice AD defs.length cD] 32)).heap.size (w.alloc (.cells #[.slice A n c, .slice AD defs.length cD] 32))).alloc (Nat.le_refl _) (.cells #[.slice Al nl cl] 36)
  rw [hW0] at h2
  exact below_blk h2 h1
 have hs1 : W0.heap[w.heap.size + 1]? = some (.cells #[.slice Al nl cl] 36 (0, 0)) := by
  have h1 := heap_alloc_new (w.alloc (.cells #[.slice A n c, .slice AD defs.length cD] 32)) (.cells #[.slice Al nl cl] 36)
  rw [hW0] at h1
  simpa using h1
 have hNew := Lib.hid (New_any es defs A c (.slice AD defs.length cD) W0 (Kd.C_below hC hb0) ⟨AD, cD, rfl, hlD, Kd.C_below hCD hb0⟩ (by have := hS.n; omega) (by have := hS.d; omega) hS.few (fun e he => by have := hS.o e he; omega) (fun e he => by have := hS.i e he; omega) (fun e he f hf => by have := hS.x e he f hf; omega))
 rw [hn] at hNew
 have z0 := (cell_of_heap (j := 0) hz).trans rfl
 have z1 := (cell_of_heap (j := 1) hz).trans rfl
 have hnH := Lib.hid hn
 have hnlH := Lib.hid hnl
 have hSH := Lib.hid hS
 have hW0H := Lib.hid hW0
 have hb0H := Lib.hid hb0
 have hs1H := Lib.hid hs1
 have hTH := Lib.hid (hT.below hb0)
 have hlH : Hid (Kd.C KF W0 Al nl (l.map toF)) := by rw [← hnl]; exact Lib.hid (Kd.C_below hl hb0)
 rw [hnl] at hcl
 have hclH := Lib.hid hcl
 rw [hn, hnl]
 clear hn hnl hC hCD hl hT hS hW0 hb0 hz hs1 hlD hcl
 go_enter Tryz.func6, Tryz.ntmps6
 go_upto_region 1 with (fail)
 rw [hW0H.out]
 clear hW0H
 obtain ⟨s1, hs⟩ : ∃ x, w.heap.size + 1 = x := ⟨_, rfl⟩
 rw [hs] at hs1H ⊢
 clear hs
 go_wp2_with fail
 refine hNew.out.mono ?_
 rintro e w1 ⟨hb, hr⟩
 have hB1 := Lib.hid (hb0H.out.trans (hb.mono hb0H.out.size))
 have hs1a := Lib.hid (below_blk hb hs1H.out)
 have hTa := Lib.hid (hTH.out.below hb)
 have hla := Lib.hid (Kd.C_below hlH.out hb)
 clear hb z0 z1 hNew hs1H hTH hlH hb0H
 rcases hr with ⟨rfl, hno⟩ | ⟨rfl, hno⟩ | ⟨p, rfl, hon, hrk, hG⟩
 ·have hnoH : Hid (EvalIs ownB es defs l none) := Lib.hid (.inl (fun h => hno h.once))
  have hBx : Hid (Below w.heap.size w (w1.alloc (.cells #[.pointer none] 52))) := Lib.hid (hB1.out.alloc hB1.out.size _)
  clear hno
  go_wp2_with fail
  go_ret2
  exact Evals.no 11 hBx.out rfl hnoH.out
 ·have hnoH : Hid (EvalIs ownB es defs l none) := Lib.hid (.inl (fun h => hno h.ranked))
  have hBx : Hid (Below w.heap.size w (w1.alloc (.cells #[.pointer none] 52))) := Lib.hid (hB1.out.alloc hB1.out.size _)
  clear hno
  go_wp2_with fail
  go_ret2
  exact Evals.no 12 hBx.out rfl hnoH.out
 ·unfold ptr
  have honH := Lib.hid hon
  have hrkH := Lib.hid hrk
  have hba := (Below.refl w1.heap.size w1).alloc (Nat.le_refl _) (.cells #[.pointer (some ⟨p, 0, none⟩)] 52)
  obtain ⟨q1, hq1⟩ : ∃ x, w1.heap.size = x := ⟨_, rfl⟩
  have hqb := heap_alloc_new w1 (.cells #[.pointer (some ⟨p, 0, none⟩)] 52)
  rw [hq1] at hqb
  have hqH : Hid ((w1.alloc (.cells #[.pointer (some ⟨p, 0, none⟩)] 52)).heap[q1]? = some (.cells #[ptr p] 52 (0, 0))) := Lib.hid hqb
  have hB2 := Lib.hid (hB1.out.trans (hba.mono hB1.out.size))
  have hs1b := Lib.hid (below_blk hba hs1a.out)
  have hTb := Lib.hid (hTa.out.below hba)
  have hlb := Lib.hid (Kd.C_below hla.out hba)
  have hGb := Lib.hid (hG.below hba)
  clear hon hrk hba hqb hG hs1a hTa hla
  go_upto_region 2 with (fail)
  generalize w1.alloc (.cells #[.pointer (some ⟨p, 0, none⟩)] 52) = W2 at *
  clear hq1 hB1
  have g0 := (cell_of_heap (j := 0) hqH.out).trans rfl
  unfold ptr at g0
  have hWr := Lib.hid (Wrong_any p es defs W2 hGb.out (by have := hSH.out.n; omega) (fun e he => by have := hSH.out.i e he; omega) (fun e he f hf => by have := hSH.out.x e he f (.inr hf); omega) (fun e he f hf => by have := hSH.out.x e he f (.inl hf); omega))
  unfold ptr at hWr
  cases hw : wrongB es with
  | true =>
   rw [hw] at hWr
   have hnoH : Hid (EvalIs ownB es defs l none) := Lib.hid (.inl (wrong_not hw))
   clear hw
   go_wp2_with fail
   refine hWr.out.mono ?_
   rintro e w3 ⟨rfl, hb⟩
   have hB3 := Lib.hid (hB2.out.trans (hb.mono hB2.out.size))
   clear hb
   go_wp2_with fail
   go_ret2
   exact Evals.no 5 hB3.out rfl hnoH.out
  | false =>
   rw [hw] at hWr
   have hwH := Lib.hid hw
   clear hw
   go_wp2_with fail
   refine hWr.out.mono ?_
   rintro e w3 ⟨rfl, hb⟩
   have hB3 := Lib.hid (hB2.out.trans (hb.mono hB2.out.size))
   have hq3 := Lib.hid (below_blk hb hqH.out)
   have hs3 := Lib.hid (below_blk hb hs1b.out)
   have hT3 := Lib.hid (hTb.out.below hb)
   have hl3 := Lib.hid (Kd.C_below hlb.out hb)
   have hG3 := Lib.hid (hGb.out.below hb)
   clear hb hWr hB2 hqH hs1b hTb hlb hGb g0
   have g0 := (cell_of_heap (j := 0) hq3.out).trans rfl
   unfold ptr at g0
   have hTg := Lib.hid (Targets_any p es defs w3 hG3.out (by have := hSH.out.n; omega) (fun e he => by have := hSH.out.i e he; omega) (fun e he => by have := hSH.out.o e he; omega) (by have := hSH.out.d; omega))
   unfold ptr at hTg
   go_wp2_with fail
   refine hTg.out.mono ?_
   rintro e w4 ⟨vt, rfl, ho, hb⟩
   have hB4 := Lib.hid (hB3.out.trans (hb.mono hB3.out.size))
   have hq4 := Lib.hid (below_blk hb hq3.out)
   have hs4 := Lib.hid (below_blk hb hs3.out)
   have hT4 := Lib.hid (hT3.out.below hb)
   have hl4 := Lib.hid (Kd.C_below hl3.out hb)
   have hG4 := Lib.hid (hG3.out.below hb)
   have hvt := Lib.hid (str_of_R (own_R ho))
   clear hb ho hTg hB3 hq3 hs3 hT3 hl3 hG3 g0
   obtain ⟨At, nt, ct, rfl⟩ : ∃ At nt ct, vt = .slice At nt ct := by obtain ⟨a, b, rfl, _⟩ := hvt.out; exact ⟨_, _, _, rfl⟩
   have hts := targets_small (es := es) (defs := defs) (by have := hSH.out.d; omega) (by have := hSH.out.n; omega) hSH.out.o
   have htx : Hid (∀ t ∈ targetsL es defs, t.length ≤ 100000) := Lib.hid (targets_text (fun t ht => by have := hSH.out.dx t ht; omega) (fun e he f hf => by have := hSH.out.x e he f hf; omega))
   have g0 := (cell_of_heap (j := 0) hq4.out).trans rfl
   unfold ptr at g0
   have hPl := Lib.hid (Plan_any p es defs (targetsL es defs) (.slice At nt ct) w4 hG4.out (by have := hSH.out.n; omega) (fun e he => by have := hSH.out.i e he; omega) (fun e he f hf => by have := hSH.out.x e he f (.inr hf); omega) (aheadL_len es (fun e he => by have := hSH.out.i e he; omega)) hvt.out (by omega) htx.out)
   unfold ptr at hPl
   go_wp2_with fail
   refine hPl.out.mono ?_
   rintro e w5 ⟨hb, hr⟩
   have hB5 := Lib.hid (hB4.out.trans (hb.mono hB4.out.size))
   have hq5 := Lib.hid (below_blk hb hq4.out)
   have hs5 := Lib.hid (below_blk hb hs4.out)
   have hT5 := Lib.hid (hT4.out.below hb)
   have hl5 := Lib.hid (Kd.C_below hl4.out hb)
   have hG5 := Lib.hid (hG4.out.below hb)
   have hv5 := Lib.hid (hvt.out.below hb)
   clear hb hPl hB4 hq4 hs4 hT4 hl4 hG4 g0 hvt
   cases hk : (targetsL es defs).all (knownB es) with
   | false =>
    rw [if_neg (by rw [hk]; decide)] at hr
    subst hr
    have hnoH : Hid (EvalIs ownB es defs l none) := Lib.hid (.inl (known_not hk))
    clear hk
    go_wp2_with fail
    go_ret2
    exact Evals.no 6 hB5.out rfl hnoH.out
   | true =>
    rw [if_pos hk] at hr
    obtain ⟨vp, pl, rfl, hPO, hRp⟩ := hr
    have hkH := Lib.hid hk
    have hPOH := Lib.hid hPO
    have hpI := Lib.hid (ints_of_R hRp)
    obtain ⟨Ap, cp, rfl⟩ := Kd.R_slice hRp
    rw [intsN_len]
    rw [intsN_len] at hpI
    clear hk hPO hRp
    have hmt := Lib.hid (missing_tells q1 s1 p es l Al cl w5 hq5.out (by rw [hnlH.out]; exact hs5.out) hG5.out.makers (by rw [hnlH.out]; exact hl5.out) (by have := hSH.out.m; omega) (fun f hf => by have := hSH.out.lb f hf; omega))
    have emi := enters_of Tryz.func18 (by kernel_rfl) rfl
    have hCm := Lib.hid (ContainsT_any 18 #[ptr q1, ptr s1] emi _ _ _ (from_stays w5) hmt.out (.slice At nt ct) (targetsL es defs) w5 hv5.out htx.out (Below.refl _ _) (by omega))
    unfold ptr at hCm
    cases hm : (targetsL es defs).any (missingL es l) with
    | true =>
     rw [hm] at hCm
     have hnoH : Hid (EvalIs ownB es defs l none) := Lib.hid (.inl (there_not hm))
     clear hm
     go_wp2_with fail
     refine hCm.out.mono ?_
     rintro e w6 ⟨rfl, hb⟩
     have hB6 := Lib.hid (hB5.out.trans (hb.mono hB5.out.size))
     clear hb
     go_wp2_with fail
     go_ret2
     exact Evals.no 6 hB6.out rfl hnoH.out
    | false =>
     rw [hm] at hCm
     have hRd := Lib.hid (ready_of honH.out hrkH.out hwH.out hkH.out hm)
     clear hm
     go_wp2_with fail
     refine hCm.out.mono ?_
     rintro e Wb ⟨rfl, hb⟩
     have hB := Lib.hid (hB5.out.trans (hb.mono hB5.out.size))
     have hq := Lib.hid (below_blk hb hq5.out)
     have hsb := Lib.hid (below_blk hb hs5.out)
     have hTt := Lib.hid (hT5.out.below hb)
     have hlW := Lib.hid (Kd.C_below hl5.out hb)
     have hGW := Lib.hid (hG5.out.below hb)
     have hpW := Lib.hid (hpI.out.below hb)
     have hmW : Hid (Tells 18 #[ptr q1, ptr s1] (From Wb) (fun x => x.length ≤ 100000) (missingL es l)) := Lib.hid (fun W x hW hx => hmt.out W x (hb.trans (hW.mono hb.size)) hx)
     clear hb hCm hB5 hq5 hs5 hT5 hl5 hG5 hpI hmt hv5 htx
     have hmL : pl.length ≤ 30 := by have := plan_len hPOH.out; have := hSH.out.n; omega
     obtain ⟨m, hm⟩ : ∃ m, pl.length = m := ⟨_, rfl⟩
     have hmH := Lib.hid hm
     rw [hm] at hpW hmL ⊢
     clear hm
     obtain ⟨psl, hrl0, hcl0⟩ := row_of (w := Wb) (A := Al) (fs := l) (by rw [hnlH.out]; exact hlW.out)
     have hRl := Lib.hid hrl0
     have hpl : Hid (psl.length = nl) := Lib.hid (hrl0.len.trans hnlH.out)
     have hCl : Hid (Kd.C KP Wb Al nl psl) := by rw [← hpl.out]; exact Lib.hid hcl0
     clear hrl0 hcl0 hlW
     go_wp2_with fail
     go_loopg [12, 51] m (fun gk s12 s51 wr => ∃ (i : Nat) (ps : List PairF) (made : List FileL), s51 = .int .i64 (i : Int) ∧ i + gk = m ∧ Hid (LoopI Wb es l pl i s12 ps made wr))
     case atStart => exact ⟨0, [], [], rfl, Nat.zero_add _, Lib.hid ⟨Kd.R_nil _ _ _ _ _, .nil, fun f hf => (by cases hf), fun f hf => (by cases hf), Nat.zero_le _, (by rw [List.drop_zero]), Below.refl _ _⟩⟩
     case round =>
      obtain ⟨i, ps, made, rfl, hik, hLI⟩ := hrel
      obtain ⟨A12, c12, rfl⟩ := Kd.R_slice hLI.out.row
      obtain ⟨np, hnp⟩ : ∃ np, ps.length = np := ⟨_, rfl⟩
      have hnpH := Lib.hid hnp
      rw [hnp] at hLI ⊢
      clear hnp
      cases gk with
      | zero =>
       obtain rfl : i = m := by omega
       have hlt : decide ((i : Int) < (i : Int)) = false := by simp
       have hfin : Hid (Evals es defs l w (.returned (.tuple #[.slice A12 np c12, .int .i64 0])) wr) := by
        have h := hLI.out
        refine Lib.hid ⟨hB.out.trans (h.bel.mono hB.out.size), some made, ⟨hRd.out, pl, hPOH.out, ?_⟩, _, ps, rfl, ?_, h.files.row, ?_⟩
        ·rw [h.ev, ← hmH.out, List.drop_length]; rfl
        ·exact pairs_of_R h.row
        ·have := h.len; omega
       go_wp2_with fail
       go_ret2
       exact hfin.out
      | succ gk =>
       have hi : i < pl.length := by rw [hmH.out]; omega
       have hlt : decide ((i : Int) < (m : Int)) = true := by rw [decide_eq_true_iff]; omega
       have i1 : (0 : Int) ≤ (i : Int) := by omega
       have i2 : (i : Int) < (m : Int) := by omega
       obtain ⟨Ap', cp', he', _, hCp⟩ := hpW.out
       injection he' with e1 e2 e3
       rw [← e1, hmH.out] at hCp
       clear e1 e2 e3
       obtain ⟨ad, hAd, k0⟩ := int_at hmH.out hCp i hi
       subst hAd
       replace k0 := below_cell hLI.out.bel k0
       have hn0 : Hid (pl[i] < es.length) := Lib.hid (plan_lt hPOH.out _ (List.getElem_mem hi))
       have hbW := Lib.hid hLI.out.bel
       obtain ⟨n0, hn0e⟩ : ∃ n0, pl[i] = n0 := ⟨_, rfl⟩
       have hn0H := Lib.hid hn0e
       rw [hn0e] at k0 hn0
       clear hn0e hCp
       obtain ⟨e, hee⟩ : ∃ e, es[n0]'hn0.out = e := ⟨_, rfl⟩
       have heH : Hid (es[n0]? = some e) := Lib.hid (by rw [List.getElem?_eq_getElem hn0.out, hee])
       have hem : Hid (e ∈ es) := Lib.hid (List.mem_of_getElem? heH.out)
       have heeH := Lib.hid hee
       clear hee
       obtain ⟨wa, hwa⟩ : ∃ x, wr.alloc (.cells #[.int .i64 (n0 : Int)] 3) = x := ⟨_, rfl⟩
       have hba : Below wr.heap.size wr wa := by rw [← hwa]; exact (Below.refl _ _).alloc (Nat.le_refl _) _
       have hxa := heap_alloc_new wr (.cells #[.int .i64 (n0 : Int)] 3)
       rw [hwa] at hxa
       obtain ⟨q3, hq3⟩ : ∃ x, wr.heap.size = x := ⟨_, rfl⟩
       rw [hq3] at hxa
       have hq3a := Lib.hid hxa
       have hBa := Lib.hid hba
       have hwaH := Lib.hid hwa
       clear hwa hba hxa
       go_upto_region 18 with (fail)
       rw [hwaH.out]
       clear hwaH k0 hq3
       have hXa : Hid (Below Wb.heap.size Wb wa) := Lib.hid (hbW.out.trans (hBa.out.mono hbW.out.size))
       have hEd := Lib.hid (Edge_any p es defs n0 wa (hGW.out.below hXa.out) (by have := hSH.out.n; omega) hn0.out (hSH.out.few _ (List.getElem_mem hn0.out)))
       rw [heeH.out] at hEd
       unfold ptr at hEd
       have g0 := (cell_of_heap (j := 0) (below_blk hXa.out hq.out)).trans rfl
       unfold ptr at g0
       have g1 := (cell_of_heap (j := 0) hq3a.out).trans rfl
       go_wp2_with fail
       refine hEd.out.mono ?_
       rintro x1 w1 ⟨cs, rfl, hed, hb⟩
       obtain ⟨v0, v1, v2, v3, rfl, ⟨a0, d0, rfl, l0, r0⟩, ⟨a1, d1, rfl, l1, r1⟩, ⟨a2, d2, rfl, l2, r2⟩, ⟨a3, d3, rfl, l3, r3⟩⟩ := hed
       have hed : EdgeAt w1 [.slice a0 e.outs.length d0, .slice a1 e.ins.length d1, .slice a2 e.imp.length d2, .slice a3 e.ord.length d3, .string (B e.cmd), .string (B e.dep)] e := ⟨_, _, _, _, rfl, ⟨a0, d0, rfl, l0, r0⟩, ⟨a1, d1, rfl, l1, r1⟩, ⟨a2, d2, rfl, l2, r2⟩, ⟨a3, d3, rfl, l3, r3⟩⟩
       clear r0 r1 r2 r3 l0 l1 l2 l3 g0 g1 hEd
       have hB1 := Lib.hid (hBa.out.trans (hb.mono hBa.out.size))
       have hq31 := Lib.hid (below_blk hb hq3a.out)
       clear hb hXa hq3a
       obtain ⟨w2, hw2⟩ : ∃ x, w1.alloc (.cells #[.slice a0 e.outs.length d0, .slice a1 e.ins.length d1, .slice a2 e.imp.length d2, .slice a3 e.ord.length d3, .string (B e.cmd), .string (B e.dep)] 35) = x := ⟨_, rfl⟩
       have hba : Below w1.heap.size w1 w2 := by rw [← hw2]; exact (Below.refl _ _).alloc (Nat.le_refl _) _
       have hxa := heap_alloc_new w1 (.cells #[.slice a0 e.outs.length d0, .slice a1 e.ins.length d1, .slice a2 e.imp.length d2, .slice a3 e.ord.length d3, .string (B e.cmd), .string (B e.dep)] 35)
       rw [hw2] at hxa
       obtain ⟨q4, hq4⟩ : ∃ x, w1.heap.size = x := ⟨_, rfl⟩
       rw [hq4] at hxa
       have hq42 := Lib.hid hxa
       have hB2 := Lib.hid (hB1.out.trans (hba.mono hB1.out.size))
       have hed2 := Lib.hid (hed.below hba)
       have hq32 := Lib.hid (below_blk hba hq31.out)
       have hw2H := Lib.hid hw2
       clear hw2 hba hxa hed hq31
       go_upto_region 19 with (fail)
       rw [hw2H.out]
       clear hw2H hq4
       have x1 := (cell_of_heap (j := 1) hq42.out).trans rfl
       have x2 := (cell_of_heap (j := 2) hq42.out).trans rfl
       have x3 := (cell_of_heap (j := 3) hq42.out).trans rfl
       have hnl : (needsL e).length ≤ 100 := hSH.out.i e hem.out
       have hcat : catL [⟨a1, d1, e.ins⟩, ⟨a2, d2, e.imp⟩, ⟨a3, d3, e.ord⟩] = needsL e := by simp [catL, needsL, List.flatten]
       have hba := (Below.refl w2.heap.size w2).alloc (Nat.le_refl _) (.cells #[.slice a1 e.ins.length d1, .slice a2 e.imp.length d2, .slice a3 e.ord.length d3] 23)
       have hcc : Hid (Calls Tryz.prog 23 #[.slice (some ⟨w2.heap.size, 0, none⟩) 3 3] (w2.alloc (.cells #[.slice a1 e.ins.length d1, .slice a2 e.imp.length d2, .slice a3 e.ord.length d3] 23)) fun x w' => ∃ v, x = .returned v ∧ w'.ownsRow (w2.heap.size + 1) 9 1 v (needsL e).length ((needsL e).map fun t => Value.string (B t)) ∧ Below (w2.heap.size + 1) (w2.alloc (.cells #[.slice a1 e.ins.length d1, .slice a2 e.imp.length d2, .slice a3 e.ord.length d3] 23)) w') := by
        have hx := heap_alloc_new w2 (.cells #[.slice a1 e.ins.length d1, .slice a2 e.imp.length d2, .slice a3 e.ord.length d3] 23)
        obtain ⟨_, _, _, _, e0, _, ⟨_, _, e1, m1, s1'⟩, ⟨_, _, e2, m2, s2'⟩, ⟨_, _, e3, m3, s3'⟩⟩ := hed2.out
        simp only [List.cons.injEq] at e0
        obtain ⟨_, f1, f2, f3, _⟩ := e0
        rw [← f1] at e1
        rw [← f2] at e2
        rw [← f3] at e3
        injection e1 with e11 _ e13
        injection e2 with e21 _ e23
        injection e3 with e31 _ e33
        rw [← e11] at s1'
        rw [← e21] at s2'
        rw [← e31] at s3'
        rw [← e13] at m1
        rw [← e23] at m2
        rw [← e33] at m3
        have := Concat_any w2.heap.size 3 [⟨a1, d1, e.ins⟩, ⟨a2, d2, e.imp⟩, ⟨a3, d3, e.ord⟩] (w2.alloc (.cells #[.slice a1 e.ins.length d1, .slice a2 e.imp.length d2, .slice a3 e.ord.length d3] 23)) (by
         intro i hi
         match i, hi with
         | 0, _ => exact ⟨(cell_of_heap (j := 0) hx).trans rfl, m1, Kd.C_below s1' hba⟩
         | 1, _ => exact ⟨(cell_of_heap (j := 1) hx).trans rfl, m2, Kd.C_below s2' hba⟩
         | 2, _ => exact ⟨(cell_of_heap (j := 2) hx).trans rfl, m3, Kd.C_below s3' hba⟩) (by simp) (by simp) (by rw [hcat]; omega)
        rw [hcat] at this
        exact Lib.hid (by simpa using this)
       have hB2a := Lib.hid (hB2.out.trans (hba.mono hB2.out.size))
       have hbaH := Lib.hid hba
       clear hba hcat
       go_wp2_with fail
       refine hcc.out.mono ?_
       rintro x3 w3 ⟨v3, rfl, ho, hb⟩
       have hR3 : Hid (Str w3 v3 (needsL e)) := Lib.hid (str_of_R (Kd.R_of_own (enc := Value.string) (ok := fun _ => True) (h1 := fun _ => rfl) (by simpa [encs, Function.comp_def] using ho) (fun _ _ => trivial)))
       have h23 : Hid (Below w2.heap.size w2 w3) := Lib.hid (hbaH.out.trans (hb.mono (by omega)))
       have hB3 := Lib.hid (hB2.out.trans (h23.out.mono hB2.out.size))
       have hq33 := Lib.hid (below_blk h23.out hq32.out)
       have hq43 := Lib.hid (below_blk h23.out hq42.out)
       have hed3 := Lib.hid (hed2.out.below h23.out)
       clear ho hb hcc x1 x2 x3 hB2a hbaH h23 hq32 hq42 hed2
       obtain ⟨A3', n3', c3', rfl⟩ : ∃ A n c, v3 = .slice A n c := by obtain ⟨a, b, rfl, _⟩ := hR3.out; exact ⟨_, _, _, rfl⟩
       have hX3 : Hid (Below Wb.heap.size Wb w3) := Lib.hid (hbW.out.trans (hB3.out.mono hbW.out.size))
       have hCe := Lib.hid (ContainsT_any 18 #[ptr q1, ptr s1] emi _ _ _ (from_stays Wb) hmW.out (.slice A3' n3' c3') (needsL e) w3 hR3.out (fun f hf => by have := hSH.out.x e hem.out f (.inr hf); omega) hX3.out (by omega))
       unfold ptr at hCe
       cases hmi : (needsL e).any (missingL es l) with
       | true =>
        rw [hmi] at hCe
        have hnoH : Hid (EvalIs ownB es defs l none) := Lib.hid (.inr ⟨pl, hPOH.out, by rw [hLI.out.ev, List.drop_eq_getElem_cons hi, hn0H.out, go_missing heH.out hmi]⟩)
        clear hmi
        go_wp2_with fail
        refine hCe.out.mono ?_
        rintro x4 w4 ⟨rfl, hb⟩
        have hBx := Lib.hid ((hB.out.trans (hX3.out.mono hB.out.size)).trans (hb.mono (hB.out.trans (hX3.out.mono hB.out.size)).size))
        clear hb
        go_wp2_with fail
        go_ret2
        exact Evals.no 6 hBx.out rfl hnoH.out
       | false =>
        rw [hmi] at hCe
        have hmiH := Lib.hid hmi
        clear hmi
        go_wp2_with fail
        refine hCe.out.mono ?_
        rintro x4 w4 ⟨rfl, hb⟩
        have hB4 := Lib.hid (hB3.out.trans (hb.mono hB3.out.size))
        have hq34 := Lib.hid (below_blk hb hq33.out)
        have hq44 := Lib.hid (below_blk hb hq43.out)
        have hed4 := Lib.hid (hed3.out.below hb)
        clear hb hCe hR3 hB3 hq33 hq43 hed3 hX3
        have hX4 : Hid (Below Wb.heap.size Wb w4) := Lib.hid (hbW.out.trans (hB4.out.mono hbW.out.size))
        have y0 := (cell_of_heap (j := 0) (below_blk hX4.out hsb.out)).trans rfl
        have hCl4 := Lib.hid (CloneF_any (.slice Al nl cl) psl w4 ⟨Al, cl, by rw [hpl.out], by rw [hpl.out]; exact hclH.out, by rw [hpl.out]; exact Kd.C_below hCl.out hX4.out⟩ (by rw [hpl.out, ← hnlH.out]; have := hSH.out.m; omega))
        go_wp2_with fail
        refine hCl4.out.mono ?_
        rintro x5 w5 ⟨v5, rfl, hR5, hb⟩
        have hpt := plain_tells q1 p es w4 (below_blk hX4.out hq.out) (hGW.out.makers.below hX4.out)
        have h45 := Lib.hid hb
        have hown : ∀ k, v5.ownBlock = some k → w4.heap.size ≤ k := fun k hk => ((Kd.R_bound hR5).1 k hk).2.1
        have epl := enters_of Tryz.func28 (by kernel_rfl) rfl
        have hD5 := Lib.hid (DeleteF_any 28 #[ptr q1] epl _ _ _ (from_stays w4) hpt v5 psl _ w5 hR5 (fun W' hg => hb.grown hg hb.size hown) (fun x hx => by
         obtain ⟨j, hj, rfl⟩ := List.mem_iff_getElem.1 hx
         have h1 := hRl.out.get j hj (by rw [← hRl.out.len]; exact hj)
         rw [h1.n]
         have := hSH.out.ln _ (List.getElem_mem (show j < l.length by rw [← hRl.out.len]; exact hj)); omega) (by rw [hpl.out, ← hnlH.out]; have := hSH.out.m; omega))
        have hownH := Lib.hid hown
        unfold ptr at hD5
        clear hR5 hb hpt hown hCl4 y0
        go_wp2_with fail
        refine hD5.out.mono ?_
        rintro x6 w6 ⟨v6, rfl, hR6, hg⟩
        have h46 : Hid (Below w4.heap.size w4 w6) := Lib.hid (h45.out.grown hg h45.out.size hownH.out)
        have hB6 := Lib.hid (hB4.out.trans (h46.out.mono hB4.out.size))
        have hq36 := Lib.hid (below_blk h46.out hq34.out)
        have hq46 := Lib.hid (below_blk h46.out hq44.out)
        have hed6 := Lib.hid (hed4.out.below h46.out)
        obtain ⟨A6, c6, rfl⟩ := Kd.R_slice hR6
        have hP6 := Lib.hid (pairs_of_R hR6)
        clear hg hR6 h45 h46 hownH hD5 hq34 hq44 hed4 hB4 hX4
        obtain ⟨qs, hqs⟩ : ∃ qs, keepF (fun f => (makerL es f).isSome || ownB f) psl = qs := ⟨_, rfl⟩
        have hqsH := Lib.hid hqs
        rw [hqs] at hP6 ⊢
        have hqsl : qs.length ≤ 100 := by
         have h1 : qs.length ≤ psl.length := by rw [← hqs]; exact List.length_filter_le ..
         have h2 := hpl.out
         have h3 := hnlH.out
         have h4 := hSH.out.m
         omega
        obtain ⟨nq, hnq⟩ : ∃ n, qs.length = n := ⟨_, rfl⟩
        have hnqH := Lib.hid hnq
        rw [hnq] at hP6 hqsl ⊢
        clear hnq hqs
        have hnpl : np ≤ 300 := by have := hLI.out.len; have := hnpH.out; omega
        have hba := (Below.refl w6.heap.size w6).alloc (Nat.le_refl _) (.cells #[.slice A6 nq c6, .slice A12 np c12] 36)
        have hcc : Hid (Calls Tryz.prog 30 #[.slice (some ⟨w6.heap.size, 0, none⟩) 2 2] (w6.alloc (.cells #[.slice A6 nq c6, .slice A12 np c12] 36)) fun x w' => ∃ v, x = .returned v ∧ Kd.R KP 40 w' (w6.heap.size + 1) (fun _ => True) v (qs ++ ps) ∧ Below (w6.heap.size + 1) (w6.alloc (.cells #[.slice A6 nq c6, .slice A12 np c12] 36)) w') := by
         have hx := heap_alloc_new w6 (.cells #[.slice A6 nq c6, .slice A12 np c12] 36)
         obtain ⟨_, _, e1, m1, s1'⟩ := hP6.out
         injection e1 with e11 _ e13
         rw [← e11] at s1'
         rw [← e13] at m1
         obtain ⟨_, _, e2, m2, s2'⟩ := pairs_of_R hLI.out.row
         injection e2 with e21 _ e23
         rw [← e21] at s2'
         rw [← e23] at m2
         have := ConcatF_any w6.heap.size 2 [⟨A6, c6, qs⟩, ⟨A12, c12, ps⟩] (w6.alloc (.cells #[.slice A6 nq c6, .slice A12 np c12] 36)) (by
          intro i hi
          match i, hi with
          | 0, _ => exact ⟨by rw [← hnqH.out] at hx ⊢; exact (cell_of_heap (j := 0) hx).trans rfl, m1, Kd.C_below s1' hba⟩
          | 1, _ => exact ⟨by rw [← hnpH.out] at hx ⊢; exact (cell_of_heap (j := 1) hx).trans rfl, m2, Kd.C_below s2' (hB6.out.trans (hba.mono hB6.out.size))⟩) (by simp) (by simp) (by simp [catF, List.flatten]; have := hnqH.out; have := hnpH.out; omega)
         rw [show catF [⟨A6, c6, qs⟩, ⟨A12, c12, ps⟩] = qs ++ ps by simp [catF, List.flatten]] at this
         exact Lib.hid (by simpa using this)
        obtain ⟨w6', hw6⟩ : ∃ x, w6.alloc (.cells #[.slice A6 nq c6, .slice A12 np c12] 36) = x := ⟨_, rfl⟩
        have hs6 : w6'.heap.size = w6.heap.size + 1 := by rw [← hw6]; simp
        rw [hw6] at hcc hba
        rw [← hs6] at hcc
        have hB6' := Lib.hid (hB6.out.trans (hba.mono hB6.out.size))
        have hq36' := Lib.hid (below_blk hba hq36.out)
        have hq46' := Lib.hid (below_blk hba hq46.out)
        have hed6' := Lib.hid (hed6.out.below hba)
        have hw6H := Lib.hid hw6
        clear hw6 hs6 hba hP6 hB6 hq36 hq46 hed6
        go_wp2_with fail
        rw [hw6H.out]
        clear hw6H
        refine hcc.out.mono ?_
        rintro x7 w7 ⟨v7, rfl, hR7, hb⟩
        have hX6 : Hid (Below Wb.heap.size Wb w6') := Lib.hid (hbW.out.trans (hB6'.out.mono hbW.out.size))
        have hft := far_tells q1 q3 p n0 es defs w6' (below_blk hX6.out hq.out) hq36'.out (hGW.out.below hX6.out) honH.out (by have := hSH.out.n; omega) (fun e he => by have := hSH.out.o e he; omega) (aheadL_len es (fun e he => by have := hSH.out.i e he; omega)) hn0.out
        have hown : ∀ k, v7.ownBlock = some k → w6'.heap.size ≤ k := fun k hk => ((Kd.R_bound hR7).1 k hk).2.1
        have efa := enters_of Tryz.func24 (by kernel_rfl) rfl
        have hrow67 : Hid (Row w6' (qs ++ ps) ((l.filter fun f => !((makerL es f.n).isSome || ownB f.n)) ++ made)) := by
         have h1 := keepF_row (hRl.out.later hX6.out) (fun f => (makerL es f).isSome || ownB f)
         rw [hqsH.out] at h1
         exact Lib.hid (h1.app (hLI.out.files.later hB6'.out).row)
        have hD7 := Lib.hid (DeleteF_any 24 #[ptr q1, ptr q3] efa _ _ _ (from_stays w6') hft v7 (qs ++ ps) _ w7 hR7 (fun W' hg => hb.grown hg hb.size hown) (fun x hx => by
         obtain ⟨j, hj, rfl⟩ := List.mem_iff_getElem.1 hx
         have h1 := hrow67.out.get j hj (by rw [← hrow67.out.len]; exact hj)
         rw [h1.n]
         have hme := List.getElem_mem (show j < ((l.filter fun f => !((makerL es f.n).isSome || ownB f.n)) ++ made).length by rw [← hrow67.out.len]; exact hj)
         rcases List.mem_append.1 hme with h2 | h2
         ·have := hSH.out.ln _ (List.mem_filter.1 h2).1; omega
         ·have := (hLI.out.sz _ h2).2; omega) (by rw [List.length_append, hnqH.out, hnpH.out]; omega))
        have hownH := Lib.hid hown
        have h67 := Lib.hid hb
        unfold ptr at hD7
        clear hR7 hb hft hown hcc
        go_wp2_with fail
        refine hD7.out.mono ?_
        rintro x8 w8 ⟨v8, rfl, hR8, hg⟩
        have h68 : Hid (Below w6'.heap.size w6' w8) := Lib.hid (h67.out.grown hg h67.out.size hownH.out)
        have hB8 := Lib.hid (hB6'.out.trans (h68.out.mono hB6'.out.size))
        have hq48 := Lib.hid (below_blk h68.out hq46'.out)
        have hed8 := Lib.hid (hed6'.out.below h68.out)
        obtain ⟨A8, c8, rfl⟩ := Kd.R_slice hR8
        have hrow8 : Hid (Row w8 (keepF (fun f => !thereB es n0 f) (qs ++ ps)) (filesFor ownB es l made n0)) := by
         have h1 := keepF_row (hrow67.out.later h68.out) (fun f => !thereB es n0 f)
         rw [files_is hLI.out.hm] at h1
         exact Lib.hid h1
        have hC8 : Hid (Kd.C KF w8 A8 (filesFor ownB es l made n0).length ((filesFor ownB es l made n0).map toF)) := by
         obtain ⟨_, _, e1, _, s8⟩ := pairs_of_R hR8
         injection e1 with e11 _ _
         rw [← e11] at s8
         exact Lib.hid (files_of s8 hrow8.out)
        have hl8 : (keepF (fun f => !thereB es n0 f) (qs ++ ps)).length = (filesFor ownB es l made n0).length := hrow8.out.len
        have hl8b : (filesFor ownB es l made n0).length ≤ 1000 := by
         rw [← hl8]
         have h1 : (keepF (fun f => !thereB es n0 f) (qs ++ ps)).length ≤ (qs ++ ps).length := List.length_filter_le ..
         rw [List.length_append, hnqH.out, hnpH.out] at h1
         omega
        have hfb : Hid (∀ f ∈ filesFor ownB es l made n0, f.b.length ≤ 100000) := Lib.hid (fun f hf => by
         unfold filesFor at hf
         rcases List.mem_append.1 hf with h2 | h2
         ·have := hSH.out.lb _ (List.mem_filter.1 h2).1; omega
         ·have := (hLI.out.sz _ (List.mem_filter.1 h2).1).1; omega)
        rw [hl8]
        obtain ⟨fs, hfs⟩ : ∃ fs, filesFor ownB es l made n0 = fs := ⟨_, rfl⟩
        have hfsH := Lib.hid hfs
        rw [hfs] at hC8 hl8b hfb ⊢
        obtain ⟨nf, hnf⟩ : ∃ n, fs.length = n := ⟨_, rfl⟩
        have hnfH := Lib.hid hnf
        rw [hnf] at hl8b hC8 ⊢
        clear hg hR8 h67 h68 hownH hD7 hq36' hq46' hed6' hB6' hX6 hrow67 hrow8 hl8 hfs hnf
        go_upto_region 24 with (fail)
        obtain ⟨nd, hnd⟩ : ∃ n, (e.ins ++ e.imp).length = n := ⟨_, rfl⟩
        have hndH := Lib.hid hnd
        clear hnd
        have hq4l : Hid (q4 < w8.heap.size) := Lib.hid (lt_blk hq48.out)
        have hTb8 := Lib.hid (hTt.out.below (hbW.out.trans (hB8.out.mono hbW.out.size)))
        have hCat : Hid (∀ W rb, Below w8.heap.size w8 W → W.heap[rb]? = some (.cells #[.slice a1 e.ins.length d1, .slice a2 e.imp.length d2] 23 (0, 0)) → Calls Tryz.prog 23 #[.slice (some ⟨rb, 0, none⟩) 2 2] W fun x w' => ∃ Ad cd, x = .returned (.slice Ad nd cd) ∧ Kd.C Kd.string w' Ad nd ((e.ins ++ e.imp).map B) ∧ Below W.heap.size W w') := by
         refine Lib.hid (fun W rb hW hx => ?_)
         rw [← hndH.out]
         obtain ⟨_, _, _, _, e0, _, ⟨_, _, e1, m1, s1'⟩, ⟨_, _, e2, m2, s2'⟩, _⟩ := hed8.out
         simp only [List.cons.injEq] at e0
         obtain ⟨_, f1, f2, _, _⟩ := e0
         rw [← f1] at e1
         rw [← f2] at e2
         injection e1 with e11 _ e13
         injection e2 with e21 _ e23
         rw [← e11] at s1'
         rw [← e21] at s2'
         rw [← e13] at m1
         rw [← e23] at m2
         have hcat : catL [⟨a1, d1, e.ins⟩, ⟨a2, d2, e.imp⟩] = e.ins ++ e.imp := by simp [catL, List.flatten]
         have hnl : (needsL e).length ≤ 100 := hSH.out.i e hem.out
         have hlen : (e.ins ++ e.imp).length ≤ 100 := by
          unfold needsL at hnl
          rw [List.length_append] at hnl
          omega
         have := Concat_any rb 2 [⟨a1, d1, e.ins⟩, ⟨a2, d2, e.imp⟩] W (by
          intro i hi
          match i, hi with
          | 0, _ => exact ⟨(cell_of_heap (j := 0) hx).trans rfl, m1, Kd.C_below s1' hW⟩
          | 1, _ => exact ⟨(cell_of_heap (j := 1) hx).trans rfl, m2, Kd.C_below s2' hW⟩) (lt_blk hx) (by simp) (by rw [hcat]; omega)
         rw [hcat] at this
         generalize e.ins ++ e.imp = dl at this ⊢
         refine this.mono ?_
         rintro x w' ⟨v, rfl, ho, hb⟩
         obtain ⟨Ad, cd, rfl, _, hC⟩ := str_of_R (Kd.R_of_own (enc := Value.string) (ok := fun _ => True) (h1 := fun _ => rfl) (by simpa [encs, Function.comp_def] using ho) (fun _ _ => trivial))
         exact ⟨Ad, cd, rfl, hC, hb⟩
        obtain ⟨rD, hrD⟩ : ∃ r, cookE e.cmd ⟨e.ins ++ e.imp, fs⟩ = r := ⟨_, rfl⟩
        have hrDH := Lib.hid hrD
        clear hrD
        have hCook : Hid (∀ W Ad cd, Below w8.heap.size w8 W → Kd.C Kd.string W Ad nd ((e.ins ++ e.imp).map B) → Calls Tryz.prog 31 #[.string (B e.cmd), .slice Ad nd cd, .slice A8 nf c8] W fun x w' => Below W.heap.size W w' ∧ ∃ A n c once dep deps code, x = .returned (.tuple #[.agg #[.slice A n c, .bool once, .string (B dep), .string (B deps)], .int .i64 code]) ∧ Dished rD w' W.heap.size (.slice A n c) once dep deps code) := by
         refine Lib.hid (fun W Ad cd hW hC => ?_)
         rw [← hndH.out] at hC ⊢
         have hnl : (needsL e).length ≤ 100 := hSH.out.i e hem.out
         have hlen : (e.ins ++ e.imp).length ≤ 100 := by
          unfold needsL at hnl
          rw [List.length_append] at hnl
          omega
         have h := Cook_any e.cmd (hSH.out.c e hem.out) ⟨e.ins ++ e.imp, fs⟩ Ad A8 cd c8 W ⟨hC, by rw [List.length_map, hnfH.out]; exact Kd.C_below hC8.out hW, by show (e.ins ++ e.imp).length ≤ _; omega, by show fs.length ≤ _; rw [hnfH.out]; omega, hfb.out⟩ (hTb8.out.below hW)
         dsimp only at h
         rw [hnfH.out, hrDH.out] at h
         exact h.mono (fun x w' hk => cooked_form hk)
        have hSS : Hid (∀ W' : World, W'.heap[q4]? = some (.cells #[.slice a0 e.outs.length d0, .slice a1 e.ins.length d1, .slice a2 e.imp.length d2, .slice a3 e.ord.length d3, .string (B e.cmd), .string (B e.dep)] 35 (0, 0)) → (fun w' => w'.cell? ⟨q4, 4, none⟩ = some (.string (B e.cmd)) ∧ w'.cell? ⟨q4, 1, none⟩ = some (.slice a1 e.ins.length d1) ∧ w'.cell? ⟨q4, 2, none⟩ = some (.slice a2 e.imp.length d2)) W') := Lib.hid (fun W' h2 => ⟨(cell_of_heap (j := 4) h2).trans rfl, (cell_of_heap (j := 1) h2).trans rfl, (cell_of_heap (j := 2) h2).trans rfl⟩)
        have hb0 : Hid (Below w8.heap.size w8 w8.drew) := Lib.hid (Below.refl _ _).drew
        have hq4_0 : Hid (w8.drew.heap[q4]? = some (.cells #[.slice a0 e.outs.length d0, .slice a1 e.ins.length d1, .slice a2 e.imp.length d2, .slice a3 e.ord.length d3, .string (B e.cmd), .string (B e.dep)] 35 (0, 0))) := Lib.hid (below_blk hb0.out hq48.out)
        clear hC8 hfb hTb8
        go_cut [19, 20] (fun s19 s20 wx => ∃ q5 Ao no co once dep deps code, s19 = .pointer (some ⟨q5, 0, none⟩) ∧ s20 = .int .i64 code ∧ Hid (wx.heap[q5]? = some (.cells #[.slice Ao no co, .bool once, .string (B dep), .string (B deps)] 72 (0, 0))) ∧ Hid (Below w8.heap.size w8 wx) ∧ Hid (Dished rD wx w8.heap.size (.slice Ao no co) once dep deps code))
        case first =>
         refine RegP.regionT (fun w' => w'.cell? ⟨q4, 4, none⟩ = some (.string (B e.cmd)) ∧ w'.cell? ⟨q4, 1, none⟩ = some (.slice a1 e.ins.length d1) ∧ w'.cell? ⟨q4, 2, none⟩ = some (.slice a2 e.imp.length d2)) (.cons 0 0 (.cons 1 1 (.cons 0 2 (.cons 1 3 (.cons 0 4 (.cons 1 5 (.cons 0 8 (.fork 6 (.fork 7 (.fork 9 (.cons 0 10 (.cons 0 11 (.cons 0 12 (.cons 2 13 (.cons 2 14 (.cons 0 15 .nil)))))) 13 (.cons 2 9 (.cons 0 10 (.cons 0 11 (.cons 0 12 (.cons 2 14 (.cons 0 15 .nil))))))) 13 (.cons 2 7 (.cons 2 9 (.cons 0 10 (.cons 0 11 (.cons 0 12 (.cons 2 14 (.cons 0 15 .nil)))))))) 13 (.cons 2 6 (.cons 2 7 (.cons 2 9 (.cons 0 10 (.cons 0 11 (.cons 0 12 (.cons 2 14 (.cons 0 15 .nil)))))))))))))))) (by kernel_rfl) (by kernel_rfl) (by kernel_rfl) (by exact hSS.out _ hq4_0.out) ?_
         repeat ((first | refine RegP.puT ?_ | refine RegP.heT ?_); try simp only [Act.put, pA,pB,pC])
         refine RegP.forkT (by (simp only [gA,gB,gC]); rfl) (by (simp only [gA,gB,gC]); rfl) (fun K hK => ?_) (fun K hK => ?_)
         ·generalize w8.drew = y0 at *
          go_simp
          have hn := heap_alloc_new y0 (.cells #[.slice a1 e.ins.length d1, .slice a2 e.imp.length d2] 23)
          have ha := (Below.refl y0.heap.size y0).alloc (Nat.le_refl _) (.cells #[.slice a1 e.ins.length d1, .slice a2 e.imp.length d2] 23)
          generalize y0.alloc (.cells #[.slice a1 e.ins.length d1, .slice a2 e.imp.length d2] 23) = y1 at *
          have hlerb : Hid (w8.heap.size ≤ y0.heap.size) := Lib.hid hb0.out.size
          obtain ⟨rb, hrbe⟩ : ∃ x, y0.heap.size = x := ⟨_, rfl⟩
          have hnrb : Hid (y1.heap[rb]? = some (.cells #[.slice a1 e.ins.length d1, .slice a2 e.imp.length d2] 23 (0, 0))) := Lib.hid (by rw [← hrbe]; exact hn)
          have hlowrb : Hid (w8.heap.size ≤ rb) := Lib.hid (by rw [← hrbe]; exact hlerb.out)
          rw [hrbe]
          have hb1 := Lib.hid (hb0.out.trans (ha.mono hb0.out.size))
          have hq4_1 := Lib.hid (below_blk ha hq4_0.out)
          have hrb_1 := hnrb
          clear hn ha hrbe hlerb
          refine hK.out _ _ ?_ (fun hHeld => ?_)
          ·(try dsimp only); exact hSS.out _ hq4_1.out
          clear hK K
          try simp only [Act.put, pA,pB,pC]
          refine RegP.forkT (by (simp only [gA,gB,gC]); rfl) (by (simp only [gA,gB,gC]); rfl) (fun K hK => ?_) (fun K hK => ?_)
          ·go_simp
           have hcc := hCat.out y1 rb hb1.out hrb_1.out
           refine hcc.mono ?_
           rintro x9 y2 ⟨Ad, cd, rfl, hC, hb⟩
           have hb2 := Lib.hid (hb1.out.trans (hb.mono hb1.out.size))
           have hq4_2 := Lib.hid (below_blk hb hq4_1.out)
           have hdl_2 := Lib.hid hC
           clear hC hb hcc
           refine hK.out _ _ ?_ (fun hHeld => ?_)
           ·(try dsimp only); exact hSS.out _ hq4_2.out
           clear hK K
           try simp only [Act.put, pA,pB,pC]
           refine RegP.forkT (by (simp only [gA,gB,gC]); rfl) (by (simp only [gA,gB,gC]); rfl) (fun K hK => ?_) (fun K hK => ?_)
           ·go_simp
            have hck := hCook.out y2 Ad cd hb2.out hdl_2.out
            refine hck.mono ?_
            rintro x9 y3 ⟨hb, Ao, no, co, once, dep, deps, code, rfl, hdi⟩
            have hdi_3 := Lib.hid (hdi.lower (base' := w8.heap.size) hb2.out.size)
            have hb3 := Lib.hid (hb2.out.trans (hb.mono hb2.out.size))
            have hq4_3 := Lib.hid (below_blk hb hq4_2.out)
            clear hb hdi hck
            refine hK.out _ _ ?_ (fun hHeld => ?_)
            ·(try dsimp only); exact hSS.out _ hq4_3.out
            clear hK K
            try simp only [Act.put, pA,pB,pC]
            repeat ((first | refine RegP.puT ?_ | refine RegP.heT ?_); try simp only [Act.put, pA,pB,pC])
            refine RegP.evT (by (simp only [gA,gB,gC]); rfl) (fun K hK => ?_)
            go_simp
            have hn := heap_alloc_new y3 (.cells #[.slice none 0 0, .bool false, .string ⟨#[]⟩, .string ⟨#[]⟩] 72)
            have ha := (Below.refl y3.heap.size y3).alloc (Nat.le_refl _) (.cells #[.slice none 0 0, .bool false, .string ⟨#[]⟩, .string ⟨#[]⟩] 72)
            generalize y3.alloc (.cells #[.slice none 0 0, .bool false, .string ⟨#[]⟩, .string ⟨#[]⟩] 72) = y4 at *
            have hleq5 : Hid (w8.heap.size ≤ y3.heap.size) := Lib.hid hb3.out.size
            obtain ⟨q5, hq5e⟩ : ∃ x, y3.heap.size = x := ⟨_, rfl⟩
            have hnq5 : Hid (y4.heap[q5]? = some (.cells #[.slice none 0 0, .bool false, .string ⟨#[]⟩, .string ⟨#[]⟩] 72 (0, 0))) := Lib.hid (by rw [← hq5e]; exact hn)
            have hlowq5 : Hid (w8.heap.size ≤ q5) := Lib.hid (by rw [← hq5e]; exact hleq5.out)
            rw [hq5e]
            have hb4 := Lib.hid (hb3.out.trans (ha.mono hb3.out.size))
            have hq4_4 := Lib.hid (below_blk ha hq4_3.out)
            have hdi_4 := Lib.hid (hdi_3.out.below ha)
            have hd5_4 := hnq5
            clear hn ha hq5e hleq5
            refine hK.out _ _ ?_ (fun hHeld => ?_)
            ·(try dsimp only); exact hSS.out _ hq4_4.out
            clear hK K
            try simp only [Act.put, pA,pB,pC]
            refine RegP.evT (by (simp only [gA,gB,gC]); rfl) (fun K hK => ?_)
            have u0 := (cell_of_heap (j := 0) hd5_4.out).trans rfl
            have u1 := (cell_of_heap (j := 1) hd5_4.out).trans rfl
            have u2 := (cell_of_heap (j := 2) hd5_4.out).trans rfl
            have u3 := (cell_of_heap (j := 3) hd5_4.out).trans rfl
            have uf0 := frozen_of_heap hd5_4.out 0
            have uf1 := frozen_of_heap hd5_4.out 1
            have uf2 := frozen_of_heap hd5_4.out 2
            have uf3 := frozen_of_heap hd5_4.out 3
            go_simp
            clear u0 u1 u2 u3 uf0 uf1 uf2 uf3
            have hd5z : Hid (((((y4.setCell ⟨q5, 0, none⟩ (.slice Ao no co)).setCell ⟨q5, 1, none⟩ (.bool once)).setCell ⟨q5, 2, none⟩ (.string (B dep))).setCell ⟨q5, 3, none⟩ (.string (B deps))).heap[q5]? = some (.cells #[.slice Ao no co, .bool once, .string (B dep), .string (B deps)] 72 (0, 0))) := Lib.hid (blk_put (blk_put (blk_put (blk_put hd5_4.out 0 _ rfl) 1 _ rfl) 2 _ rfl) 3 _ rfl)
            have hdiz := Lib.hid (dish_stored hdi_4.out hd5_4.out (.slice Ao no co) (.bool once) (.string (B dep)) (.string (B deps)))
            have hbz := Lib.hid (below_stored hb4.out hlowq5.out (.slice Ao no co) (.bool once) (.string (B dep)) (.string (B deps)))
            have hq4z := Lib.hid (heap_stored (g := q5) (by have := hlowq5.out; have := hq4l.out; omega) hq4_4.out (.slice Ao no co) (.bool once) (.string (B dep)) (.string (B deps)))
            generalize (((y4.setCell ⟨q5, 0, none⟩ (.slice Ao no co)).setCell ⟨q5, 1, none⟩ (.bool once)).setCell ⟨q5, 2, none⟩ (.string (B dep))).setCell ⟨q5, 3, none⟩ (.string (B deps)) = y5 at *
            refine hK.out _ _ ?_ (fun hHeld => ?_)
            ·(try dsimp only); exact hSS.out _ hq4z.out
            clear hK K
            try simp only [Act.put, pA,pB,pC]
            repeat ((first | refine RegP.puT ?_ | refine RegP.heT ?_); try simp only [Act.put, pA,pB,pC])
            refine RegP.doneT ?_
            clear hHeld
            try dsimp only
            go_wp2_with fail
            go_meet
            exact ⟨q5, Ao, no, co, once, dep, deps, code, rfl, rfl, hd5z, hbz, hdiz⟩
           ·go_simp
            have hn := heap_alloc_new y2 (.cells #[.slice none 0 0, .bool false, .string ⟨#[]⟩, .string ⟨#[]⟩] 72)
            have ha := (Below.refl y2.heap.size y2).alloc (Nat.le_refl _) (.cells #[.slice none 0 0, .bool false, .string ⟨#[]⟩, .string ⟨#[]⟩] 72)
            generalize y2.alloc (.cells #[.slice none 0 0, .bool false, .string ⟨#[]⟩, .string ⟨#[]⟩] 72) = y3 at *
            have hleq5 : Hid (w8.heap.size ≤ y2.heap.size) := Lib.hid hb2.out.size
            obtain ⟨q5, hq5e⟩ : ∃ x, y2.heap.size = x := ⟨_, rfl⟩
            have hnq5 : Hid (y3.heap[q5]? = some (.cells #[.slice none 0 0, .bool false, .string ⟨#[]⟩, .string ⟨#[]⟩] 72 (0, 0))) := Lib.hid (by rw [← hq5e]; exact hn)
            have hlowq5 : Hid (w8.heap.size ≤ q5) := Lib.hid (by rw [← hq5e]; exact hleq5.out)
            rw [hq5e]
            have hb3 := Lib.hid (hb2.out.trans (ha.mono hb2.out.size))
            have hq4_3 := Lib.hid (below_blk ha hq4_2.out)
            have hdl_3 := Lib.hid (Kd.C_below hdl_2.out ha)
            have hd5_3 := hnq5
            clear hn ha hq5e hleq5
            refine hK.out _ _ ?_ (fun hHeld => ?_)
            ·(try dsimp only); exact hSS.out _ hq4_3.out
            clear hK K
            try simp only [Act.put, pA,pB,pC]
            refine RegP.evT (by (simp only [gA,gB,gC]); rfl) (fun K hK => ?_)
            go_simp
            have hck := hCook.out y3 Ad cd hb3.out hdl_3.out
            refine hck.mono ?_
            rintro x9 y4 ⟨hb, Ao, no, co, once, dep, deps, code, rfl, hdi⟩
            have hdi_4 := Lib.hid (hdi.lower (base' := w8.heap.size) hb3.out.size)
            have hb4 := Lib.hid (hb3.out.trans (hb.mono hb3.out.size))
            have hq4_4 := Lib.hid (below_blk hb hq4_3.out)
            have hd5_4 := Lib.hid (below_blk hb hd5_3.out)
            clear hb hdi hck
            refine hK.out _ _ ?_ (fun hHeld => ?_)
            ·(try dsimp only); exact hSS.out _ hq4_4.out
            clear hK K
            try simp only [Act.put, pA,pB,pC]
            repeat ((first | refine RegP.puT ?_ | refine RegP.heT ?_); try simp only [Act.put, pA,pB,pC])
            refine RegP.evT (by (simp only [gA,gB,gC]); rfl) (fun K hK => ?_)
            have u0 := (cell_of_heap (j := 0) hd5_4.out).trans rfl
            have u1 := (cell_of_heap (j := 1) hd5_4.out).trans rfl
            have u2 := (cell_of_heap (j := 2) hd5_4.out).trans rfl
            have u3 := (cell_of_heap (j := 3) hd5_4.out).trans rfl
            have uf0 := frozen_of_heap hd5_4.out 0
            have uf1 := frozen_of_heap hd5_4.out 1
            have uf2 := frozen_of_heap hd5_4.out 2
            have uf3 := frozen_of_heap hd5_4.out 3
            go_simp
            clear u0 u1 u2 u3 uf0 uf1 uf2 uf3
            have hd5z : Hid (((((y4.setCell ⟨q5, 0, none⟩ (.slice Ao no co)).setCell ⟨q5, 1, none⟩ (.bool once)).setCell ⟨q5, 2, none⟩ (.string (B dep))).setCell ⟨q5, 3, none⟩ (.string (B deps))).heap[q5]? = some (.cells #[.slice Ao no co, .bool once, .string (B dep), .string (B deps)] 72 (0, 0))) := Lib.hid (blk_put (blk_put (blk_put (blk_put hd5_4.out 0 _ rfl) 1 _ rfl) 2 _ rfl) 3 _ rfl)
            have hdiz := Lib.hid (dish_stored hdi_4.out hd5_4.out (.slice Ao no co) (.bool once) (.string (B dep)) (.string (B deps)))
            have hbz := Lib.hid (below_stored hb4.out hlowq5.out (.slice Ao no co) (.bool once) (.string (B dep)) (.string (B deps)))
            have hq4z := Lib.hid (heap_stored (g := q5) (by have := hlowq5.out; have := hq4l.out; omega) hq4_4.out (.slice Ao no co) (.bool once) (.string (B dep)) (.string (B deps)))
            generalize (((y4.setCell ⟨q5, 0, none⟩ (.slice Ao no co)).setCell ⟨q5, 1, none⟩ (.bool once)).setCell ⟨q5, 2, none⟩ (.string (B dep))).setCell ⟨q5, 3, none⟩ (.string (B deps)) = y5 at *
            refine hK.out _ _ ?_ (fun hHeld => ?_)
            ·(try dsimp only); exact hSS.out _ hq4z.out
            clear hK K
            try simp only [Act.put, pA,pB,pC]
            repeat ((first | refine RegP.puT ?_ | refine RegP.heT ?_); try simp only [Act.put, pA,pB,pC])
            refine RegP.doneT ?_
            clear hHeld
            try dsimp only
            go_wp2_with fail
            go_meet
            exact ⟨q5, Ao, no, co, once, dep, deps, code, rfl, rfl, hd5z, hbz, hdiz⟩
          ·go_simp
           have hn := heap_alloc_new y1 (.cells #[.slice none 0 0, .bool false, .string ⟨#[]⟩, .string ⟨#[]⟩] 72)
           have ha := (Below.refl y1.heap.size y1).alloc (Nat.le_refl _) (.cells #[.slice none 0 0, .bool false, .string ⟨#[]⟩, .string ⟨#[]⟩] 72)
           generalize y1.alloc (.cells #[.slice none 0 0, .bool false, .string ⟨#[]⟩, .string ⟨#[]⟩] 72) = y2 at *
           have hleq5 : Hid (w8.heap.size ≤ y1.heap.size) := Lib.hid hb1.out.size
           obtain ⟨q5, hq5e⟩ : ∃ x, y1.heap.size = x := ⟨_, rfl⟩
           have hnq5 : Hid (y2.heap[q5]? = some (.cells #[.slice none 0 0, .bool false, .string ⟨#[]⟩, .string ⟨#[]⟩] 72 (0, 0))) := Lib.hid (by rw [← hq5e]; exact hn)
           have hlowq5 : Hid (w8.heap.size ≤ q5) := Lib.hid (by rw [← hq5e]; exact hleq5.out)
           rw [hq5e]
           have hb2 := Lib.hid (hb1.out.trans (ha.mono hb1.out.size))
           have hq4_2 := Lib.hid (below_blk ha hq4_1.out)
           have hrb_2 := Lib.hid (below_blk ha hrb_1.out)
           have hd5_2 := hnq5
           clear hn ha hq5e hleq5
           refine hK.out _ _ ?_ (fun hHeld => ?_)
           ·(try dsimp only); exact hSS.out _ hq4_2.out
           clear hK K
           try simp only [Act.put, pA,pB,pC]
           refine RegP.evT (by (simp only [gA,gB,gC]); rfl) (fun K hK => ?_)
           go_simp
           have hcc := hCat.out y2 rb hb2.out hrb_2.out
           refine hcc.mono ?_
           rintro x9 y3 ⟨Ad, cd, rfl, hC, hb⟩
           have hb3 := Lib.hid (hb2.out.trans (hb.mono hb2.out.size))
           have hq4_3 := Lib.hid (below_blk hb hq4_2.out)
           have hdl_3 := Lib.hid hC
           have hd5_3 := Lib.hid (below_blk hb hd5_2.out)
           clear hC hb hcc
           refine hK.out _ _ ?_ (fun hHeld => ?_)
           ·(try dsimp only); exact hSS.out _ hq4_3.out
           clear hK K
           try simp only [Act.put, pA,pB,pC]
           refine RegP.evT (by (simp only [gA,gB,gC]); rfl) (fun K hK => ?_)
           go_simp
           have hck := hCook.out y3 Ad cd hb3.out hdl_3.out
           refine hck.mono ?_
           rintro x9 y4 ⟨hb, Ao, no, co, once, dep, deps, code, rfl, hdi⟩
           have hdi_4 := Lib.hid (hdi.lower (base' := w8.heap.size) hb3.out.size)
           have hb4 := Lib.hid (hb3.out.trans (hb.mono hb3.out.size))
           have hq4_4 := Lib.hid (below_blk hb hq4_3.out)
           have hd5_4 := Lib.hid (below_blk hb hd5_3.out)
           clear hb hdi hck
           refine hK.out _ _ ?_ (fun hHeld => ?_)
           ·(try dsimp only); exact hSS.out _ hq4_4.out
           clear hK K
           try simp only [Act.put, pA,pB,pC]
           repeat ((first | refine RegP.puT ?_ | refine RegP.heT ?_); try simp only [Act.put, pA,pB,pC])
           refine RegP.evT (by (simp only [gA,gB,gC]); rfl) (fun K hK => ?_)
           have u0 := (cell_of_heap (j := 0) hd5_4.out).trans rfl
           have u1 := (cell_of_heap (j := 1) hd5_4.out).trans rfl
           have u2 := (cell_of_heap (j := 2) hd5_4.out).trans rfl
           have u3 := (cell_of_heap (j := 3) hd5_4.out).trans rfl
           have uf0 := frozen_of_heap hd5_4.out 0
           have uf1 := frozen_of_heap hd5_4.out 1
           have uf2 := frozen_of_heap hd5_4.out 2
           have uf3 := frozen_of_heap hd5_4.out 3
           go_simp
           clear u0 u1 u2 u3 uf0 uf1 uf2 uf3
           have hd5z : Hid (((((y4.setCell ⟨q5, 0, none⟩ (.slice Ao no co)).setCell ⟨q5, 1, none⟩ (.bool once)).setCell ⟨q5, 2, none⟩ (.string (B dep))).setCell ⟨q5, 3, none⟩ (.string (B deps))).heap[q5]? = some (.cells #[.slice Ao no co, .bool once, .string (B dep), .string (B deps)] 72 (0, 0))) := Lib.hid (blk_put (blk_put (blk_put (blk_put hd5_4.out 0 _ rfl) 1 _ rfl) 2 _ rfl) 3 _ rfl)
           have hdiz := Lib.hid (dish_stored hdi_4.out hd5_4.out (.slice Ao no co) (.bool once) (.string (B dep)) (.string (B deps)))
           have hbz := Lib.hid (below_stored hb4.out hlowq5.out (.slice Ao no co) (.bool once) (.string (B dep)) (.string (B deps)))
           have hq4z := Lib.hid (heap_stored (g := q5) (by have := hlowq5.out; have := hq4l.out; omega) hq4_4.out (.slice Ao no co) (.bool once) (.string (B dep)) (.string (B deps)))
           generalize (((y4.setCell ⟨q5, 0, none⟩ (.slice Ao no co)).setCell ⟨q5, 1, none⟩ (.bool once)).setCell ⟨q5, 2, none⟩ (.string (B dep))).setCell ⟨q5, 3, none⟩ (.string (B deps)) = y5 at *
           refine hK.out _ _ ?_ (fun hHeld => ?_)
           ·(try dsimp only); exact hSS.out _ hq4z.out
           clear hK K
           try simp only [Act.put, pA,pB,pC]
           repeat ((first | refine RegP.puT ?_ | refine RegP.heT ?_); try simp only [Act.put, pA,pB,pC])
           refine RegP.doneT ?_
           clear hHeld
           try dsimp only
           go_wp2_with fail
           go_meet
           exact ⟨q5, Ao, no, co, once, dep, deps, code, rfl, rfl, hd5z, hbz, hdiz⟩
         ·generalize w8.drew = y0 at *
          go_simp
          have hn := heap_alloc_new y0 (.cells #[.slice none 0 0, .bool false, .string ⟨#[]⟩, .string ⟨#[]⟩] 72)
          have ha := (Below.refl y0.heap.size y0).alloc (Nat.le_refl _) (.cells #[.slice none 0 0, .bool false, .string ⟨#[]⟩, .string ⟨#[]⟩] 72)
          generalize y0.alloc (.cells #[.slice none 0 0, .bool false, .string ⟨#[]⟩, .string ⟨#[]⟩] 72) = y1 at *
          have hleq5 : Hid (w8.heap.size ≤ y0.heap.size) := Lib.hid hb0.out.size
          obtain ⟨q5, hq5e⟩ : ∃ x, y0.heap.size = x := ⟨_, rfl⟩
          have hnq5 : Hid (y1.heap[q5]? = some (.cells #[.slice none 0 0, .bool false, .string ⟨#[]⟩, .string ⟨#[]⟩] 72 (0, 0))) := Lib.hid (by rw [← hq5e]; exact hn)
          have hlowq5 : Hid (w8.heap.size ≤ q5) := Lib.hid (by rw [← hq5e]; exact hleq5.out)
          rw [hq5e]
          have hb1 := Lib.hid (hb0.out.trans (ha.mono hb0.out.size))
          have hq4_1 := Lib.hid (below_blk ha hq4_0.out)
          have hd5_1 := hnq5
          clear hn ha hq5e hleq5
          refine hK.out _ _ ?_ (fun hHeld => ?_)
          ·(try dsimp only); exact hSS.out _ hq4_1.out
          clear hK K
          try simp only [Act.put, pA,pB,pC]
          refine RegP.evT (by (simp only [gA,gB,gC]); rfl) (fun K hK => ?_)
          go_simp
          have hn := heap_alloc_new y1 (.cells #[.slice a1 e.ins.length d1, .slice a2 e.imp.length d2] 23)
          have ha := (Below.refl y1.heap.size y1).alloc (Nat.le_refl _) (.cells #[.slice a1 e.ins.length d1, .slice a2 e.imp.length d2] 23)
          generalize y1.alloc (.cells #[.slice a1 e.ins.length d1, .slice a2 e.imp.length d2] 23) = y2 at *
          have hlerb : Hid (w8.heap.size ≤ y1.heap.size) := Lib.hid hb1.out.size
          obtain ⟨rb, hrbe⟩ : ∃ x, y1.heap.size = x := ⟨_, rfl⟩
          have hnrb : Hid (y2.heap[rb]? = some (.cells #[.slice a1 e.ins.length d1, .slice a2 e.imp.length d2] 23 (0, 0))) := Lib.hid (by rw [← hrbe]; exact hn)
          have hlowrb : Hid (w8.heap.size ≤ rb) := Lib.hid (by rw [← hrbe]; exact hlerb.out)
          rw [hrbe]
          have hb2 := Lib.hid (hb1.out.trans (ha.mono hb1.out.size))
          have hq4_2 := Lib.hid (below_blk ha hq4_1.out)
          have hd5_2 := Lib.hid (below_blk ha hd5_1.out)
          have hrb_2 := hnrb
          clear hn ha hrbe hlerb
          refine hK.out _ _ ?_ (fun hHeld => ?_)
          ·(try dsimp only); exact hSS.out _ hq4_2.out
          clear hK K
          try simp only [Act.put, pA,pB,pC]
          refine RegP.evT (by (simp only [gA,gB,gC]); rfl) (fun K hK => ?_)
          go_simp
          have hcc := hCat.out y2 rb hb2.out hrb_2.out
          refine hcc.mono ?_
          rintro x9 y3 ⟨Ad, cd, rfl, hC, hb⟩
          have hb3 := Lib.hid (hb2.out.trans (hb.mono hb2.out.size))
          have hq4_3 := Lib.hid (below_blk hb hq4_2.out)
          have hdl_3 := Lib.hid hC
          have hd5_3 := Lib.hid (below_blk hb hd5_2.out)
          clear hC hb hcc
          refine hK.out _ _ ?_ (fun hHeld => ?_)
          ·(try dsimp only); exact hSS.out _ hq4_3.out
          clear hK K
          try simp only [Act.put, pA,pB,pC]
          refine RegP.evT (by (simp only [gA,gB,gC]); rfl) (fun K hK => ?_)
          go_simp
          have hck := hCook.out y3 Ad cd hb3.out hdl_3.out
          refine hck.mono ?_
          rintro x9 y4 ⟨hb, Ao, no, co, once, dep, deps, code, rfl, hdi⟩
          have hdi_4 := Lib.hid (hdi.lower (base' := w8.heap.size) hb3.out.size)
          have hb4 := Lib.hid (hb3.out.trans (hb.mono hb3.out.size))
          have hq4_4 := Lib.hid (below_blk hb hq4_3.out)
          have hd5_4 := Lib.hid (below_blk hb hd5_3.out)
          clear hb hdi hck
          refine hK.out _ _ ?_ (fun hHeld => ?_)
          ·(try dsimp only); exact hSS.out _ hq4_4.out
          clear hK K
          try simp only [Act.put, pA,pB,pC]
          repeat ((first | refine RegP.puT ?_ | refine RegP.heT ?_); try simp only [Act.put, pA,pB,pC])
          refine RegP.evT (by (simp only [gA,gB,gC]); rfl) (fun K hK => ?_)
          have u0 := (cell_of_heap (j := 0) hd5_4.out).trans rfl
          have u1 := (cell_of_heap (j := 1) hd5_4.out).trans rfl
          have u2 := (cell_of_heap (j := 2) hd5_4.out).trans rfl
          have u3 := (cell_of_heap (j := 3) hd5_4.out).trans rfl
          have uf0 := frozen_of_heap hd5_4.out 0
          have uf1 := frozen_of_heap hd5_4.out 1
          have uf2 := frozen_of_heap hd5_4.out 2
          have uf3 := frozen_of_heap hd5_4.out 3
          go_simp
          clear u0 u1 u2 u3 uf0 uf1 uf2 uf3
          have hd5z : Hid (((((y4.setCell ⟨q5, 0, none⟩ (.slice Ao no co)).setCell ⟨q5, 1, none⟩ (.bool once)).setCell ⟨q5, 2, none⟩ (.string (B dep))).setCell ⟨q5, 3, none⟩ (.string (B deps))).heap[q5]? = some (.cells #[.slice Ao no co, .bool once, .string (B dep), .string (B deps)] 72 (0, 0))) := Lib.hid (blk_put (blk_put (blk_put (blk_put hd5_4.out 0 _ rfl) 1 _ rfl) 2 _ rfl) 3 _ rfl)
          have hdiz := Lib.hid (dish_stored hdi_4.out hd5_4.out (.slice Ao no co) (.bool once) (.string (B dep)) (.string (B deps)))
          have hbz := Lib.hid (below_stored hb4.out hlowq5.out (.slice Ao no co) (.bool once) (.string (B dep)) (.string (B deps)))
          have hq4z := Lib.hid (heap_stored (g := q5) (by have := hlowq5.out; have := hq4l.out; omega) hq4_4.out (.slice Ao no co) (.bool once) (.string (B dep)) (.string (B deps)))
          generalize (((y4.setCell ⟨q5, 0, none⟩ (.slice Ao no co)).setCell ⟨q5, 1, none⟩ (.bool once)).setCell ⟨q5, 2, none⟩ (.string (B dep))).setCell ⟨q5, 3, none⟩ (.string (B deps)) = y5 at *
          refine hK.out _ _ ?_ (fun hHeld => ?_)
          ·(try dsimp only); exact hSS.out _ hq4z.out
          clear hK K
          try simp only [Act.put, pA,pB,pC]
          repeat ((first | refine RegP.puT ?_ | refine RegP.heT ?_); try simp only [Act.put, pA,pB,pC])
          refine RegP.doneT ?_
          clear hHeld
          try dsimp only
          go_wp2_with fail
          go_meet
          exact ⟨q5, Ao, no, co, once, dep, deps, code, rfl, rfl, hd5z, hbz, hdiz⟩
        case rest =>
         obtain ⟨q5, Ao, no, co, once, dep, deps, code, rfl, rfl, hd5, hbx, hdi⟩ := hcut
         have hq4c := Lib.hid (below_blk hbx.out hq48.out)
         have hedc := Lib.hid (hed8.out.below hbx.out)
         have hBc := Lib.hid (hB8.out.trans (hbx.out.mono hB8.out.size))
         have hBw := Lib.hid (hB.out.trans ((hbW.out.trans (hBc.out.mono hbW.out.size)).mono hB.out.size))
         have hdrop := Lib.hid (List.drop_eq_getElem_cons hi)
         have u0 := (cell_of_heap (j := 0) hd5.out).trans rfl
         have u1 := (cell_of_heap (j := 1) hd5.out).trans rfl
         have u2 := (cell_of_heap (j := 2) hd5.out).trans rfl
         have u3 := (cell_of_heap (j := 3) hd5.out).trans rfl
         have x0 := (cell_of_heap (j := 0) hq4c.out).trans rfl
         have x1 := (cell_of_heap (j := 1) hq4c.out).trans rfl
         have x2 := (cell_of_heap (j := 2) hq4c.out).trans rfl
         have x3 := (cell_of_heap (j := 3) hq4c.out).trans rfl
         have x4 := (cell_of_heap (j := 4) hq4c.out).trans rfl
         have x5 := (cell_of_heap (j := 5) hq4c.out).trans rfl
         rw [← hfsH.out] at hrDH
         clear hCat hCook hSS hb0 hq4_0 hbx hed8 hq48 hB8
         cases rD with
         | none =>
          obtain ⟨_, rfl⟩ := hdi.out
          have hnoH : Hid (EvalIs ownB es defs l none) := Lib.hid (.inr ⟨pl, hPOH.out, by rw [hLI.out.ev, hdrop.out, hn0H.out, go_fails heH.out hmiH.out hrDH.out]⟩)
          go_wp2_with fail
          go_ret2
          exact Evals.no 13 hBw.out rfl hnoH.out
         | some D =>
          obtain ⟨rfl, hdep, names, bb, houts, hO⟩ := hdi.out
          obtain ⟨qs', hRM, hRo, hnm⟩ := outs_pairs hO
          obtain ⟨Ax, cx, heo⟩ := Kd.R_slice hRo
          injection heo with e1 heo e3
          clear e1 e3
          have hft := Fits_any [.slice a0 e.outs.length d0, .slice a1 e.ins.length d1, .slice a2 e.imp.length d2, .slice a3 e.ord.length d3, .string (B e.cmd), .string (B e.dep)] e (.slice Ao no co) qs' once dep deps wc hedc.out (pairs_of_R hRo) (by have := hSH.out.o e hem.out; omega)
          rw [hnm, fits_is hdep houts] at hft
          have hftH := Lib.hid hft
          have hRMH := Lib.hid hRM
          have hRoH := Lib.hid hRo
          have hnmH := Lib.hid hnm
          have heoH := Lib.hid heo
          have houtsH := Lib.hid houts
          clear hft hRM hRo hnm heo houts hO hdep
          cases hf : fitsL e D with
          | false =>
           rw [hf] at hftH
           have hnoH : Hid (EvalIs ownB es defs l none) := Lib.hid (.inr ⟨pl, hPOH.out, by rw [hLI.out.ev, hdrop.out, hn0H.out, go_unfit heH.out hmiH.out hrDH.out hf]⟩)
           clear hf
           go_wp2_with fail
           refine hftH.out.mono ?_
           rintro x10 w10 ⟨rfl, hb⟩
           have hBx := Lib.hid (hBw.out.trans (hb.mono hBw.out.size))
           clear hb
           go_wp2_with fail
           go_ret2
           exact Evals.no 13 hBx.out rfl hnoH.out
          | true =>
           rw [hf] at hftH
           have hfH := Lib.hid hf
           clear hf
           go_wp2_with fail
           refine hftH.out.mono ?_
           rintro x10 w10 ⟨rfl, hb⟩
           have hB10 := Lib.hid (hBc.out.trans (hb.mono hBc.out.size))
           have hRM10 := Lib.hid (hRMH.out.later hb)
           have hRo10 := Lib.hid (Kd.R_below hRoH.out hb)
           have hd10 := Lib.hid (below_blk hb hd5.out)
           have hRs := Lib.hid (Kd.R_below hLI.out.row hB10.out)
           clear hb u0 u1 u2 u3 x0 x1 x2 x3 x4 x5 hftH hRMH hRoH hd5
           have u0 := (cell_of_heap (j := 0) hd10.out).trans rfl
           have hno : no ≤ 10 := by
            have h1 := hfH.out
            unfold fitsL at h1
            have h2 := of_decide_eq_true (Bool.and_eq_true_iff.1 h1).2
            have h3 := congrArg List.length h2
            rw [houtsH.out, List.length_map, List.length_map] at h3
            have h4 := congrArg List.length hnmH.out
            rw [List.length_map] at h4
            have h5 := heoH.out
            have h6 := hSH.out.o e hem.out
            omega
           have hnpl : np ≤ 300 := by have := hLI.out.len; have := hnpH.out; omega
           have hCo : Hid (ReadsRow (fun p cs => cs = pcells p) KP.sz w10 Ao no qs') := by
            obtain ⟨_, _, e1, _, s8⟩ := pairs_of_R hRo10.out
            injection e1 with e11 e12 _
            rw [← e11, ← e12] at s8
            exact Lib.hid (kp_reads s8)
           have hbd : (ps.length + no) * 40 ≤ 140737488355328 := by rw [hnpH.out]; omega
           go_wp2_with (at_builtin; go_loud (refine Kd.R_append_rows KP (Rr := fun p cs => cs = pcells p) (w0 := w10) Wb.heap.size rfl _ _ 36 40 zeroF 40 rfl Tryz.underlying36 infoFile rfl (by decide) (by decide) (.slice A12 np c12) ps qs' Ao no co (fun _ => True) (fun _ => False) rfl rfl hRs.out hCo.out (fun _ _ h => KP_MK h) (fun _ h => h.elim) (fun _ _ => trivial) (Below.refl _ _) (Nat.le_trans hbW.out.size hB10.out.size) hbd ?_))
           intro v11 w11 hR11 _ hg11 _
           have hLn : Hid (LoopI Wb es l pl (i + 1) v11 (ps ++ qs') (made ++ D.outs) w11) := by
            have hc := hrDH.out
            have hh := heH.out
            rw [← hn0H.out] at hc hh
            exact Lib.hid (hLI.out.next hi hh hmiH.out hc hfH.out houtsH.out hB10.out hRM10.out hg11 hR11 (hSH.out.o e hem.out) (fun f hf => hSH.out.x e hem.out f (.inl hf)))
           clear hR11 hg11 u0
           go_wp2_with fail
           go_roundg gk
           case measure => omega
           case rel => exact ⟨i + 1, ps ++ qs', made ++ D.outs, by first | rfl | simp, by omega, hLn⟩
end Go.Proofs.YtnegfigaiomehaaGreatDoor.Tp
end
section
namespace Go.Proofs.YtnegfigaiomehaaGreatDoor.Tp
open Go.RowKit Go.Lib Go.Shelf Go.Maps Go.Proofs.YtnegfigaiomehaaGreatDoorW.PrintWords Go.Proofs.YtnegfigaiomehaaGreatDoorW.PrintLast Go.Proofs.YtnegfigaiomehaaGreatDoorW.PrintMore Go.Proofs.YtnegfigaiomehaaGreatDoor.U Go.Proofs.YtnegfigaiomehaaGreatDoor.P Go.Proofs.YtnegfigaiomehaaGreatDoor.MapV Go.Proofs.YtnegfigaiomehaaGreatDoor.Ck
def Raw (x : List Value) : Prop := x.length = 6 ∧ ∀ u ∈ x, u.oneCell' = true
def KO : Kd (List Value) where
 sz := 6
 E := []
 K := fun _ x cs => cs = x ∧ Raw x
 M := fun _ _ _ x cs => cs = x ∧ Raw x
 K_len := fun h => by rw [h.1]; exact h.2.1
 K_one := fun h u hu => h.2.2 u (by rw [← h.1]; exact hu)
 K_below := fun _ h => h
 K_of_M := fun h => h
 M_mono := fun _ h => h
 M_bound := fun h => h
 M_move := fun _ h => h
 M_lower := fun _ h => h
inductive RowE (w : World) : List (List Value) → List EdgeL → Prop
 | nil : RowE w [] []
 | cons {r : List Value} {e : EdgeL} {rs : List (List Value)} {es : List EdgeL} : KE.K w (toE e) r → RowE w rs es → RowE w (r :: rs) (e :: es)
theorem RowE.snoc {w : World} {rs : List (List Value)} {es : List EdgeL} (h : RowE w rs es) {r : List Value} {e : EdgeL} (hr : KE.K w (toE e) r) : RowE w (rs ++ [r]) (es ++ [e]) := by
 induction h with
 | nil => exact .cons hr .nil
 | cons h1 _ ih => exact .cons h1 ih
theorem RowE.later {w w' : World} {rs : List (List Value)} {es : List EdgeL} (h : RowE w rs es) (hb : Below w.heap.size w w') : RowE w' rs es := by
 induction h with
 | nil => exact .nil
 | cons h1 _ ih => exact .cons (KE.K_below hb h1) ih
theorem RowE.len {w : World} {rs : List (List Value)} {es : List EdgeL} (h : RowE w rs es) : rs.length = es.length := by
 induction h with
 | nil => rfl
 | cons _ _ ih => rw [List.length_cons, List.length_cons, ih]
theorem RowE.get {w : World} {rs : List (List Value)} {es : List EdgeL} (h : RowE w rs es) : ∀ (i : Nat) (hi : i < rs.length) (hj : i < es.length), KE.K w (toE es[i]) rs[i] := by
 induction h with
 | nil => exact fun i hi => absurd hi (by simp)
 | cons h1 _ ih =>
  intro i hi hj
  cases i with
  | zero => exact h1
  | succ i => exact ih i (by simpa using hi) (by simpa using hj)
theorem edges_of {w : World} {A : Option Addr} {n : Nat} {rs : List (List Value)} {es : List EdgeL} (h : Kd.C KO w A n rs) (hr : RowE w rs es) : Kd.C KE w A n (es.map toE) := by
 have hl := hr.len
 refine ⟨by rw [List.length_map, ← hl]; exact h.1, h.2.1, fun h0 => ?_⟩
 obtain ⟨ad, hA, hc⟩ := h.2.2 h0
 refine ⟨ad, hA, fun j x hj => ?_⟩
 rw [List.getElem?_map] at hj
 obtain ⟨f, hf, rfl⟩ := Option.map_eq_some_iff.1 hj
 obtain ⟨hjl, rfl⟩ := List.getElem?_eq_some_iff.1 hf
 obtain ⟨c, hcl, hK, hcell⟩ := hc j _ (List.getElem?_eq_getElem (show j < rs.length by omega))
 refine ⟨c, hcl, ?_, hcell⟩
 rw [hK.1]
 exact hr.get j (by omega) hjl
theorem raw_of {w : World} {e : EdgeL} {r : List Value} (h : KE.K w (toE e) r) : Raw r := ⟨KE.K_len h, KE.K_one h⟩
def FindR (r : Option PairF) (e : Ending) : Prop := e = match r with
 | some p => .returned (.tuple #[.slice p.A p.k p.c, .bool true])
 | none => .returned (.tuple #[.slice none 0 0, .bool false])
set_option maxRecDepth 100000 in
set_option maxHeartbeats 4000000 in
theorem Find15_any (A : Option Addr) (c : Nat) (ps : List PairF) (nm : Txt) (w : World) (h : Kd.C KP w A ps.length ps) (hn : ps.length ≤ 1000000) :
  Calls Tryz.prog 7 #[.slice A ps.length c, .string (B nm)] w fun e w' => w' = w ∧ FindR (ps.find? (fun p => p.n == nm)) e := by
 obtain ⟨n, hN⟩ : ∃ n, ps.length = n := ⟨_, rfl⟩
 have hNH := Lib.hid hN
 have hCH := Lib.hid h
 rw [hN] at hn ⊢
 clear hN h
 go_enter Tryz.func7, Tryz.ntmps7
 go_wp2_with fail
 go_loopg [6] n (fun gk s6 wr => ∃ i : Nat, s6 = .int .i64 (i : Int) ∧ i + gk = n ∧ Hid (ps.find? (fun p => p.n == nm) = (ps.drop i).find? (fun p => p.n == nm)) ∧ w = wr)
 case atStart => exact ⟨0, rfl, Nat.zero_add _, Lib.hid (by rw [List.drop_zero]), rfl⟩
 case round =>
  obtain ⟨i, rfl, hik, hF, rfl⟩ := hrel
  cases gk with
  | zero =>
   obtain rfl : i = n := by omega
   have hlt : decide ((i : Int) < (i : Int)) = false := by simp
   have hz : Hid (ps.find? (fun p => p.n == nm) = none) := Lib.hid (by rw [hF.out, List.drop_of_length_le (by rw [hNH.out]; exact Nat.le_refl _)]; rfl)
   go_wp2_with fail
   go_ret2
   exact ⟨rfl, by rw [hz.out]; rfl⟩
  | succ gk =>
   have hi : i < ps.length := by rw [hNH.out]; omega
   have hlt : decide ((i : Int) < (n : Int)) = true := by rw [decide_eq_true_iff]; omega
   have i1 : (0 : Int) ≤ (i : Int) := by omega
   have i2 : (i : Int) < (n : Int) := by omega
   obtain ⟨ad, hAd, k0, k1⟩ := pair_at rfl hCH.out i hi
   subst hAd
   have hd : Hid ((ps.drop i).find? (fun p => p.n == nm) = if (ps[i].n == nm) = true then some ps[i] else (ps.drop (i + 1)).find? (fun p => p.n == nm)) := Lib.hid (by
    rw [List.drop_eq_getElem_cons hi, List.find?_cons]
    cases ps[i].n == nm <;> rfl)
   generalize ps[i] = x at *
   cases hq : (x.n == nm) with
   | true =>
    have hz : Hid (ps.find? (fun p => p.n == nm) = some x) := Lib.hid (by rw [hF.out, hd.out, hq]; rfl)
    go_wp2_with fail
    go_ret2
    exact ⟨rfl, by rw [hz.out]; rfl⟩
   | false =>
    have hz : Hid (ps.find? (fun p => p.n == nm) = (ps.drop (i + 1)).find? (fun p => p.n == nm)) := Lib.hid (by rw [hF.out, hd.out, hq]; rfl)
    go_wp2_with fail
    go_roundg gk
    case measure => omega
    case rel => exact ⟨i + 1, by first | rfl | simp, by omega, hz, rfl⟩
theorem row_find {w : World} {ps : List PairF} {fs : List FileL} (h : Row w ps fs) {nm b : Txt} (hf : findL fs nm = some b) : ∃ p, ps.find? (fun p => p.n == nm) = some p ∧ p.k = b.length ∧ (Kd.int .u8).C w p.A b.length (ints b) := by
 induction h with
 | nil => cases hf
 | @cons p f ps fs h1 _ ih =>
  rw [findL_cons] at hf
  rw [List.find?_cons, h1.n]
  by_cases hq : f.n = nm
  ·rw [if_pos hq] at hf
   injection hf with hf
   rw [show (f.n == nm) = true from beq_iff_eq.2 hq]
   subst hf
   exact ⟨p, rfl, h1.k, h1.b⟩
  ·rw [if_neg hq] at hf
   rw [show (f.n == nm) = false from beq_eq_false_iff_ne.2 hq]
   exact ih hf
theorem evals_form {es : List EdgeL} {defs : List Txt} {l : List FileL} {w w' : World} {e : Ending} (h : Evals es defs l w e w') : Below w.heap.size w w' ∧ ∃ r, EvalIs ownB es defs l r ∧ ∃ A n c ps, ∃ code : Int, e = .returned (.tuple #[.slice A n c, .int .i64 code]) ∧ (code == 0) = r.isSome ∧ ps.length = n ∧ n ≤ c ∧ Kd.C KP w' A n ps ∧ Row w' ps (r.getD []) ∧ n ≤ 1000 := by
 obtain ⟨hb, r, hr, hm⟩ := h
 refine ⟨hb, r, hr, ?_⟩
 cases r with
 | none =>
  obtain ⟨c, hc, rfl⟩ := hm
  exact ⟨none, 0, 0, [], c, rfl, hc, rfl, Nat.le_refl _, ⟨rfl, by simp, fun h => absurd h (Nat.lt_irrefl 0)⟩, .nil, by decide⟩
 | some x =>
  obtain ⟨v, ps, rfl, ⟨A, c, rfl, hl, hC⟩, hrow, hle⟩ := hm
  exact ⟨A, _, c, ps, 0, rfl, rfl, rfl, hl, hC, hrow, hle⟩
theorem sized_of {es : List EdgeL} {defs : List Txt} {fs : List FileL} (h : SizedT es defs fs) : Sized es defs fs := by
 refine ⟨h.m.n, by have := h.m.d; omega, fun e he => (h.m.e e he).1, fun e he => ?_, fun e he f hf => by have := h.m.x e he f hf; omega, fun t ht => by have := h.m.dx t ht; omega, fun e he => by have := (h.m.e e he).2.2.2.2.1; omega, by have := h.n; omega, fun f hf => by have := (h.f f hf).1; omega, fun f hf => by have := (h.f f hf).2; omega⟩
 obtain ⟨_, h1, h2, h3, _⟩ := h.m.e e he
 unfold needsL
 rw [List.length_append, List.length_append]
 omega
theorem sized_turn {es : List EdgeL} {defs : List Txt} {fs : List FileL} (h : Sized es defs fs) : Sized es.reverse defs fs :=
 ⟨by rw [List.length_reverse]; exact h.n, h.d, fun e he => h.o e (List.mem_reverse.1 he), fun e he => h.i e (List.mem_reverse.1 he), fun e he => h.x e (List.mem_reverse.1 he), h.dx, fun e he => h.c e (List.mem_reverse.1 he), h.m, h.ln, h.lb⟩
theorem str_ints' (l : Txt) : strOfNums (ints l) = B l := by
 unfold strOfNums ints
 rw [List.map_map]
 have : ((fun n : Int => UInt8.ofNat n.toNat) ∘ fun x : UInt8 => (x.toNat : Int)) = id := by funext x; simp
 rw [this, List.map_id]
theorem conv_bytes {w : World} {A : Option Addr} {n c : Nat} {b : Txt} (hn : n = b.length) (h : (Kd.int .u8).C w A b.length (ints b)) : (convert 37 9 (.slice A n c)).run Tryz.prog w = .ok (.string (B b)) w := by
 subst hn
 have := Kd.C_string (P := Tryz.prog) (src := 37) (dst := 9) (e := 5) (c := c) Tryz.underlying37 Tryz.underlying5 Tryz.underlying9 h
 rw [str_ints'] at this
 exact this
end Go.Proofs.YtnegfigaiomehaaGreatDoor.Tp
end
section
namespace Go.Proofs.YtnegfigaiomehaaGreatDoor.Tp
open Go.RowKit Go.Lib Go.Shelf Go.Maps Go.Proofs.YtnegfigaiomehaaGreatDoorW.PrintWords Go.Proofs.YtnegfigaiomehaaGreatDoorW.PrintLast Go.Proofs.YtnegfigaiomehaaGreatDoorW.PrintMore Go.Proofs.YtnegfigaiomehaaGreatDoor.U Go.Proofs.YtnegfigaiomehaaGreatDoor.P Go.Proofs.YtnegfigaiomehaaGreatDoor.MapV Go.Proofs.YtnegfigaiomehaaGreatDoor.Ck
theorem infoFileR : (Tryz.prog.info? 39).map (fun i => (i.zero, i.size, i.bytes)) = some (some zeroF, 2, 40) := by kernel_rfl
structure TreeAt (w : World) (cs : Array Value) (es : List EdgeL) (defs : List Txt) (fs : List FileL) : Prop where
 cs : ∃ A c A1 c1 AL cL, cs = #[.slice A es.length c, .slice A1 defs.length c1, .slice AL fs.length cL] ∧ (es.length ≤ c ∧ Kd.C KR w A es.length (es.map toR)) ∧ (defs.length ≤ c1 ∧ Kd.C Kd.string w A1 defs.length (defs.map B)) ∧ Kd.C KG w AL fs.length (fs.map toG)
set_option maxRecDepth 100000 in
set_option maxHeartbeats 16000000 in
theorem orders_walk (cs : Array Value) (es : List EdgeL) (defs : List Txt) (fs : List FileL) (w : World) (ht : Tab w) (hx : TreeAt w cs es defs fs) :
  Calls Tryz.prog 3 #[.agg cs] w fun e w' => e = .returned (.bool true) ∧ Below w.heap.size w w' := by
 obtain ⟨A, c, A1, c1, AL, cL, rfl, ⟨hc, hC⟩, ⟨hc1, hC1⟩, hC2⟩ := hx.cs
 obtain ⟨n, hN⟩ : ∃ n, es.length = n := ⟨_, rfl⟩
 obtain ⟨nd, hnd⟩ : ∃ n, defs.length = n := ⟨_, rfl⟩
 obtain ⟨nf, hnf⟩ : ∃ n, fs.length = n := ⟨_, rfl⟩
 have hNH := Lib.hid hN
 have hndH := Lib.hid hnd
 have hnfH := Lib.hid hnf
 obtain ⟨w0, hw0⟩ : ∃ x, w.alloc (.cells #[.slice A n c, .slice A1 nd c1, .slice AL nf cL] 28) = x := ⟨_, rfl⟩
 have hbx : Below w.heap.size w w0 := by rw [← hw0]; exact (Below.refl _ _).alloc (Nat.le_refl _) _
 have hxx := heap_alloc_new w (.cells #[.slice A n c, .slice A1 nd c1, .slice AL nf cL] 28)
 rw [hw0] at hxx
 have hw0H := Lib.hid hw0
 have hRt := Lib.hid (right_any A A1 AL c c1 cL es defs fs w0 (Kd.C_below hC hbx) (Kd.C_below hC1 hbx) (Kd.C_below hC2 hbx))
 rw [hN, hnd, hnf] at hRt
 have hGv : Hid (∀ W, Below w.heap.size w W → SizedT es defs fs → Calls Tryz.prog 5 #[.agg #[.slice A n c, .slice A1 nd c1]] W fun e w' => ∃ Ag cg Dg dg, e = .returned (.agg #[.slice Ag n cg, .slice Dg nd dg]) ∧ (n ≤ cg ∧ Kd.C KE w' Ag n (es.map toE)) ∧ Str w' (.slice Dg nd dg) defs ∧ Below W.heap.size W w') := by
  refine Lib.hid (fun W hW hS => ?_)
  have hl1 : (es.map toR).length = n := by rw [List.length_map]; exact hN
  have hl2 : (defs.map B).length = nd := by rw [List.length_map]; exact hnd
  have hcv : (es.map toR).map Of4.conv = es.map toE := by rw [List.map_map]; rfl
  have h := Of4.of_any (es.map toR) (defs.map B) A A1 c c1 W (by rw [hl1, ← hN]; exact hc) (by rw [hl1, ← hN]; exact Kd.C_below hC hW) (by rw [hl2, ← hnd]; exact hc1) (by rw [hl2, ← hnd]; exact Kd.C_below hC1 hW) (by rw [hl1]; have := hS.m.n; omega) (by rw [hl2]; have := hS.m.d; omega) (fun x hx => by
   obtain ⟨e, he, rfl⟩ := List.mem_map.1 hx
   obtain ⟨h0, h1, h2, h3, _⟩ := hS.m.e e he
   exact ⟨by show (e.outs.map B).length ≤ _; rw [List.length_map]; omega, by show (e.ins.map B).length ≤ _; rw [List.length_map]; omega, by show (e.imp.map B).length ≤ _; rw [List.length_map]; omega, by show (e.ord.map B).length ≤ _; rw [List.length_map]; omega⟩)
  rw [hl1, hl2, hcv] at h
  refine h.mono ?_
  rintro e w' ⟨Ag, cg, Dg, dg, rfl, ⟨h1, h2⟩, ⟨h3, h4⟩, hb⟩
  have hl3 : (es.map toE).length = n := by rw [List.length_map]; exact hN
  rw [hl3] at h1 h2
  rw [hl3, hl2]
  rw [hl2] at h3 h4
  exact ⟨Ag, cg, Dg, dg, rfl, ⟨h1, h2⟩, ⟨Dg, dg, by rw [hnd], by rw [hnd]; exact h3, by rw [hnd]; exact h4⟩, hb⟩
 rw [hN, hnd, hnf]
 obtain ⟨q0, hq0⟩ : ∃ x, w.heap.size = x := ⟨_, rfl⟩
 rw [hq0] at hxx
 have hbxH := Lib.hid hbx
 have hxH := Lib.hid hxx
 have hqH := Lib.hid hq0
 have htH := Lib.hid ht
 have hCfH := Lib.hid hC2
 rw [hnf] at hCfH
 have x0 := (cell_of_heap (j := 0) hxx).trans rfl
 have x1 := (cell_of_heap (j := 1) hxx).trans rfl
 have x2 := (cell_of_heap (j := 2) hxx).trans rfl
 clear hN hnd hnf hC hC1 hC2 hc hc1 hbx hxx hw0 hq0 hx ht
 go_enter Tryz.func3, Tryz.ntmps3
 go_upto_region 1 with (fail)
 rw [hw0H.out, hqH.out]
 clear hw0H
 go_wp2_with fail
 refine hRt.out.mono ?_
 rintro e w1 ⟨⟨b, rfl, hbS⟩, hb⟩
 have hB1 := Lib.hid (hbxH.out.trans (hb.mono hbxH.out.size))
 have hx1 := Lib.hid (below_blk hb hxH.out)
 clear hb x0 x1 x2 hRt hxH hbxH
 cases b with
 | false =>
  clear hbS
  go_wp2_with fail
  go_ret
  exact ⟨rfl, hB1.out⟩
 | true =>
 have hSz := Lib.hid (hbS rfl)
 clear hbS
 have x0 := (cell_of_heap (j := 0) hx1.out).trans rfl
 have x1 := (cell_of_heap (j := 1) hx1.out).trans rfl
 go_wp2_with fail
 refine (hGv.out _ hB1.out hSz.out).mono ?_
 rintro e wg ⟨Ag, cg, Dg, dg, rfl, ⟨hgc, hCg⟩, hDg, hb⟩
 have hBg := Lib.hid (hB1.out.trans (hb.mono hB1.out.size))
 have hxg := Lib.hid (below_blk hb hx1.out)
 have hCgH := Lib.hid hCg
 have hDgH := Lib.hid hDg
 clear hb x0 x1 hGv hB1 hx1 hCg hDg
 obtain ⟨w2, hw2⟩ : ∃ x, (wg.alloc (.cells #[.slice Ag n cg, .slice Dg nd dg] 32)).alloc (.cells #[.slice none 0 0, .slice none 0 0] 32) = x := ⟨_, rfl⟩
 have hbg2 : Below wg.heap.size wg w2 := by rw [← hw2]; exact ((Below.refl _ _).alloc (Nat.le_refl _) _).alloc (by simp) _
 have hq3 : w2.heap[wg.heap.size]? = some (.cells #[.slice Ag n cg, .slice Dg nd dg] 32 (0, 0)) := by
  have h1 := heap_alloc_new wg (.cells #[.slice Ag n cg, .slice Dg nd dg] 32)
  have h2 := (Below.refl (wg.alloc (.cells #[.slice Ag n cg, .slice Dg nd dg] 32)).heap.size (wg.alloc (.cells #[.slice Ag n cg, .slice Dg nd dg] 32))).alloc (Nat.le_refl _) (.cells #[.slice none 0 0, .slice none 0 0] 32)
  rw [hw2] at h2
  exact below_blk h2 h1
 have hq4 : w2.heap[wg.heap.size + 1]? = some (.cells #[.slice none 0 0, .slice none 0 0] 32 (0, 0)) := by
  have h1 := heap_alloc_new (wg.alloc (.cells #[.slice Ag n cg, .slice Dg nd dg] 32)) (.cells #[.slice none 0 0, .slice none 0 0] 32)
  rw [hw2] at h1
  simpa using h1
 have hz2 : Hid (w2.heap.size = wg.heap.size + 1 + 1) := Lib.hid (by rw [← hw2]; simp)
 have hw2H := Lib.hid hw2
 obtain ⟨q3, hq3e⟩ : ∃ x, wg.heap.size = x := ⟨_, rfl⟩
 rw [hq3e] at hq3 hq4 hz2
 have hq3H := Lib.hid hq3
 have hq4H := Lib.hid hq4
 have hbg2H := Lib.hid hbg2
 have hq3eH := Lib.hid hq3e
 clear hw2 hq3 hq4 hbg2 hq3e
 go_upto_region 5 with (fail)
 rw [hw2H.out, hq3eH.out]
 clear hw2H
 have y0 := (cell_of_heap (j := 0) hq3H.out).trans rfl
 have hnl : n ≤ 30 := by have := hSz.out.m.n; have := hNH.out; omega
 have hf0 : Hid (Kd.R KO 35 w2 (q3 + 1 + 1) (fun _ => True) (.slice none 0 0) []) := Lib.hid (Kd.R_nil _ _ _ _ _)
 go_wp2_with fail
 clear y0
 go_loopg [5] n (fun gk s5 wr => ∃ (k : Nat) (AE : Option Addr) (cE : Nat) (rs : List (List Value)), s5 = .int .i64 ((n : Int) - 1 - (k : Int)) ∧ k + gk = n ∧ Hid (wr.heap[q3 + 1]? = some (.cells #[.slice AE k cE, .slice none 0 0] 32 (0, 0))) ∧ Hid (wr.heap[q3]? = some (.cells #[.slice Ag n cg, .slice Dg nd dg] 32 (0, 0))) ∧ Hid (Kd.R KO 35 wr (q3 + 1 + 1) (fun _ => True) (.slice AE k cE) rs) ∧ Hid (RowE wg rs (es.reverse.take k)) ∧ Hid (Below wg.heap.size wg wr))
 case atStart => exact ⟨0, none, 0, [], by first | rfl | simp, Nat.zero_add _, hq4H, hq3H, hf0, Lib.hid .nil, hbg2H⟩
 case round =>
  obtain ⟨k, AE, cE, rs, rfl, hkk, hq4r, hq3r, hR, hRE, hBr⟩ := hrel
  clear hq4H hf0
  have hlk : rs.length = k := by
   have := hRE.out.len
   rw [List.length_take, List.length_reverse, hNH.out] at this
   omega
  cases gk with
  | succ gk =>
   obtain ⟨j, hj⟩ : ∃ j : Nat, j = n - 1 - k := ⟨_, rfl⟩
   have hjv : (n : Int) - 1 - (k : Int) = (j : Int) := by omega
   rw [hjv]
   have hjl : j < es.length := by rw [hNH.out]; omega
   have hge : decide ((j : Int) ≥ 0) = true := by rw [decide_eq_true_iff]; omega
   have hge2 : decide ((0 : Int) ≤ (j : Int)) = true := by rw [decide_eq_true_iff]; omega
   have i1 : (0 : Int) ≤ (j : Int) := by omega
   have i2 : (j : Int) < (n : Int) := by omega
   obtain ⟨ad, a0, d0, a1, d1, a2, d2, a3, d3, hAd, k0, k1, k2, k3, k4, k5, hed⟩ := edge_at hNH.out hCgH.out j hjl
   subst hAd
   have hrev : Hid (es.reverse.take (k + 1) = es.reverse.take k ++ [es[j]]) := Lib.hid (by
    rw [List.take_succ_eq_append_getElem (by rw [List.length_reverse, hNH.out]; omega)]
    congr 2
    rw [List.getElem_reverse]
    congr 1
    rw [hNH.out, hj])
   have hKr := Lib.hid (edgeAt_K.1 hed)
   clear hed
   have hjH := Lib.hid hj
   clear hj hjv
   generalize es[j] = e at *
   have hraw := raw_of hKr.out
   have hrawH := Lib.hid hraw
   clear hraw
   have hSS : Hid (∀ W', Below wg.heap.size wg W' → W'.heap[q3 + 1]? = some (.cells #[.slice AE k cE, .slice none 0 0] 32 (0, 0)) → W'.heap[q3]? = some (.cells #[.slice (some ad) n cg, .slice Dg nd dg] 32 (0, 0)) → (fun w' => w'.cell? ⟨q3 + 1, 0, none⟩ = some (.slice AE k cE) ∧ w'.cell? ⟨q3, 0, none⟩ = some (.slice (some ad) n cg) ∧ w'.cell? (ad.add (j * 6)) = some (.slice a0 e.outs.length d0) ∧ w'.cell? ⟨(ad.add (j * 6)).block, (ad.add (j * 6)).off + 1, none⟩ = some (.slice a1 e.ins.length d1) ∧ w'.cell? ⟨(ad.add (j * 6)).block, (ad.add (j * 6)).off + 2, none⟩ = some (.slice a2 e.imp.length d2) ∧ w'.cell? ⟨(ad.add (j * 6)).block, (ad.add (j * 6)).off + 3, none⟩ = some (.slice a3 e.ord.length d3) ∧ w'.cell? ⟨(ad.add (j * 6)).block, (ad.add (j * 6)).off + 4, none⟩ = some (.string (B e.cmd)) ∧ w'.cell? ⟨(ad.add (j * 6)).block, (ad.add (j * 6)).off + 5, none⟩ = some (.string (B e.dep))) W') := Lib.hid (fun W' hW h1 h2 => ⟨(cell_of_heap (j := 0) h1).trans rfl, (cell_of_heap (j := 0) h2).trans rfl, below_cell hW k0, below_cell hW k1, below_cell hW k2, below_cell hW k3, below_cell hW k4, below_cell hW k5⟩)
   have hB0 : Hid (Below wg.heap.size wg wr.drew) := Lib.hid hBr.out.drew
   have hq4d : Hid (wr.drew.heap[q3 + 1]? = some (.cells #[.slice AE k cE, .slice none 0 0] 32 (0, 0))) := Lib.hid (below_blk (Below.refl wr.heap.size wr).drew hq4r.out)
   have hq3d : Hid (wr.drew.heap[q3]? = some (.cells #[.slice (some ad) n cg, .slice Dg nd dg] 32 (0, 0))) := Lib.hid (below_blk (Below.refl wr.heap.size wr).drew hq3r.out)
   have hRd : Hid (Kd.R KO 35 wr.drew (q3 + 1 + 1) (fun _ => True) (.slice AE k cE) rs) := Lib.hid (Kd.R_below hR.out (Below.refl _ _).drew)
   have hsz : Hid (q3 + 1 + 1 ≤ wr.drew.heap.size) := Lib.hid (by have := lt_blk hq4d.out; omega)
   have hrow : Hid (∀ b, (Value.slice AE k cE).ownBlock = some b → q3 + 1 + 1 ≤ b) := Lib.hid (fun b hb => ((Kd.R_bound hR.out).1 b hb).2.1)
   go_upto_region 8 with (fail)
   clear k0 k1 k2 k3 k4 k5 hge hge2
   refine RegP.region (fun w' => w'.cell? ⟨q3 + 1, 0, none⟩ = some (.slice AE k cE) ∧ w'.cell? ⟨q3, 0, none⟩ = some (.slice (some ad) n cg) ∧ w'.cell? (ad.add (j * 6)) = some (.slice a0 e.outs.length d0) ∧ w'.cell? ⟨(ad.add (j * 6)).block, (ad.add (j * 6)).off + 1, none⟩ = some (.slice a1 e.ins.length d1) ∧ w'.cell? ⟨(ad.add (j * 6)).block, (ad.add (j * 6)).off + 2, none⟩ = some (.slice a2 e.imp.length d2) ∧ w'.cell? ⟨(ad.add (j * 6)).block, (ad.add (j * 6)).off + 3, none⟩ = some (.slice a3 e.ord.length d3) ∧ w'.cell? ⟨(ad.add (j * 6)).block, (ad.add (j * 6)).off + 4, none⟩ = some (.string (B e.cmd)) ∧ w'.cell? ⟨(ad.add (j * 6)).block, (ad.add (j * 6)).off + 5, none⟩ = some (.string (B e.dep))) 10 [(0, 0), (1, 1), (0, 2), (1, 3), (0, 4), (0, 5), (1, 6), (2, 7), (2, 8), (0, 9), (3, 10)] (by kernel_rfl) (by kernel_rfl) (by rfl) (by kernel_rfl) (by exact hSS.out _ hB0.out hq4d.out hq3d.out) ?_
   repeat ((first | refine RegP.pu ?_ | refine RegP.he ?_ | refine RegP.sk ?_); try simp only [Act.put, pA,pB,pC])
   refine RegP.evq (fun K hK => ?_)
   go_simp
   refine hK.out _ _ ?_ (fun hHeld => ?_)
   ·(try dsimp only); exact hSS.out _ (hB0.out.trans (((Below.refl wr.drew.heap.size wr.drew).alloc (Nat.le_refl _) _).mono hB0.out.size)) (below_blk ((Below.refl wr.drew.heap.size wr.drew).alloc (Nat.le_refl _) _) hq4d.out) (below_blk ((Below.refl wr.drew.heap.size wr.drew).alloc (Nat.le_refl _) _) hq3d.out)
   clear hK K
   try simp only [Act.put, pA,pB,pC]
   refine RegP.evq (fun K hK => ?_)
   refine Kd.R_append_step KO (w0 := wr.drew) (q3 + 1 + 1) (by rfl) _ _ 30 35 (.agg #[.slice none 0 0, .slice none 0 0, .slice none 0 0, .slice none 0 0, .string ⟨#[]⟩, .string ⟨#[]⟩]) 128 rfl Tryz.underlying30 infoEdge rfl (by decide) (by decide) (.slice AE k cE) rs [.slice a0 e.outs.length d0, .slice a1 e.ins.length d1, .slice a2 e.imp.length d2, .slice a3 e.ord.length d3, .string (B e.cmd), .string (B e.dep)] _ (fun _ => True) (fun _ => False) rfl rfl ⟨rfl, hrawH.out⟩ (fun _ h => h.elim) (fun _ _ => trivial) hRd.out (Below.refl _ _) hsz.out (by rw [hlk]; omega) ?_
   intro v9 w9 hR9 _ hg9 _
   obtain ⟨A9, c9, rfl⟩ := Kd.R_slice hR9
   have hl9 : (rs ++ [[Value.slice a0 e.outs.length d0, Value.slice a1 e.ins.length d1, Value.slice a2 e.imp.length d2, Value.slice a3 e.ord.length d3, Value.string (B e.cmd), Value.string (B e.dep)]]).length = k + 1 := by rw [List.length_append, hlk]; rfl
   rw [hl9] at hR9 ⊢
   have hR9H := Lib.hid hR9
   have hB9 := Lib.hid (hB0.out.grown hg9 hB0.out.size (fun b hb => by have := hrow.out b hb; have := hq3eH.out; omega))
   have hq49 := Lib.hid ((hg9.block (q3 + 1) (lt_blk hq4d.out) (fun e => by have := hrow.out _ e.symm; omega)).trans hq4d.out)
   have hq39 := Lib.hid ((hg9.block q3 (lt_blk hq3d.out) (fun e => by have := hrow.out _ e.symm; omega)).trans hq3d.out)
   clear hR9 hg9 hl9
   refine hK.out _ _ ?_ (fun hHeld => ?_)
   ·(try dsimp only); exact hSS.out _ hB9.out hq49.out hq39.out
   clear hK K
   try simp only [Act.put, pA,pB,pC]
   repeat ((first | refine RegP.pu ?_ | refine RegP.he ?_ | refine RegP.sk ?_); try simp only [Act.put, pA,pB,pC])
   refine RegP.laq (fun K hK => ?_)
   have c19 := (cell_of_heap (j := 0) hq49.out).trans rfl
   have f19 := frozen_of_heap hq49.out 0
   go_simp
   clear c19 f19
   have hq4z := Lib.hid (blk_put hq49.out 0 (.slice A9 (k + 1) c9) rfl)
   have hq3z := Lib.hid ((Below.heap_setCell w9 ⟨q3 + 1, 0, none⟩ (.slice A9 (k + 1) c9) q3 (by show q3 ≠ q3 + 1; omega)).trans hq39.out)
   have hRz := Lib.hid (R_set_old (b := q3 + 1) (j := 0) hR9H.out (.slice A9 (k + 1) c9) (by omega))
   have hBz := Lib.hid (hB9.out.setCell (p := ⟨q3 + 1, 0, none⟩) (by show wg.heap.size ≤ q3 + 1; have := hq3eH.out; omega) (.slice A9 (k + 1) c9))
   generalize w9.setCell ⟨q3 + 1, 0, none⟩ (.slice A9 (k + 1) c9) = wz at *
   refine hK.out _ _ ?_
   clear hK K
   try simp only [Act.put, pA,pB,pC]
   refine RegP.done1 ?_
   try dsimp only
   have hREn : Hid (RowE wg (rs ++ [[Value.slice a0 e.outs.length d0, Value.slice a1 e.ins.length d1, Value.slice a2 e.imp.length d2, Value.slice a3 e.ord.length d3, Value.string (B e.cmd), Value.string (B e.dep)]]) (es.reverse.take (k + 1))) := by
    rw [hrev.out]
    exact Lib.hid (hRE.out.snoc hKr.out)
   have hjn : Hid ((n : Int) - 1 - ((k + 1 : Nat) : Int) = (j : Int) - 1) := Lib.hid (by have := hjH.out; omega)
   clear hB9 hq49 hq39 hR9H hRd hsz hrow hB0 hq4d hq3d hSS hrawH hKr hrev
   go_wp2_with fail
   go_roundg gk
   case measure => omega
   case rel => exact ⟨k + 1, A9, c9, _, by rw [hjn.out], by omega, hq4z, hq3z, hRz, hREn, hBz⟩
  | zero =>
   obtain rfl : k = n := by omega
   have hjv : (k : Int) - 1 - (k : Int) = -1 := by omega
   rw [hjv]
   clear hjv
   have hge : decide ((-1 : Int) ≥ 0) = false := by decide
   have hREa : Hid (RowE wg rs es.reverse) := by
    have h := hRE.out
    rw [List.take_of_length_le (by rw [List.length_reverse, hNH.out]; exact Nat.le_refl _)] at h
    exact Lib.hid h
   obtain ⟨n, rfl⟩ : ∃ n, n = k := ⟨_, rfl⟩
   have y1 := (cell_of_heap (j := 1) hq3r.out).trans rfl
   have z1 := (cell_of_heap (j := 1) hq4r.out).trans rfl
   have zf1 := frozen_of_heap hq4r.out 1
   have hq4z : Hid ((wr.setCell ⟨q3 + 1, 1, none⟩ (.slice Dg nd dg)).heap[q3 + 1]? = some (.cells #[.slice AE n cE, .slice Dg nd dg] 32 (0, 0))) := Lib.hid (blk_put hq4r.out 1 (.slice Dg nd dg) rfl)
   have hq3z := Lib.hid ((Below.heap_setCell wr ⟨q3 + 1, 1, none⟩ (.slice Dg nd dg) q3 (by show q3 ≠ q3 + 1; omega)).trans hq3r.out)
   have hRz := Lib.hid (R_set_old (b := q3 + 1) (j := 1) hR.out (.slice Dg nd dg) (by omega))
   have hBz := Lib.hid (hBr.out.setCell (p := ⟨q3 + 1, 1, none⟩) (by show wg.heap.size ≤ q3 + 1; have := hq3eH.out; omega) (.slice Dg nd dg))
   go_upto_region 10 with (fail)
   generalize wr.setCell ⟨q3 + 1, 1, none⟩ (.slice Dg nd dg) = w3 at *
   clear y1 z1 zf1 hq4r hq3r hR hRE hge hkk hBr
   have hBw3 := Lib.hid (hBg.out.trans (hBz.out.mono hBg.out.size))
   have hx3 := Lib.hid (below_blk hBz.out hxg.out)
   have hRn : Hid (Kd.R KP 40 w3 w3.heap.size (fun _ => True) (.slice none 0 0) []) := Lib.hid (Kd.R_nil _ _ _ _ _)
   go_wp2_with fail
   go_loopg [6, 7] nf (fun gk s6 s7 wr => ∃ (j : Nat) (ps : List PairF), s7 = .int .i64 (j : Int) ∧ j + gk = nf ∧ Hid (Kd.R KP 40 wr w3.heap.size (fun _ => True) s6 ps) ∧ Hid (Row w ps (fs.take j)) ∧ Hid (Below w3.heap.size w3 wr))
   case atStart => exact ⟨0, [], rfl, Nat.zero_add _, hRn, Lib.hid .nil, Below.refl _ _⟩
   case round =>
    obtain ⟨j, ps, rfl, hjk, hR, hRw, hBr⟩ := hrel
    clear hRn
    have hnfl : nf ≤ 10 := by have := hSz.out.n; have := hnfH.out; omega
    have hxr := Lib.hid (below_blk hBr.out hx3.out)
    have x2 := (cell_of_heap (j := 2) hxr.out).trans rfl
    have hpl : ps.length = j := by
     have := hRw.out.len
     rw [List.length_take, hnfH.out] at this
     omega
    cases gk with
    | succ gk =>
     have hi : j < fs.length := by rw [hnfH.out]; omega
     have hlt : decide ((j : Int) < (nf : Int)) = true := by rw [decide_eq_true_iff]; omega
     have i1 : (0 : Int) ≤ (j : Int) := by omega
     have i2 : (j : Int) < (nf : Int) := by omega
     obtain ⟨ad, AB, cB, hAd, k0, k1, hlb, hgb⟩ := fileR_at hnfH.out hCfH.out j hi
     subst hAd
     have hRwn : Hid (Row w (ps ++ [⟨fs[j].n, AB, fs[j].b.length, cB⟩]) (fs.take (j + 1))) := Lib.hid (by
      rw [List.take_succ_eq_append_getElem hi]
      exact hRw.out.app (.cons ⟨rfl, rfl, hlb, hgb⟩ .nil))
     generalize fs[j] = f at *
     have hBwr := Lib.hid (hBw3.out.trans (hBr.out.mono hBw3.out.size))
     have hSS : Hid (∀ W', Below w.heap.size w W' → W'.heap[q0]? = some (.cells #[.slice A n c, .slice A1 nd c1, .slice (some ad) nf cL] 28 (0, 0)) → (fun w' => w'.cell? ⟨q0, 2, none⟩ = some (.slice (some ad) nf cL) ∧ w'.cell? (ad.add (j * 2)) = some (.string (B f.n)) ∧ w'.cell? ⟨(ad.add (j * 2)).block, (ad.add (j * 2)).off + 1, none⟩ = some (.slice AB f.b.length cB)) W') := Lib.hid (fun W' hW h2 => ⟨(cell_of_heap (j := 2) h2).trans rfl, below_cell hW k0, below_cell hW k1⟩)
     have hB0 : Hid (Below w.heap.size w wr.drew) := Lib.hid hBwr.out.drew
     have hxd : Hid (wr.drew.heap[q0]? = some (.cells #[.slice A n c, .slice A1 nd c1, .slice (some ad) nf cL] 28 (0, 0))) := Lib.hid (below_blk (Below.refl wr.heap.size wr).drew hxr.out)
     have hRd : Hid (Kd.R KP 40 wr.drew w3.heap.size (fun _ => True) u6 ps) := Lib.hid (Kd.R_below hR.out (Below.refl _ _).drew)
     have hB3d : Hid (Below w3.heap.size w3 wr.drew) := Lib.hid hBr.out.drew
     have hrow : Hid (∀ b, u6.ownBlock = some b → w3.heap.size ≤ b) := Lib.hid (fun b hb => ((Kd.R_bound hR.out).1 b hb).2.1)
     have hq0l : Hid (q0 < w3.heap.size) := Lib.hid (lt_blk hx3.out)
     go_upto_region 14 with (fail)
     clear k0 k1 hlb hgb x2 hlt
     refine RegP.regionH (fun w' => w'.cell? ⟨q0, 2, none⟩ = some (.slice (some ad) nf cL) ∧ w'.cell? (ad.add (j * 2)) = some (.string (B f.n)) ∧ w'.cell? ⟨(ad.add (j * 2)).block, (ad.add (j * 2)).off + 1, none⟩ = some (.slice AB f.b.length cB)) [(0, 0), (0, 1), (1, 2), (0, 3), (0, 4), (0, 5), (1, 6), (0, 7), (1, 8), (0, 9), (0, 10), (0, 11), (1, 12), (0, 13), (2, 14), (2, 15), (0, 16)] (by kernel_rfl) (by kernel_rfl) (by rfl) (by kernel_rfl) (by exact hSS.out _ hB0.out hxd.out) ?_
     repeat ((first | refine RegP.pu ?_ | refine RegP.he ?_ | refine RegP.sk ?_); try simp only [Act.put, pA,pB,pC])
     refine RegP.evq (fun K hK => ?_)
     go_simp
     refine hK.out _ _ ?_ (fun hHeld => ?_)
     ·(try dsimp only); exact hSS.out _ (hB0.out.trans (((Below.refl wr.drew.heap.size wr.drew).alloc (Nat.le_refl _) _).mono hB0.out.size)) (below_blk ((Below.refl wr.drew.heap.size wr.drew).alloc (Nat.le_refl _) _) hxd.out)
     clear hK K
     try simp only [Act.put, pA,pB,pC]
     refine RegP.evq (fun K hK => ?_)
     refine Kd.R_append_step KP (w0 := w3) w3.heap.size (by rfl) _ _ 36 40 zeroF 40 rfl Tryz.underlying36 infoFile rfl (by decide) (by decide) u6 ps ⟨f.n, AB, f.b.length, cB⟩ _ (fun _ => True) (fun _ => False) rfl rfl (KP_M _ _ _ _) (fun _ h => h.elim) (fun _ _ => trivial) hRd.out hB3d.out hB3d.out.size (by omega) ?_
     intro v9 w9 hR9 hb9 hg9 _
     have hR9H := Lib.hid hR9
     have hB39 := Lib.hid hb9
     have hB9 := Lib.hid (hB0.out.grown hg9 hB0.out.size (fun b hb => by have := hrow.out b hb; have := hBw3.out.size; omega))
     have hx9 := Lib.hid ((hg9.block q0 (lt_blk hxd.out) (fun e => by have := hrow.out _ e.symm; have := hq0l.out; omega)).trans hxd.out)
     clear hR9 hb9 hg9
     refine hK.out _ _ ?_ (fun hHeld => ?_)
     ·(try dsimp only); exact hSS.out _ hB9.out hx9.out
     clear hK K
     try simp only [Act.put, pA,pB,pC]
     repeat ((first | refine RegP.pu ?_ | refine RegP.he ?_ | refine RegP.sk ?_); try simp only [Act.put, pA,pB,pC])
     refine RegP.done1 ?_
     try dsimp only
     clear hSS hB0 hxd hRd hB3d hrow hx9 hB9
     go_wp2_with fail
     go_roundg gk
     case measure => omega
     case rel => exact ⟨j + 1, _, by first | rfl | simp, by omega, hR9H, hRwn, hB39⟩
    | zero =>
     obtain rfl : j = nf := by omega
     have hlt : decide ((j : Int) < (j : Int)) = false := by simp
     obtain ⟨Al, cl, hsl, hcl, hCl⟩ := Kd.R_reads hR.out
     rw [hpl] at hsl hcl hCl
     subst hsl
     have hRwr : Hid (Row wr ps fs) := by
      have h := hRw.out
      rw [List.take_of_length_le (by rw [hnfH.out]; exact Nat.le_refl _)] at h
      exact Lib.hid (h.later (hBw3.out.trans (hBr.out.mono hBw3.out.size)))
     have hKF : Hid (Kd.C KF wr Al fs.length (fs.map toF)) := Lib.hid (files_of (by rw [hpl]; exact hCl) hRwr.out)
     have hBgr := Lib.hid (hBz.out.trans (hBr.out.mono hBz.out.size))
     have hq3r := Lib.hid (below_blk hBr.out hq3z.out)
     have hq4r := Lib.hid (below_blk hBr.out hq4z.out)
     have hCE : Hid (Kd.C KE wr Ag es.length (es.map toE)) := Lib.hid (by rw [hNH.out]; exact Kd.C_below hCgH.out hBgr.out)
     have hEv := Lib.hid (Eval_any es defs fs Ag cg (.slice Dg nd dg) Al cl wr (htH.out.below (hBw3.out.trans (hBr.out.mono hBw3.out.size))) hCE.out (hDgH.out.below hBgr.out) hKF.out (by rw [hnfH.out]; exact hcl) (sized_of hSz.out))
     rw [hNH.out, hnfH.out] at hEv
     have y0 := (cell_of_heap (j := 0) hq3r.out).trans rfl
     have y1 := (cell_of_heap (j := 1) hq3r.out).trans rfl
     clear hR hRw hpl hCl
     have hclH := Lib.hid hcl
     clear hcl
     go_wp2_with fail
     refine hEv.out.mono ?_
     rintro e w5 hev
     obtain ⟨hb, r1, hE1, Ax, nx, cx, px, codex, rfl, hcx, hlx, hlcx, hCx, hRx, hnx1⟩ := evals_form hev
     have hB5 := Lib.hid hb
     have hBg5 := Lib.hid (hBgr.out.trans (hb.mono hBgr.out.size))
     have hBw5 := Lib.hid ((hBw3.out.trans (hBr.out.mono hBw3.out.size)).trans (hb.mono (hBw3.out.trans (hBr.out.mono hBw3.out.size)).size))
     have hq45 := Lib.hid (below_blk hb hq4r.out)
     have hKF5 := Lib.hid (Kd.C_below hKF.out hb)
     have hCxH := Lib.hid hCx
     have hRxH := Lib.hid hRx
     have hE1H := Lib.hid hE1
     have hlxH := Lib.hid hlx
     have hcxH := Lib.hid hcx
     clear hb hev hEv y0 y1 x2 hCE hKF hlt hCx hRx hE1 hlx hcx hlcx
     have hCO : Hid (Kd.C KE w5 AE es.reverse.length (es.reverse.map toE)) := by
      obtain ⟨A', c', he, _, hC'⟩ := Kd.R_reads hRz.out
      have hl := hREa.out.len
      rw [List.length_reverse, hNH.out] at hl
      rw [hl] at he hC'
      injection he with e1 _ _
      rw [← e1] at hC'
      rw [List.length_reverse, hNH.out]
      exact Lib.hid (edges_of (Kd.C_below hC' (hBr.out.trans (hB5.out.mono hBr.out.size))) (hREa.out.later hBg5.out))
     have hEv2 := Lib.hid (Eval_any es.reverse defs fs AE cE (.slice Dg nd dg) Al cl w5 (htH.out.below hBw5.out) hCO.out (hDgH.out.below hBg5.out) hKF5.out (by rw [hnfH.out]; exact hclH.out) (sized_turn (sized_of hSz.out)))
     rw [List.length_reverse, hNH.out, hnfH.out] at hEv2
     have y0 := (cell_of_heap (j := 0) hq45.out).trans rfl
     have y1 := (cell_of_heap (j := 1) hq45.out).trans rfl
     go_wp2_with fail
     refine hEv2.out.mono ?_
     rintro e w6 hev
     obtain ⟨hb, r2, hE2, Ay, ny, cy, py, codey, rfl, hcy, hly, hlcy, hCy, hRy, _⟩ := evals_form hev
     obtain ⟨ho1, ho2, ho3⟩ := orders hE1H.out hE2
     have hBw6 := Lib.hid (hBw5.out.trans (hb.mono hBw5.out.size))
     have hCx6 := Lib.hid (Kd.C_below hCxH.out hb)
     have hRx6 := Lib.hid (hRxH.out.later hb)
     have hxy : nx = ny := by
      rw [← hlxH.out, ← hly, hRx6.out.len, hRy.len]; exact ho2
     subst hxy
     have ho3H := Lib.hid ho3
     have hCyH := Lib.hid hCy
     have hRyH := Lib.hid hRy
     have hlyH := Lib.hid hly
     have h1 := hcxH.out
     rw [ho1] at h1
     obtain ⟨bb, hbb⟩ : ∃ b, r2.isSome = b := ⟨_, rfl⟩
     rw [hbb] at h1 hcy
     have h2 : decide (codex = 0) = bb := by rw [← h1]; rfl
     have h3 : decide (codey = 0) = bb := by rw [← hcy]; rfl
     clear hb hev hEv2 y0 y1 hCO ho1 ho2 ho3 hE2 hCy hRy hly hlcy hbb hq45 hKF5
     go_upto_region 17 with (fail)
     have hnb : (bb != bb) = false := by cases bb <;> rfl
     have hnxl : nx ≤ 1000000 := by omega
     have hRn : Hid (Kd.R KP 39 w6 w6.heap.size (fun _ => True) (.slice none 0 0) []) := Lib.hid (Kd.R_nil _ _ _ _ _)
     go_wp2_with fail
     clear h1 h2 h3 hcy hnb hcxH
     go_loopg [12, 13] nx (fun gk s12 s13 wr => ∃ (i : Nat), s13 = .int .i64 (i : Int) ∧ i + gk = nx ∧ Hid (Kd.R KP 39 wr w6.heap.size (fun _ => True) s12 (py.take i)) ∧ Hid (Below w6.heap.size w6 wr))
     case atStart => exact ⟨0, rfl, Nat.zero_add _, hRn, Below.refl _ _⟩
     case round =>
      obtain ⟨i, rfl, hik, hR, hBr6⟩ := hrel
      clear hRn
      cases gk with
      | succ gk =>
       have hi : i < py.length := by rw [hlyH.out]; omega
       have hlt : decide ((i : Int) < (nx : Int)) = true := by rw [decide_eq_true_iff]; omega
       have i1 : (0 : Int) ≤ (i : Int) := by omega
       have i2 : (i : Int) < (nx : Int) := by omega
       obtain ⟨ad, hAd, k0, k1⟩ := pair_at hlyH.out hCyH.out i hi
       subst hAd
       have htk : Hid (py.take (i + 1) = py.take i ++ [py[i]]) := Lib.hid (List.take_succ_eq_append_getElem hi)
       have hlt6 : (py.take i).length ≤ i := List.length_take_le _ _
       generalize py[i] = p at *
       have hSS : Hid (∀ W', Below w6.heap.size w6 W' → (fun w' => w'.cell? (ad.add (i * 2)) = some (.string (B p.n)) ∧ w'.cell? ⟨(ad.add (i * 2)).block, (ad.add (i * 2)).off + 1, none⟩ = some (.slice p.A p.k p.c)) W') := Lib.hid (fun W' hW => ⟨below_cell hW k0, below_cell hW k1⟩)
       have hB0 : Hid (Below w6.heap.size w6 wr.drew) := Lib.hid hBr6.out.drew
       have hRd : Hid (Kd.R KP 39 wr.drew w6.heap.size (fun _ => True) u12 (py.take i)) := Lib.hid (Kd.R_below hR.out (Below.refl _ _).drew)
       go_upto_region 23 with (fail)
       clear k0 k1 hlt
       refine RegP.regionH (fun w' => w'.cell? (ad.add (i * 2)) = some (.string (B p.n)) ∧ w'.cell? ⟨(ad.add (i * 2)).block, (ad.add (i * 2)).off + 1, none⟩ = some (.slice p.A p.k p.c)) [(0, 0), (0, 1), (0, 2), (0, 3), (0, 4), (1, 5), (0, 6), (0, 7), (0, 8), (0, 9), (1, 10), (0, 11), (2, 12), (2, 13), (0, 14)] (by kernel_rfl) (by kernel_rfl) (by rfl) (by kernel_rfl) (by exact hSS.out _ hB0.out) ?_
       repeat ((first | refine RegP.pu ?_ | refine RegP.he ?_ | refine RegP.sk ?_); try simp only [Act.put, pA,pB,pC])
       refine RegP.evq (fun K hK => ?_)
       go_simp
       refine hK.out _ _ ?_ (fun hHeld => ?_)
       ·(try dsimp only); exact hSS.out _ (hB0.out.trans (((Below.refl wr.drew.heap.size wr.drew).alloc (Nat.le_refl _) _).mono hB0.out.size))
       clear hK K
       try simp only [Act.put, pA,pB,pC]
       refine RegP.evq (fun K hK => ?_)
       refine Kd.R_append_step KP (w0 := w6) w6.heap.size (by rfl) _ _ 26 39 zeroF 40 rfl Tryz.underlying26 infoFileR rfl (by decide) (by decide) u12 (py.take i) p _ (fun _ => True) (fun _ => False) rfl rfl (KP_M _ _ _ _) (fun _ h => h.elim) (fun _ _ => trivial) hRd.out hB0.out hB0.out.size (by omega) ?_
       intro v9 w9 hR9 hb9 hg9 _
       have hB9 := Lib.hid hb9
       rw [← htk.out] at hR9
       have hR9H := Lib.hid hR9
       clear hR9 hb9 hg9
       refine hK.out _ _ ?_ (fun hHeld => ?_)
       ·(try dsimp only); exact hSS.out _ hB9.out
       clear hK K
       try simp only [Act.put, pA,pB,pC]
       repeat ((first | refine RegP.pu ?_ | refine RegP.he ?_ | refine RegP.sk ?_); try simp only [Act.put, pA,pB,pC])
       refine RegP.done1 ?_
       try dsimp only
       clear hSS hB0 hRd
       go_wp2_with fail
       go_roundg gk
       case measure => omega
       case rel => exact ⟨i + 1, by first | rfl | simp, by omega, hR9H, hB9⟩
      | zero =>
       obtain rfl : i = nx := by omega
       have hlt : decide ((i : Int) < (i : Int)) = false := by simp
       obtain ⟨Am, cm, hsm, _, hCm⟩ := Kd.R_reads hR.out
       have hpt : py.take i = py := List.take_of_length_le (by rw [hlyH.out]; exact Nat.le_refl _)
       rw [hpt, hlyH.out] at hsm
       rw [hpt] at hCm
       subst hsm
       have hCmH := Lib.hid hCm
       have hBw7 := Lib.hid (hBw6.out.trans (hBr6.out.mono hBw6.out.size))
       have hCx7 := Lib.hid (Kd.C_below hCx6.out hBr6.out)
       have hRx7 := Lib.hid (hRx6.out.later hBr6.out)
       have hRy7 := Lib.hid (hRyH.out.later hBr6.out)
       clear hR hpt hCm
       obtain ⟨n7, rfl⟩ : ∃ n, n = i := ⟨_, rfl⟩
       obtain ⟨w7, rfl⟩ : ∃ x, x = wr := ⟨_, rfl⟩
       go_wp2_with fail
       clear hlt
       go_loopg [14] n7 (fun gk s14 wr => ∃ (i : Nat), s14 = .int .i64 (i : Int) ∧ i + gk = n7 ∧ Hid (Below w7.heap.size w7 wr))
       case atStart => exact ⟨0, rfl, Nat.zero_add _, Below.refl _ _⟩
       case round =>
        obtain ⟨i, rfl, hik, hBr7⟩ := hrel
        have hBwr := Lib.hid (hBw7.out.trans (hBr7.out.mono hBw7.out.size))
        cases gk with
        | zero =>
         obtain rfl : i = n7 := by omega
         have hlt : decide ((i : Int) < (i : Int)) = false := by simp
         have hAw := Lib.hid (awakeT_any wr)
         go_wp2_with fail
         refine hAw.out.mono ?_
         rintro e w8 ⟨rfl, hb⟩
         have hB8 := Lib.hid (hBwr.out.trans (hb.mono hBwr.out.size))
         clear hb
         go_wp2_with fail
         go_ret
         exact ⟨rfl, hB8.out⟩
        | succ gk =>
         have hi : i < px.length := by rw [hlxH.out]; omega
         have hif : i < (r1.getD []).length := by rw [← hRx7.out.len]; exact hi
         have hlt : decide ((i : Int) < (n7 : Int)) = true := by rw [decide_eq_true_iff]; omega
         have i1 : (0 : Int) ≤ (i : Int) := by omega
         have i2 : (i : Int) < (n7 : Int) := by omega
         obtain ⟨ad, hAd, k0, k1⟩ := pair_at hlxH.out hCx7.out i hi
         subst hAd
         replace k0 := below_cell hBr7.out k0
         replace k1 := below_cell hBr7.out k1
         have hIs := Lib.hid (hRx7.out.get i hi hif)
         have hfd := Lib.hid (ho3H.out _ (List.getElem_mem hif))
         generalize (r1.getD [])[i] = f at *
         generalize px[i] = x at *
         rw [hIs.out.n] at k0
         obtain ⟨p, hpf, hpk, hpC⟩ := row_find hRy7.out hfd.out
         have hF := Find15_any Am cm py f.n wr (Kd.C_below hCmH.out hBr7.out) (by rw [hlyH.out]; omega)
         rw [hpf, hlyH.out] at hF
         have hFH := Lib.hid hF
         have hSS : Hid (∀ W', Below w7.heap.size w7 W' → W'.cell? ⟨(ad.add (i * 2)).block, (ad.add (i * 2)).off + 1, none⟩ = some (.slice x.A x.k x.c) → (fun w' => w'.cell? ⟨(ad.add (i * 2)).block, (ad.add (i * 2)).off + 1, none⟩ = some (.slice x.A x.k x.c) ∧ (convert 37 9 (.slice p.A p.k p.c)).run Tryz.prog w' = .ok (.string (B f.b)) w' ∧ (convert 37 9 (.slice x.A x.k x.c)).run Tryz.prog w' = .ok (.string (B f.b)) w') W') := Lib.hid (fun W' hW h => ⟨h, conv_bytes hpk (Kd.C_below hpC hW), conv_bytes hIs.out.k (Kd.C_below hIs.out.b hW)⟩)
         have hk1H := Lib.hid k1
         clear hF hpf hpk hpC k1
         go_wp2_with fail
         refine hFH.out.mono ?_
         rintro e w8 ⟨rfl, hfr⟩
         unfold FindR at hfr
         dsimp only at hfr
         subst hfr
         clear k0 hlt
         go_upto_region 28 with (fail)
         have hB0 : Hid (Below w7.heap.size w7 w8.drew) := Lib.hid hBr7.out.drew
         have hkd : Hid (w8.drew.cell? ⟨(ad.add (i * 2)).block, (ad.add (i * 2)).off + 1, none⟩ = some (.slice x.A x.k x.c)) := Lib.hid (below_cell (Below.refl w8.heap.size w8).drew hk1H.out)
         have hBn : Hid (Below w7.heap.size w7 w8.drew) := hB0
         refine RegP.regionH (fun w' => w'.cell? ⟨(ad.add (i * 2)).block, (ad.add (i * 2)).off + 1, none⟩ = some (.slice x.A x.k x.c) ∧ (convert 37 9 (.slice p.A p.k p.c)).run Tryz.prog w' = .ok (.string (B f.b)) w' ∧ (convert 37 9 (.slice x.A x.k x.c)).run Tryz.prog w' = .ok (.string (B f.b)) w') [(0, 0), (0, 1), (0, 2), (0, 3), (1, 4), (0, 5), (0, 6), (0, 7), (0, 8), (1, 9), (1, 10), (0, 11), (0, 12)] (by kernel_rfl) (by kernel_rfl) (by rfl) (by kernel_rfl) (by exact hSS.out _ hB0.out hkd.out) ?_
         repeat ((first | refine RegP.pu ?_ | refine RegP.he ?_ | refine RegP.sk ?_); try simp only [Act.put, pA,pB,pC])
         refine RegP.done1 ?_
         try dsimp only
         clear hSS hkd hk1H
         go_wp2_with fail
         go_roundg gk
         case measure => omega
         case rel => exact ⟨i + 1, by first | rfl | simp, by omega, hBn⟩
end Go.Proofs.YtnegfigaiomehaaGreatDoor.Tp
end
section
namespace Go.Proofs.YtnegfigaiomehaaGreatDoor.Tp
open Go.RowKit Go.ChangeShapes Go.WideShapes Go.Proofs.YtnegfigaiomehaaGreatDoorW.PrintWords Go.Proofs.YtnegfigaiomehaaGreatDoor.U Go.Proofs.YtnegfigaiomehaaGreatDoor.P Go.Proofs.YtnegfigaiomehaaGreatDoor.MapV Go.Proofs.YtnegfigaiomehaaGreatDoor.Ck
def OpensP {α : Type} (t : TypeId) (d : Kd α) (Q : α → Prop) : Prop :=
 ∀ {H : Type} {enc : TypeId × Value → H} {W : World} {fuel : Nat} {cs : List Value} {x : DataW H × List MemPlace}, DataW.trod enc Tryz.prog W 0 (fun _ => true) true fuel t cs = some x → ∃ a, d.K W a cs ∧ Q a
theorem opensP_string : OpensP 9 Kd.string (fun s => ∃ l, s = B l) := by
 intro H enc W fuel cs x h
 obtain ⟨s, e, _, _⟩ := DataW.trod_string Tryz.underlying9 h
 obtain ⟨l, rfl⟩ := B_surj s
 exact ⟨_, e, l, rfl⟩
theorem opensP_u8 : OpensP 5 (Kd.int .u8) (fun z => ∃ c : UInt8, z = (c.toNat : Int)) := by
 intro H enc W fuel cs x h
 obtain ⟨lv, e0, _, wf⟩ := DataW.trod_int Tryz.underlying5 h
 have hw : 0 ≤ lv ∧ lv ≤ 255 := by have := wf; simp [Lit.wf] at this; exact ⟨this.1, this.2⟩
 refine ⟨lv, e0, UInt8.ofNat lv.toNat, ?_⟩
 rw [UInt8.toNat_ofNat']
 omega
theorem row_open {α : Type} {t e : TypeId} {d : Kd α} {Q : α → Prop} (ht : Tryz.prog.underlying t = some (.slice e)) (hsz : Tryz.prog.cellsOf e = d.sz) (hd : OpensP e d Q)
  {H : Type} {enc : TypeId × Value → H} {W : World} {fuel : Nat} {a : Option Addr} {len cap : Nat} {y : DataW H × List MemPlace} (h : DataW.trod enc Tryz.prog W 0 (fun _ => true) true fuel t (Value.slice a len cap).cells.toList = some y) :
  ∃ xs, xs.length = len ∧ len ≤ cap ∧ d.C W a len xs ∧ ∀ x ∈ xs, Q x := by
 rcases DataW.trod_slice ht h with ⟨hcs, _⟩ | ⟨x, len', cap', elems, rest, n, _, hcs, _, hb, hl, hm, hlen, hel, _, _⟩
 ·simp [Value.cells] at hcs
  obtain ⟨rfl, rfl, rfl⟩ := hcs
  exact ⟨[], rfl, Nat.le_refl _, ⟨rfl, Nat.zero_le _, fun h => absurd h (Nat.lt_irrefl 0)⟩, by simp⟩
 ·simp [Value.cells] at hcs
  obtain ⟨rfl, rfl, rfl⟩ := hcs
  have each : ∀ i, i < len → ∃ a c, c.length = d.sz ∧ d.K W a c ∧ (∀ j u, c[j]? = some u → W.cell? (x.add (i * d.sz + j)) = some u) ∧ Q a := by
   intro i hi
   have hE := hel i hi
   have hy : elems[i]? = some (elems[i]'(by omega)) := List.getElem?_eq_getElem (by omega)
   rw [hy, Option.bind_eq_some_iff, hsz] at hE
   obtain ⟨c, hc, hT⟩ := hE
   obtain ⟨_, hcl, hcj⟩ := World.cells?_some hc
   obtain ⟨a, ha, hq⟩ := hd hT
   refine ⟨a, c, hcl, ha, fun j u hu => ?_, hq⟩
   have hj : j < d.sz := by rw [← hcl]; exact (List.getElem?_eq_some_iff.1 hu).1
   have := hcj j hj
   rw [Addr.add_add] at this
   rw [this]; exact hu
  refine ⟨List.ofFn fun i : Fin len => Classical.choose (each i.val i.isLt), List.length_ofFn, hl, ⟨List.length_ofFn, by unfold maxLen at hm; omega, fun _ => ⟨x, rfl, fun j p hj => ?_⟩⟩, fun y hy => ?_⟩
  ·rw [List.getElem?_ofFn] at hj
   split at hj
   ·rename_i hjl
    obtain rfl := Option.some.inj hj
    obtain ⟨c, h1, h2, h3, _⟩ := Classical.choose_spec (each j hjl)
    exact ⟨c, h1, h2, h3⟩
   ·cases hj
  ·obtain ⟨i, rfl⟩ := List.mem_ofFn.1 hy
   obtain ⟨c, _, _, _, h4⟩ := Classical.choose_spec (each i.val i.isLt)
   exact h4
theorem opensP_slice {α : Type} {t e : TypeId} {d : Kd α} {Q : α → Prop} (ht : Tryz.prog.underlying t = some (.slice e)) (hsz : Tryz.prog.cellsOf e = d.sz) (hd : OpensP e d Q) : OpensP t (Kd.slice e d) (fun xs => ∀ x ∈ xs, Q x) := by
 intro H enc W fuel cs y h
 have h' := h
 rcases DataW.trod_slice ht h with ⟨hcs, _⟩ | ⟨x, len', cap', elems, rest, n, _, hcs, _⟩
 ·subst hcs
  obtain ⟨xs, h1, h2, h3, h4⟩ := row_open (a := none) (len := 0) (cap := 0) ht hsz hd h'
  exact ⟨xs, ⟨none, 0, by rw [h1], by rw [h1]; exact h2, by rw [h1]; exact h3⟩, h4⟩
 ·subst hcs
  obtain ⟨xs, h1, h2, h3, h4⟩ := row_open (a := some x) (len := len') (cap := cap') ht hsz hd h'
  exact ⟨xs, ⟨some x, cap', by rw [h1], by rw [h1]; exact h2, by rw [h1]; exact h3⟩, h4⟩
theorem cells_u8 : Tryz.prog.cellsOf 5 = 1 := by kernel_rfl
theorem cells_string : Tryz.prog.cellsOf 9 = 1 := by kernel_rfl
theorem cells_bytes : Tryz.prog.cellsOf 37 = 1 := by kernel_rfl
theorem cells_strings : Tryz.prog.cellsOf 23 = 1 := by kernel_rfl
theorem cells_file : Tryz.prog.cellsOf 39 = 2 := by kernel_rfl
theorem cells_files : Tryz.prog.cellsOf 26 = 1 := by kernel_rfl
theorem cells_edge : Tryz.prog.cellsOf 51 = 6 := by kernel_rfl
theorem cells_edges : Tryz.prog.cellsOf 22 = 1 := by kernel_rfl
theorem cells_man : Tryz.prog.cellsOf 25 = 2 := by kernel_rfl
theorem cells_tree : Tryz.prog.cellsOf 28 = 3 := by kernel_rfl
theorem txt_of (zs : List Int) (h : ∀ z ∈ zs, ∃ c : UInt8, z = (c.toNat : Int)) : ∃ b : Txt, zs = ints b := by
 induction zs with
 | nil => exact ⟨[], rfl⟩
 | cons z zs ih =>
  obtain ⟨c, rfl⟩ := h z (by simp)
  obtain ⟨b, rfl⟩ := ih (fun x hx => h x (by simp [hx]))
  exact ⟨c :: b, rfl⟩
theorem map_of {α β : Type} {f : β → α} (l : List α) (h : ∀ s ∈ l, ∃ t, s = f t) : ∃ ws : List β, l = ws.map f := by
 induction l with
 | nil => exact ⟨[], rfl⟩
 | cons s l ih =>
  obtain ⟨t, rfl⟩ := h s (by simp)
  obtain ⟨ws, rfl⟩ := ih (fun x hx => h x (by simp [hx]))
  exact ⟨t :: ws, rfl⟩
theorem opensP_file : OpensP 39 KG (fun x => ∃ f, x = toG f) := by
 intro H enc W fuel cs x h
 obtain ⟨xs, m, _, _, hcl, hxs, hF⟩ := DataW.trod_struct Tryz.underlying39 h
 rw [cells_file] at hcl
 obtain ⟨p0, p1, rfl⟩ : ∃ a b, cs = [a, b] := by
  rcases cs with _ | ⟨a, _ | ⟨b, _ | ⟨c, t⟩⟩⟩ <;> simp at hcl
  exact ⟨a, b, rfl⟩
 have f0 := hF 0 _ rfl
 have f1 := hF 1 _ rfl
 change DataW.trod enc _ W 0 _ true m 9 (([p0, p1].drop 0).take (Tryz.prog.cellsOf 9)) = xs[0]? at f0
 change DataW.trod enc _ W 0 _ true m 37 (([p0, p1].drop 1).take (Tryz.prog.cellsOf 37)) = xs[1]? at f1
 rw [cells_string] at f0
 rw [cells_bytes] at f1
 have hxl : xs.length = 2 := hxs
 rw [List.getElem?_eq_getElem (by omega)] at f0 f1
 obtain ⟨a0, k0, n, rfl⟩ := opensP_string f0
 obtain ⟨a1, ⟨A1, c1, e1, l1, g1⟩, q1⟩ := opensP_slice Tryz.underlying37 cells_u8 opensP_u8 f1
 obtain ⟨b, rfl⟩ := txt_of a1 q1
 have hc0 : p0 = .string (B n) := by
  have : [p0] = [Value.string (B n)] := k0
  injection this
 have hc1 : p1 = .slice A1 (ints b).length c1 := by
  have : [p1] = [Value.slice A1 (ints b).length c1] := e1
  injection this
 subst hc0 hc1
 exact ⟨toG ⟨n, b⟩, k39_mk W (toG ⟨n, b⟩) l1 g1, ⟨n, b⟩, rfl⟩
theorem opensP_strings : OpensP 23 (Kd.slice 9 Kd.string) (fun x => ∃ l : List Txt, x = l.map B) := by
 intro H enc W fuel cs x h
 obtain ⟨a, k, q⟩ := opensP_slice Tryz.underlying23 cells_string opensP_string h
 exact ⟨a, k, map_of a q⟩
theorem opensP_edge : OpensP 51 KR (fun x => ∃ e, x = toR e) := by
 intro H enc W fuel cs x h
 obtain ⟨xs, m, _, _, hcl, hxs, hF⟩ := DataW.trod_struct Tryz.underlying51 h
 rw [cells_edge] at hcl
 obtain ⟨p0, p1, p2, p3, p4, p5, rfl⟩ : ∃ a b c d e f, cs = [a, b, c, d, e, f] := by
  rcases cs with _ | ⟨a, _ | ⟨b, _ | ⟨c, _ | ⟨d, _ | ⟨e, _ | ⟨f, _ | ⟨g, t⟩⟩⟩⟩⟩⟩⟩ <;> simp at hcl
  exact ⟨a, b, c, d, e, f, rfl⟩
 have f0 := hF 0 _ rfl
 have f1 := hF 1 _ rfl
 have f2 := hF 2 _ rfl
 have f3 := hF 3 _ rfl
 have f4 := hF 4 _ rfl
 have f5 := hF 5 _ rfl
 change DataW.trod enc _ W 0 _ true m 23 (([p0, p1, p2, p3, p4, p5].drop 0).take (Tryz.prog.cellsOf 23)) = xs[0]? at f0
 change DataW.trod enc _ W 0 _ true m 23 (([p0, p1, p2, p3, p4, p5].drop 1).take (Tryz.prog.cellsOf 23)) = xs[1]? at f1
 change DataW.trod enc _ W 0 _ true m 23 (([p0, p1, p2, p3, p4, p5].drop 2).take (Tryz.prog.cellsOf 23)) = xs[2]? at f2
 change DataW.trod enc _ W 0 _ true m 23 (([p0, p1, p2, p3, p4, p5].drop 3).take (Tryz.prog.cellsOf 23)) = xs[3]? at f3
 change DataW.trod enc _ W 0 _ true m 9 (([p0, p1, p2, p3, p4, p5].drop 4).take (Tryz.prog.cellsOf 9)) = xs[4]? at f4
 change DataW.trod enc _ W 0 _ true m 9 (([p0, p1, p2, p3, p4, p5].drop 5).take (Tryz.prog.cellsOf 9)) = xs[5]? at f5
 rw [cells_strings] at f0 f1 f2 f3
 rw [cells_string] at f4 f5
 have hxl : xs.length = 6 := hxs
 rw [List.getElem?_eq_getElem (by omega)] at f0 f1 f2 f3 f4 f5
 obtain ⟨_, k0, b0, rfl⟩ := opensP_strings f0
 obtain ⟨_, k1, b1, rfl⟩ := opensP_strings f1
 obtain ⟨_, k2, b2, rfl⟩ := opensP_strings f2
 obtain ⟨_, k3, b3, rfl⟩ := opensP_strings f3
 obtain ⟨_, k4, b4, rfl⟩ := opensP_string f4
 obtain ⟨_, k5, b5, rfl⟩ := opensP_string f5
 exact ⟨toR ⟨b0, b1, b2, b3, b4, b5⟩, ⟨[p0], [p1, p2, p3, p4, p5], rfl, k0, [p1], [p2, p3, p4, p5], rfl, k1, [p2], [p3, p4, p5], rfl, k2, [p3], [p4, p5], rfl, k3, [p4], [p5], rfl, k4, k5⟩, _, rfl⟩
theorem tree_open {H : Type} {enc : TypeId × Value → H} {W : World} {cs : Array Value} {d : DataW H} {ps : List MemPlace} (h : DataW.Trod enc Tryz.prog W 0 (fun _ => true) true 28 (.agg cs) d ps) :
  ∃ x : List EdgeL × List Txt × List FileL, TreeAt W cs x.1 x.2.1 x.2.2 := by
 obtain ⟨fuel, hf⟩ := h
 obtain ⟨ys, m', _, _, hcl', hys, hF'⟩ := DataW.trod_struct Tryz.underlying28 hf
 rw [cells_tree] at hcl'
 obtain ⟨p0, p1, p2, hp⟩ : ∃ a b c, (Value.agg cs).cells.toList = [a, b, c] := by
  revert hcl'
  generalize (Value.agg cs).cells.toList = cs'
  intro hcl'
  rcases cs' with _ | ⟨a, _ | ⟨b, _ | ⟨c, _ | ⟨d, t⟩⟩⟩⟩ <;> simp at hcl'
  exact ⟨a, b, c, rfl⟩
 rw [hp] at hF'
 have g0 := hF' 0 _ rfl
 have f2 := hF' 1 _ rfl
 change DataW.trod enc _ W 0 _ true m' 25 (([p0, p1, p2].drop 0).take (Tryz.prog.cellsOf 25)) = ys[0]? at g0
 change DataW.trod enc _ W 0 _ true m' 26 (([p0, p1, p2].drop 2).take (Tryz.prog.cellsOf 26)) = ys[1]? at f2
 rw [cells_man] at g0
 rw [cells_files] at f2
 have hyl : ys.length = 2 := hys
 rw [List.getElem?_eq_getElem (by omega)] at g0 f2
 change DataW.trod enc _ W 0 _ true m' 25 [p0, p1] = _ at g0
 obtain ⟨xs, m, _, _, _, hxs, hF⟩ := DataW.trod_struct Tryz.underlying25 g0
 have f0 := hF 0 _ rfl
 have f1 := hF 1 _ rfl
 change DataW.trod enc _ W 0 _ true m 22 (([p0, p1].drop 0).take (Tryz.prog.cellsOf 22)) = xs[0]? at f0
 change DataW.trod enc _ W 0 _ true m 23 (([p0, p1].drop 1).take (Tryz.prog.cellsOf 23)) = xs[1]? at f1
 rw [cells_edges] at f0
 rw [cells_strings] at f1
 have hxl : xs.length = 2 := hxs
 rw [List.getElem?_eq_getElem (by omega)] at f0 f1
 obtain ⟨a0, ⟨A0, c0, e0, l0, g0⟩, q0⟩ := opensP_slice Tryz.underlying22 cells_edge opensP_edge f0
 obtain ⟨a1, ⟨A1, c1, e1, l1, g1⟩, q1⟩ := opensP_slice Tryz.underlying23 cells_string opensP_string f1
 obtain ⟨a2, ⟨A2, c2, e2, l2, g2⟩, q2⟩ := opensP_slice Tryz.underlying26 cells_file opensP_file f2
 obtain ⟨es, rfl⟩ := map_of a0 q0
 obtain ⟨ds, rfl⟩ := map_of a1 q1
 obtain ⟨fs, rfl⟩ := map_of a2 q2
 have r0 : p0 = .slice A0 (es.map toR).length c0 := by injection e0
 have r1 : p1 = .slice A1 (ds.map B).length c1 := by injection e1
 have r2 : p2 = .slice A2 (fs.map toG).length c2 := by injection e2
 rw [List.length_map] at r0 r1 r2 l0 l1 l2 g0 g1 g2
 refine ⟨(es, ds, fs), ⟨A0, c0, A1, c1, A2, c2, ?_, ⟨l0, g0⟩, ⟨l1, g1⟩, g2⟩⟩
 apply Array.toList_inj.1
 show (Value.agg cs).cells.toList = _
 rw [hp, r0, r1, r2]
theorem orders_card_walk (cs : Array Value) (x : List EdgeL × List Txt × List FileL) (W : World) (ht : Tab W) (hx : TreeAt W cs x.1 x.2.1 x.2.2) :
  Calls Tryz.prog 3 #[.agg cs] W fun e w' => e = .returned (.bool true) ∧ Below W.heap.size W w' := orders_walk cs x.1 x.2.1 x.2.2 W ht hx
end Go.Proofs.YtnegfigaiomehaaGreatDoor.Tp
end
section
namespace Go.Proofs.YtnegfigaiomehaaGreatDoor.topOrders
open Go.ChangeShapes Go.WideShapes Go.ChangeAt Go.RowKit
open Go.ChangeMaps (open_string shut_string)
theorem own : ownKnob Tryz.prog.godebug = none := by kernel_rfl
theorem laidOut : laidOutB Tryz.prog = true := by kernel_rfl
set_option maxRecDepth 100000 in
theorem lifted (os : Os) (started : os.Started) (H : Type) (enc : TypeId × Value → H) :
  ReturnsInHanded {} Tryz.checked os 3 .any (fun w args => (Rows.topOrdersSpec.pre enc Tryz.prog Tryz.f3 Rows.topOrdersRow.domain false w args ∧ laidMetH Tryz.prog Rows.topOrdersRow.laid w) ∧ sizedMet enc Tryz.prog Tryz.f3 (OpenSpec.ofChange Rows.topOrdersSpec) false w args) (Rows.topOrdersSpec.post enc Tryz.prog Tryz.f3 false true false false) := by
 refine returnsInHanded_of_change_and (C := Tryz.checked) (X := fun w _ => laidMetH Tryz.prog Rows.topOrdersRow.laid w) (fun _ _ _ hh h => h.of_heap hh) own started (by kernel_rfl) Tryz.func3
  (ChangeSpec.witness_shaped (enc := enc) (C := Tryz.checked) (os := os) (X := fun w _ => laidMetH Tryz.prog Rows.topOrdersRow.laid w) false (World.laidAll Tryz.prog os Rows.topOrdersRow.laid) #[.agg #[.slice none 0 0, .slice none 0 0, .slice none 0 0]] 8 (World.laidAll_os _ _ _)
   (World.shaped_of_ZipB (by kernel_rfl) (by kernel_rfl)) (by kernel_rfl) (by kernel_rfl) (by kernel_rfl)
   (by rw [MakeChecks.laidMetH_plain _ _ _ (by kernel_rfl)]; exact laidMet_laidAll _ (by kernel_rfl) (by kernel_rfl))) ?_
 intro W base args ds gs before hval0 hW hcnd hsz0 hL _
 have hsz : (DataW.weightsEach Tryz.prog (Tryz.f3.params.toList ++ Rows.topOrdersSpec.plain.varTypes Tryz.prog) (ds ++ gs)).all (· ≤ reachBytes) = true := hsz0
 have hval : ∀ (j : Nat) t v, Tryz.f3.params[j]? = some t → args[j]? = some v → Value.okWide Tryz.prog W .any base t v := hval0
 have hW' := hW
 obtain ⟨p, q, hA0, hV, rfl, hfz, hnd⟩ := hW
 have hA : DataW.TrodAll enc Tryz.prog W 0 (fun _ => true) true Tryz.f3.params.toList args.toList ds p := hA0
 rw [Tryz.params3] at hA hval hsz
 obtain ⟨v0, vs0, d0, ds0, p0, q0, hargs, rfl, rfl, h0, r0⟩ := trodAll_cons hA
 obtain ⟨rfl, rfl, rfl⟩ := trodAll_nil r0
 obtain rfl : args = #[v0] := by cases args; simp_all
 obtain ⟨rfl, rfl⟩ := trodVars_none hV
 obtain ⟨a0, rfl, z0⟩ := okWide_struct Tryz.underlying28 (hval 0 28 v0 rfl rfl)
 have k0 := h0
 have lt0 : ∀ x ∈ p0, x.block < W.heap.size := by obtain ⟨m, hm⟩ := k0; exact DataW.trod_lt m _ _ _ hm
 obtain ⟨l0, w0⟩ := Tp.tree_open k0
 clear hA0 hval0 hsz0 hsz
 refine (Tp.orders_card_walk a0 l0 W (Tab.of_laid hL) w0).mono fun e W' ⟨he, bel⟩ => ?_
 subst he
 exact ⟨_, rfl, _, _, _, [], _, [], hW', trodAll_mk1 (shut_bool Tryz.underlying4 _), (trodAll_cons_mk (Below.trod laidOut (by kernel_rfl) (of_decide_eq_true (by kernel_rfl)) k0 bel lt0) trodAll_mk0), rfl, bel.frame _, fun h => by cases h⟩
theorem over : Rows.topOrdersRow.holds Tryz.pinned (OpenSpec.ofChange Rows.topOrdersSpec) :=
 OpenClaim.holds_of_wide 3 Tryz.f3 rfl rfl rfl rfl rfl rfl rfl ⟨rfl, rfl, rfl, rfl, rfl⟩ rfl rfl rfl rfl rfl (by kernel_rfl) Tryz.func3 (by kernel_rfl)
  (of_decide_eq_true (by kernel_rfl)) (by unfold Func.isWrapper; first | (rw [if_pos (by decide +kernel)]; kernel_rfl) | (rw [if_neg (by decide +kernel)]; exact ⟨rfl, rfl⟩))
  (fun os started H enc _ => lifted os started H enc)
theorem card : Rows.TopOrdersCardSaid :=
 Claim7.holds_tied_plain_at .later [] [.data, .data, .data, .data, .pinned] true (true, "f5db1368188ccf3f3b2f3f4359a03f01471a3a755d37177120e6594acac0fa2d") true over (fun _ h => by cases h) (by kernel_rfl) (fun _ h => by cases h) topOrders_row_tie rfl ⟨rfl, rfl⟩ (by kernel_rfl) rfl
  (fun f fn hf hfn => by
   obtain rfl : f = 3 := Option.some.inj ((show Tryz.prog.funcNamed "bellows/bellowstop.TopOrders" = some 3 by kernel_rfl).symm.trans hf) |>.symm
   obtain rfl : fn = Tryz.f3 := (Option.some.inj (Tryz.func3.symm.trans hfn)).symm
   have hall : (Tryz.f3.params.toList.all fun u => !Tryz.prog.wantsStandIn u) = true := by kernel_rfl
   exact ⟨by kernel_rfl, fun j t ht => by
    have hm : t ∈ Tryz.f3.params.toList := by simpa using Array.mem_of_getElem? ht
    exact (show Tryz.prog.wantsStandIn t = false by simpa using List.all_eq_true.1 hall t hm)⟩)
  (by kernel_rfl)
#print axioms card
end Go.Proofs.YtnegfigaiomehaaGreatDoor.topOrders
namespace Go.Proofs.YtnegfigaiomehaaGreatDoor
theorem topOrders_card : Rows.TopOrdersCardSaid := topOrders.card
end Go.Proofs.YtnegfigaiomehaaGreatDoor
end
