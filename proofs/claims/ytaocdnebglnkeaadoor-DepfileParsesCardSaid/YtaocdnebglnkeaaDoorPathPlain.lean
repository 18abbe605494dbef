/- Which bytes and runes may be in a name: path.plain at every rune, strings.IndexFunc with its negation. -/
import Derived.Test.YtaocdnebglnkeaaDoorShelf
import Derived.Test.YtaocdnebglnkeaaDoorU
import Derived.WalkKit
import Derived.WalkSpells
import Derived.Outline
import Derived.Laws.Runes
import Derived.Shelf.Strings.FuncGrows
import Derived.Lib.TrimAscii
import Derived.Deep.QuietTactic
import Derived.BigQuiet
import Derived.Lib.Hide
import Derived.RegionTactic
import Derived.Deep.RegionWith
set_option linter.unusedSimpArgs false
set_option linter.unusedVariables false
namespace Go.Proofs.YtaocdnebglnkeaaDoor.P
open Go.RowKit Go.Lib Go.Proofs.YtaocdnebglnkeaaDoorW.PrintWords Go.Proofs.YtaocdnebglnkeaaDoor.U

/-- the signs that a name may hold -/
abbrev signs : ByteArray := ⟨#[46, 95, 45, 43, 47]⟩

theorem indexByte_no (l : List UInt8) (c : UInt8) (h : c ∉ l) : Lib.indexByte l c = -1 := by
  induction l with
  | nil => rfl
  | cons b l ih =>
    have h1 : b ≠ c := fun e => h (by simp [e])
    have h2 := ih (fun e => h (by simp [e]))
    unfold Lib.indexByte
    simp [h1, h2]
theorem ib_none (s : ByteArray) (b : Nat) (hs : ∀ x ∈ s.data.toList, x.toNat < 128) (h1 : 128 ≤ b) (h2 : b < 256) (w : World) :
    Calls Tryd.prog 71 #[.string s, .int .u8 (b : Int)] w fun e w' => e = .returned (.int .i64 (-1)) ∧ w' = w := by
  have h := Tryd.strings_IndexByte s (b : Int) w
  rw [indexByte_no] at h
  · exact h
  · intro hm
    have := hs _ hm
    simp at this
    rw [Nat.mod_eq_of_lt h2] at this
    omega
theorem signs_tail (a b : Nat) : ∀ x ∈ (signs.extract a b).data.toList, x.toNat < 128 := by
  intro x hx
  have := mem_extract hx
  simp at this
  rcases this with rfl | rfl | rfl | rfl | rfl <;> decide
theorem last_byte_of (rs : ByteArray) (k : Nat) (hk : rs.size = k + 1) (q : ∀ h : rs.size - 1 < rs.size, 128 ≤ (rs[rs.size - 1]'h).toNat) :
    ∃ b : Nat, 128 ≤ b ∧ b < 256 ∧ ∀ h : k < rs.size, ((rs[k]'h).toNat : Int) = (b : Int) := by
  have q4 := q (by omega)
  simp only [hk, Nat.add_sub_cancel] at q4
  exact ⟨(rs[k]'(by omega)).toNat, q4, UInt8.toNat_lt _, fun _ => rfl⟩

set_option maxRecDepth 1000000 in
set_option maxHeartbeats 4000000 in
theorem indexRune_valid (r : Nat) (h0 : 128 ≤ r) (h1 : r ≤ 1114111) (hE : r ≠ 65533) (hv : Lib.validRune (r : Int) = true) (w : World) :
    Calls Tryd.prog 60 #[.string signs, .int .i32 (r : Int)] w fun e w' => e = .returned (.int .i64 (-1)) ∧ Below w.heap.size w w' := by
  have hE' : ((r : Int) == 65533) = false := by rw [beq_eq_false_iff_ne]; omega
  have hlt : decide ((r : Int) < 128) = false := by simp; omega
  obtain ⟨q1, q2, q3⟩ := encode_facts (r : Int) (by rw [validRune_eq]; exact hv) (by omega)
  generalize hrs : Utf8.encode (r : Int) = rs at q1 q2 q3
  have hz : rs.size = 2 ∨ rs.size = 3 ∨ rs.size = 4 := by omega
  clear q1 q2
  rcases hz with hz | hz | hz
  · obtain ⟨b, hb1, hb3, hb2⟩ := last_byte_of rs 1 hz q3
    have hne : ((95 : Int) != (b : Int)) = true := by rw [bne_iff_ne]; omega
    clear q3
    have s1 : IntKind.i64.wrap (1 + 1) = 2 := by rfl
    have hsg : ∀ h : 1 < signs.size, ((signs[1]'h).toNat : Int) = 95 := fun _ => rfl
    have HS := Lib.hid (signs_tail 2 5)
    go_enter Tryd.func60, Tryd.ntmps60
    go_wp2_with (first | (go_at_call 72; refine (Tryd.utf8_ValidRune _ _).mono ?_; rintro e w' ⟨rfl, rfl⟩))
    go_step3
    go_wp2_with fail
    refine wp_loop_rounds 1 ?_
    rw [rounds_succ]
    go_wp2_with fail
    go_step3
    go_wp2_with fail
    go_quiet (fail)
    clear hrs hv hE hE' hlt
    go_wp2_with fail
    go_region_with (go_at_call 71; refine (ib_none _ b HS.out hb1 hb3 _).mono ?_; rintro e w2 ⟨rfl, rfl⟩)
    all_goals go_wp2_with fail
    all_goals (rw [Exit.noGoto_ret]; go_simp; go_ret; exact ⟨rfl, below_drewNg _ _⟩)
  · obtain ⟨b, hb1, hb3, hb2⟩ := last_byte_of rs 2 hz q3
    have hne : ((45 : Int) != (b : Int)) = true := by rw [bne_iff_ne]; omega
    clear q3
    have s1 : IntKind.i64.wrap (2 + 1) = 3 := by rfl
    have hsg : ∀ h : 2 < signs.size, ((signs[2]'h).toNat : Int) = 45 := fun _ => rfl
    have HS := Lib.hid (signs_tail 3 5)
    go_enter Tryd.func60, Tryd.ntmps60
    go_wp2_with (first | (go_at_call 72; refine (Tryd.utf8_ValidRune _ _).mono ?_; rintro e w' ⟨rfl, rfl⟩))
    go_step3
    go_wp2_with fail
    refine wp_loop_rounds 1 ?_
    rw [rounds_succ]
    go_wp2_with fail
    go_step3
    go_wp2_with fail
    go_quiet (fail)
    clear hrs hv hE hE' hlt
    go_wp2_with fail
    go_region_with (go_at_call 71; refine (ib_none _ b HS.out hb1 hb3 _).mono ?_; rintro e w2 ⟨rfl, rfl⟩)
    all_goals go_wp2_with fail
    all_goals (rw [Exit.noGoto_ret]; go_simp; go_ret; exact ⟨rfl, below_drewNg _ _⟩)
  · obtain ⟨b, hb1, hb3, hb2⟩ := last_byte_of rs 3 hz q3
    have hne : ((43 : Int) != (b : Int)) = true := by rw [bne_iff_ne]; omega
    clear q3
    have s1 : IntKind.i64.wrap (3 + 1) = 4 := by rfl
    have hsg : ∀ h : 3 < signs.size, ((signs[3]'h).toNat : Int) = 43 := fun _ => rfl
    have HS := Lib.hid (signs_tail 4 5)
    go_enter Tryd.func60, Tryd.ntmps60
    go_wp2_with (first | (go_at_call 72; refine (Tryd.utf8_ValidRune _ _).mono ?_; rintro e w' ⟨rfl, rfl⟩))
    go_step3
    go_wp2_with fail
    refine wp_loop_rounds 1 ?_
    rw [rounds_succ]
    go_wp2_with fail
    go_step3
    go_wp2_with fail
    go_quiet (fail)
    clear hrs hv hE hE' hlt
    go_wp2_with fail
    go_region_with (go_at_call 71; refine (ib_none _ b HS.out hb1 hb3 _).mono ?_; rintro e w2 ⟨rfl, rfl⟩)
    all_goals go_wp2_with fail
    all_goals (rw [Exit.noGoto_ret]; go_simp; go_ret; exact ⟨rfl, below_drewNg _ _⟩)

set_option maxRecDepth 1000000 in
set_option maxHeartbeats 4000000 in
theorem indexRune_invalid (r : Nat) (h0 : 128 ≤ r) (h1 : r ≤ 1114111) (hE : r ≠ 65533) (hv : Lib.validRune (r : Int) = false) (w : World) :
    Calls Tryd.prog 60 #[.string signs, .int .i32 (r : Int)] w fun e w' => e = .returned (.int .i64 (-1)) ∧ Below w.heap.size w w' := by
  have hE' : ((r : Int) == 65533) = false := by rw [beq_eq_false_iff_ne]; omega
  have hlt : decide ((r : Int) < 128) = false := by simp; omega
  go_enter Tryd.func60, Tryd.ntmps60
  go_wp2_with (first | (go_at_call 72; refine (Tryd.utf8_ValidRune _ _).mono ?_; rintro e w' ⟨rfl, rfl⟩))
  go_ret
  exact ⟨rfl, Below.refl _ _⟩

theorem decode_signs (pos : Nat) (h : pos < 5) : (Utf8.decode signs pos).1 ≠ 65533 ∧ (Utf8.decode signs pos).2 = 1 := by
  have : pos = 0 ∨ pos = 1 ∨ pos = 2 ∨ pos = 3 ∨ pos = 4 := by omega
  rcases this with rfl | rfl | rfl | rfl | rfl <;> exact ⟨by decide +kernel, by decide +kernel⟩

set_option maxRecDepth 1000000 in
set_option maxHeartbeats 4000000 in
theorem indexRune_error (w : World) :
    Calls Tryd.prog 60 #[.string signs, .int .i32 65533] w fun e w' => e = .returned (.int .i64 (-1)) ∧ Below w.heap.size w w' := by
  go_enter Tryd.func60, Tryd.ntmps60
  go_wp2
  go_loopg [] 5 (fun gf wx => ∃ pos : Nat, wx.heap[w.heap.size]? = some (.stringIter signs pos) ∧ Below w.heap.size w wx ∧ 5 ≤ pos + gf)
  case atStart => exact ⟨0, World.iter_heap w signs 0, (Below.refl _ w).alloc (Nat.le_refl _) _, by omega⟩
  case round =>
    obtain ⟨pos, hit, hbw, hfu⟩ := hrel
    by_cases hps : pos < signs.size
    · have hp5 : pos < 5 := hps
      obtain ⟨g', rfl⟩ : ∃ g', gk = g' + 1 := ⟨gk - 1, by omega⟩
      have hnx : ∀ ty, (Instr.next (.pointer (some ⟨w.heap.size, 0, none⟩)) true ty).run Tryd.prog wr = _ := fun ty => Lib.run_next_any_at wr w.heap.size signs pos ty hit hps
      obtain ⟨hd1, hd2⟩ := decode_signs pos hp5
      obtain ⟨R, hR⟩ : ∃ R, (Utf8.decode signs pos).1 = R := ⟨_, rfl⟩
      rw [hR] at hd1 hnx
      rw [hd2] at hnx
      have hit2 := Lib.iterAt_heap wr w.heap.size signs pos (pos + 1) hit
      have hbw2 := Lib.below_iterAt hbw (k := w.heap.size) (Nat.le_refl _) signs (pos + 1)
      obtain ⟨W, hWd⟩ : ∃ W, wr.iterAt w.heap.size signs (pos + 1) = W := ⟨_, rfl⟩
      rw [hWd] at hnx hit2 hbw2
      have hR3 : ((R : Int) == 65533) = false := by rw [beq_eq_false_iff_ne]; omega
      clear hR hd2 hWd hit hd1
      go_wp2
      go_roundg g'
      case measure => omega
      case rel => exact ⟨pos + 1, hit2, hbw2, by omega⟩
    · have hnx : ∀ ty, (Instr.next (.pointer (some ⟨w.heap.size, 0, none⟩)) true ty).run Tryd.prog wr = _ := fun ty => Lib.run_next_end_at wr w.heap.size signs pos ty hit (by omega)
      go_wp2
      go_ret
      exact ⟨rfl, hbw⟩
end Go.Proofs.YtaocdnebglnkeaaDoor.P
