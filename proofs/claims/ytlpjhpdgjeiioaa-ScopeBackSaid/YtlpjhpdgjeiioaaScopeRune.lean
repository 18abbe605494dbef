/- strings.ContainsRune("$ :|", a byte). -/
import Derived.Test.YtlpjhpdgjeiioaaScopeA
import Derived.WalkSpells
import Derived.Outline
import Derived.Laws.Runes
import Derived.Lib.TrimAscii
import Derived.Deep.QuietTactic
import Derived.BigQuiet
import Derived.RegionTactic
import Derived.Deep.RegionWith
import Derived.Shelf.Strings.FuncGrows
set_option linter.unusedSimpArgs false
set_option linter.unusedVariables false
namespace Go.Proofs.Ytlpjhpdgjeiioaa.Sc
open Go.RowKit Go.Lib Go.Proofs.YtlpjhpdgjeiioaaW.PrintWords Go.Proofs.Ytlpjhpdgjeiioaa.U

abbrev escs : ByteArray := ⟨#[36, 32, 58, 124]⟩
def escR (c : Nat) : Bool := c == 36 || c == 32 || c == 58 || c == 124
theorem indexByte_no (l : List UInt8) (c : UInt8) (h : c ∉ l) : Lib.indexByte l c = -1 := by
  induction l with
  | nil => rfl
  | cons b l ih =>
    have h1 : b ≠ c := fun e => h (by simp [e])
    have h2 := ih (fun e => h (by simp [e]))
    unfold Lib.indexByte
    simp [h1, h2]
theorem ib_none (s : ByteArray) (b : Nat) (hs : ∀ x ∈ s.data.toList, x.toNat < 128) (h1 : 128 ≤ b) (h2 : b < 256) (w : World) :
    Calls Try.prog 51 #[.string s, .int .u8 (b : Int)] w fun e w' => e = .returned (.int .i64 (-1)) ∧ w' = w := by
  have h := Try.strings_IndexByte s (b : Int) w
  rw [indexByte_no] at h
  · exact h
  · intro hm
    have := hs _ hm
    simp at this
    rw [Nat.mod_eq_of_lt h2] at this
    omega
theorem escs_tail (a b : Nat) : ∀ x ∈ (escs.extract a b).data.toList, x.toNat < 128 := by
  intro x hx
  have := mem_extract hx
  simp at this
  rcases this with rfl | rfl | rfl | rfl <;> decide
theorem last_byte_of (rs : ByteArray) (k : Nat) (hk : rs.size = k + 1) (q : ∀ h : rs.size - 1 < rs.size, 128 ≤ (rs[rs.size - 1]'h).toNat) :
    ∃ b : Nat, 128 ≤ b ∧ b < 256 ∧ ∀ h : k < rs.size, ((rs[k]'h).toNat : Int) = (b : Int) := by
  have q4 := q (by omega)
  simp only [hk, Nat.add_sub_cancel] at q4
  exact ⟨(rs[k]'(by omega)).toNat, q4, UInt8.toNat_lt _, fun _ => rfl⟩
theorem enc2 : ∀ i : Fin 128, (Utf8.encode ((i.val + 128 : Nat) : Int)).size = 2 ∧ Lib.validRune ((i.val + 128 : Nat) : Int) = true := by decide +kernel

set_option maxRecDepth 1000000 in
set_option maxHeartbeats 4000000 in
theorem indexRune_two (r : Nat) (h0 : 128 ≤ r) (h1 : r < 256) (w : World) :
    Calls Try.prog 42 #[.string escs, .int .i32 (r : Int)] w fun e w' => e = .returned (.int .i64 (-1)) ∧ Below w.heap.size w w' := by
  have hE' : ((r : Int) == 65533) = false := by rw [beq_eq_false_iff_ne]; omega
  have hlt : decide ((r : Int) < 128) = false := by simp; omega
  obtain ⟨hz, hv⟩ := enc2 ⟨r - 128, by omega⟩
  simp only [show r - 128 + 128 = r by omega] at hz hv
  obtain ⟨q1, q2, q3⟩ := encode_facts (r : Int) (by rw [validRune_eq]; exact hv) (by omega)
  generalize hrs : Utf8.encode (r : Int) = rs at q1 q2 q3 hz
  clear q1 q2
  obtain ⟨b, hb1, hb3, hb2⟩ := last_byte_of rs 1 hz q3
  have hne : ((32 : Int) != (b : Int)) = true := by rw [bne_iff_ne]; omega
  clear q3
  have s1 : IntKind.i64.wrap (1 + 1) = 2 := by rfl
  have hsg : ∀ h : 1 < escs.size, ((escs[1]'h).toNat : Int) = 32 := fun _ => rfl
  have HS := Lib.hid (escs_tail 2 4)
  go_enter Try.func42, Try.ntmps42
  go_wp2_with (first | (go_at_call 52; refine (Try.utf8_ValidRune _ _).mono ?_; rintro e w' ⟨rfl, rfl⟩))
  go_step3
  go_wp2_with fail
  refine wp_loop_rounds 1 ?_
  rw [rounds_succ]
  go_wp2_with fail
  go_step3
  go_wp2_with fail
  go_quiet (fail)
  clear hrs hv hE' hlt
  go_wp2_with fail
  go_region_with (go_at_call 51; refine (ib_none _ b HS.out hb1 hb3 _).mono ?_; rintro e w2 ⟨rfl, rfl⟩)
  all_goals go_wp2_with fail
  all_goals (rw [Exit.noGoto_ret]; go_simp; go_ret; exact ⟨rfl, below_drewNg _ _⟩)

theorem esc_ascii : ∀ c : Fin 128, decide (0 ≤ Lib.indexByte escs.data.toList ((c.val : Int).toNat.toUInt8)) = escR c.val := by decide +kernel
set_option maxRecDepth 100000 in
set_option maxHeartbeats 2000000 in
theorem contains_esc (c : Nat) (h1 : c < 256) (w : World) :
    Calls Try.prog 35 #[.string escs, .int .i32 (c : Int)] w fun e w' => e = .returned (.bool (escR c)) ∧ Below w.heap.size w w' := by
  by_cases hc : c < 128
  · have h := Try.strings_ContainsRune_ascii escs (c : Int) w (by omega) (by omega)
    have e := esc_ascii ⟨c, hc⟩
    simp only at e
    rw [e] at h
    exact h.mono fun e w' ⟨he, hw⟩ => ⟨he, hw ▸ Below.refl _ _⟩
  · have HI := Lib.hid (indexRune_two c (by omega) h1 w)
    have e : escR c = false := by
      have h1 : ¬ c = 36 := by omega
      have h2 : ¬ c = 32 := by omega
      have h3 : ¬ c = 58 := by omega
      have h4 : ¬ c = 124 := by omega
      simp [escR, h1, h2, h3, h4]
    rw [e]
    go_enter Try.func35, Try.ntmps35
    go_wp2_with fail
    refine HI.out.mono ?_
    rintro e w' ⟨rfl, hb⟩
    go_wp2_with fail
    go_ret
    exact ⟨rfl, hb⟩
end Go.Proofs.Ytlpjhpdgjeiioaa.Sc
