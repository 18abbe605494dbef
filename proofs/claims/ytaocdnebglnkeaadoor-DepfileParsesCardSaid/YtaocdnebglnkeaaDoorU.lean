/- Plain tools for the laws: byte strings as lists, rounds (Ev), counters. No program in sight. -/
import Derived.Test.YtaocdnebglnkeaaDoorWWords
import Derived.Lib.Hide
set_option linter.unusedSimpArgs false
set_option linter.unusedVariables false
namespace Go.Proofs.YtaocdnebglnkeaaDoor.U
open Go.RowKit Go.Proofs.YtaocdnebglnkeaaDoorW.PrintWords

/-- A list of bytes as Go's string. -/
abbrev B (l : List UInt8) : ByteArray := ⟨l.toArray⟩
theorem toList_B (l : List UInt8) : (B l).toList = l := by rw [ByteArray.toList_eq]
theorem data_B (l : List UInt8) : (B l).data.toList = l := rfl
theorem size_B (l : List UInt8) : (B l).size = l.length := by simp [ByteArray.size]
theorem B_surj (s : ByteArray) : ∃ l, s = B l := ⟨s.data.toList, by cases s; simp [B]⟩
theorem B_of (s : ByteArray) : s = B s.data.toList := by cases s; simp [B]
theorem B_inj {a b : List UInt8} (h : B a = B b) : a = b := by
  have := congrArg (fun s => s.data.toList) h
  simpa using this
theorem B_append (a b : List UInt8) : B a ++ B b = B (a ++ b) := by
  apply ByteArray.ext
  rw [ByteArray.data_append]
  simp [B]
theorem B_nil : (⟨#[]⟩ : ByteArray) = B [] := rfl
theorem B_empty : ByteArray.empty = B [] := rfl
theorem extract_B (l : List UInt8) (a b : Nat) : (B l).extract a b = B ((l.take b).drop a) := by
  apply ByteArray.ext
  rw [ByteArray.data_extract]
  simp [B, List.extract_eq_take_drop, List.drop_take]
theorem bt_B (l : List UInt8) (i : Nat) (h : i < l.length) : bt (B l) (i : Int) = (l[i].toNat : Int) := by
  have h' : ((i : Int).toNat) < (B l).size := by rw [size_B]; simpa using h
  rw [← bt_at (B l) (i : Int) h']
  rfl
theorem bt_mid (p : List UInt8) (c : UInt8) (r : List UInt8) : bt (B (p ++ c :: r)) (p.length : Int) = (c.toNat : Int) := by
  rw [bt_B _ _ (by simp)]; simp
theorem bt_head (c : UInt8) (r : List UInt8) : bt (B (c :: r)) 0 = (c.toNat : Int) := bt_mid [] c r
theorem toNat_eq (c : UInt8) (n : Nat) (hn : n < 256) : ((c.toNat : Int) = (n : Int)) ↔ c = UInt8.ofNat n := by
  constructor
  · intro h
    apply UInt8.toNat_inj.1
    have : c.toNat = n := by omega
    rw [this]; simp [Nat.mod_eq_of_lt hn]
  · rintro rfl
    simp [Nat.mod_eq_of_lt hn]
theorem wrap_id (x : Int) (h0 : -9223372036854775808 ≤ x) (h1 : x ≤ 9223372036854775807) : wrap64 x = x := by
  unfold wrap64; omega
theorem wrap_succ (i : Nat) (h : i < 4611686018427387904) : wrap64 ((i : Int) + 1) = ((i + 1 : Nat) : Int) := by
  rw [wrap_id _ (by omega) (by omega)]; rfl
/-- The same, kept from omega (an open equation on wrap64 sends omega's proof, in the kernel, out of memory). -/
theorem wrapH (i : Nat) (h : i < 4611686018427387904) : Hid (wrap64 ((i : Int) + 1) = ((i + 1 : Nat) : Int)) := wrap_succ i h
theorem wrapH2 (i j : Nat) (h : i + j < 4611686018427387904) : Hid (wrap64 ((i : Int) + (j : Int)) = ((i + j : Nat) : Int)) := by
  show wrap64 ((i : Int) + (j : Int)) = ((i + j : Nat) : Int)
  rw [wrap_id _ (by omega) (by omega)]; rfl
theorem wrap_add (i j : Nat) (h : i + j < 4611686018427387904) : wrap64 ((i : Int) + (j : Int)) = ((i + j : Nat) : Int) := by
  rw [wrap_id _ (by omega) (by omega)]; rfl
theorem bt_next (p : List UInt8) (c d : UInt8) (r : List UInt8) (h : p.length < 4611686018427387903) : bt (B (p ++ c :: d :: r)) (wrap64 ((p.length : Int) + 1)) = (d.toNat : Int) := by
  rw [wrap_succ _ (by omega), bt_B _ _ (by simp)]; simp
theorem byte_ne {c d : UInt8} (h : c ≠ d) : ¬ (c.toNat : Int) = (d.toNat : Int) := fun e => h (UInt8.toNat_inj.1 (by omega))
theorem rdOf_B (xs : List ByteArray) (i : Nat) (h : i < xs.length) : rdOf ByteArray.empty xs (i : Int) = xs[i] := by
  simp [rdOf, List.getD_eq_getElem?_getD, h]

/-- From some number of rounds on: one round laid open, behind whose tests the rest stands. -/
theorem Ev.unroll {α : Type} {g : Nat → Option α} {r : α} (h : Ev (fun k => g (k + 1)) r) : Ev g r := Ev.step (fun _ => rfl) h
theorem Ev.some {α : Type} {g : Nat → Option α} {r : α} (h : ∀ k, g k = Option.some r) : Ev g r := ⟨0, fun k _ => h k⟩
theorem Ev.shift {α : Type} {g : Nat → Option α} {r : α} (h : Ev g r) : Ev (fun k => g (k + 1)) r := by
  obtain ⟨K, h⟩ := h
  exact ⟨K, fun k hk => h _ (by omega)⟩
theorem Ev.eqn {α : Type} {g : Nat → Option α} {r r' : α} (h : Ev g r) (e : r = r') : Ev g r' := e ▸ h
end Go.Proofs.YtaocdnebglnkeaaDoor.U
