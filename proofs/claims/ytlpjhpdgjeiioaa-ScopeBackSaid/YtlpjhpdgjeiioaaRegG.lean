/- A drawn region whose loads may be taken first though the region's own stores write their cells, as long as the stores wait for the loads: the condition S need hold only until the operation K is listed, which waits for each load that is taken first. -/
import Derived.Test.YtlpjhpdgjeiioaaU
import Derived.Deep.RegionHeld3
set_option linter.unusedSimpArgs false
set_option linter.unusedVariables false
namespace Go.Proofs.Ytlpjhpdgjeiioaa.RegG
open Go

section
variable {P : Program} {ops : Array Oper} {Q : Exit → Act → World → Prop} {md : Region.Mode} {S : World → Prop} {k : Nat}

/-- Whatever order is picked from here on; behind each operation S holds, as long as number k is not listed. -/
def wpAnyG (P : Program) (md : Region.Mode) (ops : Array Oper) (Q : Exit → Act → World → Prop) (S : World → Prop) (k : Nat) : Nat → Array Bool → Act → World → Prop
  | 0, listed, a, w => Region.ready md ops listed = [] ∧ Q .normal a w
  | fuel + 1, listed, a, w =>
    (Region.ready md ops listed = [] → Q .normal a w) ∧
    ∀ i ∈ Region.ready md ops listed, wpOp P ops Q i (fun a' w' => ((listed.setIfInBounds i true).getD k true = false → S w') ∧ wpAnyG P md ops Q S k fuel (listed.setIfInBounds i true) a' w') a w

theorem wpAny_of_G : ∀ (fuel : Nat) (listed : Array Bool) (a : Act) (w : World), wpAnyG P md ops Q S k fuel listed a w → wpAny P md ops Q fuel listed a w
  | 0, _, _, _, h => h
  | fuel + 1, _, _, _, h => ⟨h.1, fun i hi => wpOp_mono (fun a' w' h' => wpAny_of_G fuel _ a' w' h'.2) (h.2 i hi)⟩

/-- Does number k wait for number i? -/
def waits (md : Region.Mode) (ops : Array Oper) (k i : Nat) : Bool :=
  match ops[k]? with
  | some o => o.after.any fun e => Region.binds md e && e.on == i
  | none => true

theorem not_ready {i : Nat} {listed : Array Bool} (hk : waits md ops k i = true) (hi : listed.getD i true = false) (hr : k ∈ Region.ready md ops listed) : False := by
  obtain ⟨_, o, ho, h⟩ := mem_ready.1 hr
  unfold waits at hk
  rw [ho] at hk
  simp only at hk
  rw [Array.any_eq_true] at hk
  obtain ⟨n, hn, hb⟩ := hk
  rw [Bool.and_eq_true] at hb
  have h1 := h _ (Array.getElem_mem hn) hb.1
  rw [eq_of_beq hb.2] at h1
  rcases Nat.lt_or_ge i listed.size with h' | h'
  · simp [h'] at hi h1; rw [hi] at h1; cases h1
  · simp [Array.getElem?_eq_none h'] at h1

/-- Number i may be taken first where it yields its value in every world that meets T; T follows of S where k waits for i, and else holds of every world. -/
theorem wpAnyG_first {i : Nat} {oi : Oper} {v : Value} {T : World → Prop} (hik : i ≠ k) (hi : ops[i]? = some oi) (hsel : ∀ (j : Nat) (o : Oper) cs b, ops[j]? = some o → o.op ≠ .select cs b)
    (hQ : ∀ c a w, Q (.panic c) (a.put oi.dst v) w → Q (.panic c) a w) (hT : (∀ w, T w) ∨ (waits md ops k i = true ∧ ∀ w, S w → T w)) :
    ∀ (fuel : Nat) (listed : Array Bool) (a : Act) (w : World),
      (∀ j oj, ops[j]? = some oj → j ≠ i → listed.getD j true = false → (∀ e ∈ oj.after, Region.binds md e = true → e.on ≠ i) → oi.apart ops oj = true) →
      i ∈ Region.ready md ops listed → YieldsIf P ops T oi v a → T w → ((∀ w, T w) ∨ listed.getD k true = false) → (listed.getD k true = false → S w) →
      wpAnyG P md ops Q S k fuel (listed.setIfInBounds i true) (a.put oi.dst v) w → wpAnyG P md ops Q S k (fuel + 1) listed a w := by
  have hset : ∀ (listed : Array Bool) (w : World), (listed.getD k true = false → S w) → ((listed.setIfInBounds i true).getD k true = false → S w) := fun listed w h hk => by
    rw [getD_set_ne true hik] at hk; exact h hk
  intro fuel
  induction fuel with
  | zero =>
    intro listed a w _ hr hy hTw hS1 hS H
    refine ⟨fun h => (by rw [h] at hr; cases hr), fun j hj => ?_⟩
    by_cases hji : j = i
    · subst hji; exact hy.wpOp hi hTw ⟨hset listed w hS, H⟩
    · have := ready_mono hj hji
      rw [H.1] at this
      cases this
  | succ fuel ih =>
    intro listed a w hfree hr hy hTw hS1 hS H
    refine ⟨fun h => (by rw [h] at hr; cases hr), fun j hj => ?_⟩
    by_cases hji : j = i
    · subst hji; exact hy.wpOp hi hTw ⟨hset listed w hS, H⟩
    · have h1 := H.2 j (ready_mono hj hji)
      obtain ⟨hjun, oj, hoj, hall⟩ := mem_ready.1 hj
      have hnot : ∀ e ∈ oj.after, Region.binds md e = true → e.on ≠ i := fun e he hb heq => by
        have h1 := hall e he hb
        have h0 := (mem_ready.1 hr).1
        rw [heq] at h1
        rcases Nat.lt_or_ge i listed.size with h' | h'
        · simp [h'] at h0 h1; rw [h0] at h1; cases h1
        · simp [Array.getElem?_eq_none h'] at h1
      have h2 := wpOp_putIf (S := T) hoj (hfree j oj hoj hji hjun hnot) (fun cs b => hsel i oi cs b hi) (fun cs b => hsel j oj cs b hoj) hQ hy h1
      have hfree' : ∀ k ok, ops[k]? = some ok → k ≠ i → (listed.setIfInBounds j true).getD k true = false →
          (∀ e ∈ ok.after, Region.binds md e = true → e.on ≠ i) → oi.apart ops ok = true := fun k ok hk hki hun hno => by
        refine hfree k ok hk hki ?_ hno
        by_cases hjk : j = k
        · subst hjk; exact hjun
        · rw [getD_set_ne true hjk] at hun; exact hun
      refine wpOp_mono (fun a' w' h3 => ?_) h2
      obtain ⟨h4, h5, h6⟩ := h3
      rw [Array.setIfInBounds_comm _ _ (Ne.symm hji)] at h5 h6
      have hS' : (listed.setIfInBounds j true).getD k true = false → S w' := fun hk => h5 (by rw [getD_set_ne true hik]; exact hk)
      have hS1' : (∀ w, T w) ∨ (listed.setIfInBounds j true).getD k true = false := by
        rcases hT with h' | ⟨hw, _⟩
        · exact .inl h'
        · rcases hS1 with h | h
          · exact .inl h
          · refine .inr ?_
            have hjk : j ≠ k := fun e => by subst e; exact not_ready hw (mem_ready.1 hr).1 hj
            rw [getD_set_ne true hjk]; exact h
      have hT' : T w' := by
        rcases hT with h' | ⟨_, h'⟩
        · exact h' w'
        · rcases hS1' with h | h
          · exact h w'
          · exact h' w' (hS' h)
      exact ⟨hS', ih (listed.setIfInBounds j true) a' w' hfree' (ready_mono hr (Ne.symm hji)) h4 hT' hS1' hS' h6⟩

/-- Take number i first: it yields its value in whatever world. -/
theorem takeP {i : Nat} {oi : Oper} {v : Value} {fuel : Nat} {listed : Array Bool} {a : Act} {w : World} (hi : ops[i]? = some oi) (hik : (i != k) = true)
    (hs : Region.noSelect ops = true) (hf : Region.free md ops listed i = true) (hr : (Region.ready md ops listed).contains i = true)
    (hQ : ∀ c a w, Q (.panic c) (a.put oi.dst v) w → Q (.panic c) a w) (hy : Region.wanted oi (yielded ops a.tmps) = true) (hv : ∀ w, (execOp a.eval oi).run P w = .ok (.value v) w) (hS : listed.getD k true = false → S w)
    (h : wpAnyG P md ops Q S k fuel (listed.setIfInBounds i true) (a.put oi.dst v) w) : wpAnyG P md ops Q S k (fuel + 1) listed a w :=
  wpAnyG_first (T := fun _ => True) (by simpa using hik) hi (Region.noSelect_spec hs) hQ (.inl fun _ => trivial) fuel listed a w (Region.free_spec hi hf) (by simpa using hr) (.inl ⟨hy, fun w _ => hv w⟩) trivial (.inl fun _ => trivial) hS h

/-- Take number i, for which k waits, first: it yields its value in every world that meets S. -/
theorem takeS {i : Nat} {oi : Oper} {v : Value} {fuel : Nat} {listed : Array Bool} {a : Act} {w : World} (hi : ops[i]? = some oi) (hik : (i != k) = true) (hw : waits md ops k i = true) (hk : listed.getD k true = false)
    (hs : Region.noSelect ops = true) (hf : Region.free md ops listed i = true) (hr : (Region.ready md ops listed).contains i = true)
    (hQ : ∀ c a w, Q (.panic c) (a.put oi.dst v) w → Q (.panic c) a w) (hy : Region.wanted oi (yielded ops a.tmps) = true) (hv : ∀ w, S w → (execOp a.eval oi).run P w = .ok (.value v) w) (hS : S w)
    (h : wpAnyG P md ops Q S k fuel (listed.setIfInBounds i true) (a.put oi.dst v) w) : wpAnyG P md ops Q S k (fuel + 1) listed a w :=
  wpAnyG_first (T := S) (by simpa using hik) hi (Region.noSelect_spec hs) hQ (.inr ⟨hw, fun _ h => h⟩) fuel listed a w (Region.free_spec hi hf) (by simpa using hr) (.inl ⟨hy, hv⟩) hS (.inr hk) (fun _ => hS) h

def AllG (P : Program) (md : Region.Mode) (ops : Array Oper) (Q : Exit → Act → World → Prop) (S : World → Prop) (k fuel : Nat) (listed : Array Bool) (a : Act) (w : World) (rs : List Nat) : Prop :=
  ∀ i ∈ rs, wpOp P ops Q i (fun a' w' => ((listed.setIfInBounds i true).getD k true = false → S w') ∧ wpAnyG P md ops Q S k fuel (listed.setIfInBounds i true) a' w') a w
theorem AllG.nil {fuel : Nat} {listed : Array Bool} {a : Act} {w : World} : AllG P md ops Q S k fuel listed a w [] := fun _ h => by cases h
/-- The step ahead of k. -/
theorem AllG.cons {fuel : Nat} {listed : Array Bool} {a : Act} {w : World} {i : Nat} {o : Oper} {rs : List Nat} (ho : ops[i]? = some o)
    (h : ∀ K' : Act → World → Prop, Shut (∀ a w, S w → (S w → wpAnyG P md ops Q S k fuel (listed.setIfInBounds i true) a w) → K' a w) → if Region.wanted o (yielded ops a.tmps) = true then Oper.wp P o a w K' Q else K' (a.put o.dst undef) w)
    (hs : AllG P md ops Q S k fuel listed a w rs) : AllG P md ops Q S k fuel listed a w (i :: rs) := fun j hj => by
  rcases List.mem_cons.1 hj with rfl | hj
  · exact wpOp_step ho (fun K' hK => h K' (fun a w hS hW => hK a w ⟨fun _ => hS, hW hS⟩))
  · exact hs j hj
/-- The step k, and those behind it: S is not asked for any more. -/
theorem AllG.last {fuel : Nat} {listed : Array Bool} {a : Act} {w : World} {i : Nat} {o : Oper} {rs : List Nat} (hk : (listed.setIfInBounds i true).getD k true = true) (ho : ops[i]? = some o)
    (h : ∀ K' : Act → World → Prop, Shut (∀ a w, wpAnyG P md ops Q S k fuel (listed.setIfInBounds i true) a w → K' a w) → if Region.wanted o (yielded ops a.tmps) = true then Oper.wp P o a w K' Q else K' (a.put o.dst undef) w)
    (hs : AllG P md ops Q S k fuel listed a w rs) : AllG P md ops Q S k fuel listed a w (i :: rs) := fun j hj => by
  rcases List.mem_cons.1 hj with rfl | hj
  · exact wpOp_step ho (fun K' hK => h K' (fun a w hW => hK a w ⟨fun e => (by rw [hk] at e; cases e), hW⟩))
  · exact hs j hj
theorem readyG {rs : List Nat} {fuel : Nat} {listed : Array Bool} {a : Act} {w : World} (hr : Region.ready md ops listed = rs) (hne : rs ≠ [])
    (h : AllG P md ops Q S k fuel listed a w rs) : wpAnyG P md ops Q S k (fuel + 1) listed a w := ⟨fun h0 => absurd (hr ▸ h0) hne, hr ▸ h⟩
theorem doneG {listed : Array Bool} {a : Act} {w : World} (hr : Region.ready md ops listed = []) (h : Q .normal a w) :
    ∀ fuel, wpAnyG P md ops Q S k fuel listed a w
  | 0 => ⟨hr, h⟩
  | _ + 1 => ⟨fun _ => h, by rw [hr]; simp⟩
theorem regionG {id : Nat} {a : Act} {w : World} (S : World → Prop) (k : Nat) (hm : P.follows .mixedOrders = true) (hS : S w.drew)
    (h : S w.drew → wpAnyG P .any ops Q S k ops.size (Array.replicate ops.size false) a w.drew) : (Code.region id ops true).wp P Q a w :=
  wp_region_any hm (wpAny_of_G _ _ _ _ (h hS))
end
end Go.Proofs.Ytlpjhpdgjeiioaa.RegG
