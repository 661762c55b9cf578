/-
  A region that draws its order, whose last operations (number T and on: a store, say) wait for all the others: what the loads read is asked for only behind the operations ahead of T. Own work, beside the kit's laws on loads that are taken first; no Go in it.
-/
import Derived.Test.YtkjlgamggkencaaDoorBase
namespace Go.Proofs.YtkjlgamggkencaaDoor
open Go.RowKit

section
variable {P : Program} {ops : Array Oper} {Q : Exit → Act → World → Prop} {md : Region.Mode} {S : World → Prop} {T : Nat}

/-- Whatever order is picked from here on; S holds behind every operation ahead of T. -/
def Held (P : Program) (md : Region.Mode) (ops : Array Oper) (Q : Exit → Act → World → Prop) (S : World → Prop) (T : Nat) : Nat → Array Bool → Act → World → Prop
  | 0, listed, a, w => Region.ready md ops listed = [] ∧ Q .normal a w
  | fuel + 1, listed, a, w => (Region.ready md ops listed = [] → Q .normal a w) ∧
    ∀ i ∈ Region.ready md ops listed, wpOp P ops Q i (fun a' w' => (i < T → S w') ∧ Held P md ops Q S T fuel (listed.setIfInBounds i true) a' w') a w

theorem Held.any : ∀ (fuel : Nat) (listed : Array Bool) (a : Act) (w : World), Held P md ops Q S T fuel listed a w → wpAny P md ops Q fuel listed a w
  | 0, _, _, _, h => h
  | fuel + 1, _, _, _, h => ⟨h.1, fun i hi => wpOp_mono (fun a' w' h' => Held.any fuel _ a' w' h'.2) (h.2 i hi)⟩

/-- on the way S may be turned for what says more -/
theorem Held.turn {S' : World → Prop} (hS : ∀ w, S' w → S w) : ∀ {fuel : Nat} {listed : Array Bool} {a : Act} {w : World}, Held P md ops Q S' T fuel listed a w → Held P md ops Q S T fuel listed a w
  | 0, _, _, _, h => h
  | _ + 1, _, _, _, h => ⟨h.1, fun i hi => wpOp_mono (fun _ _ h' => ⟨fun hT => hS _ (h'.1 hT), Held.turn hS h'.2⟩) (h.2 i hi)⟩

/-- every operation from T on waits for i -/
def lateB (md : Region.Mode) (ops : Array Oper) (T i : Nat) : Bool :=
  (List.range ops.size).all fun t => decide (t < T) || (match ops[t]? with | some o => o.after.any fun e => Region.binds md e && e.on == i | none => true)

theorem late_of {i : Nat} (h : lateB md ops T i = true) {listed : Array Bool} (hi : i ∈ Region.ready md ops listed) {j : Nat} (hj : j ∈ Region.ready md ops listed) : j < T := by
  obtain ⟨hiu, _⟩ := mem_ready.1 hi
  obtain ⟨hju, oj, hoj, hall⟩ := mem_ready.1 hj
  have hsz : j < ops.size := by
    rcases Nat.lt_or_ge j ops.size with h | h
    · exact h
    · rw [Array.getElem?_eq_none h] at hoj; cases hoj
  have h1 := List.all_eq_true.1 h j (List.mem_range.2 hsz)
  rcases Bool.or_eq_true .. |>.mp h1 with h2 | h2
  · exact of_decide_eq_true h2
  · rw [hoj] at h2
    obtain ⟨e, he, hb⟩ := Array.any_eq_true'.1 h2
    simp only [Bool.and_eq_true, beq_iff_eq] at hb
    have h3 := hall e he hb.1
    rw [hb.2] at h3
    rcases Nat.lt_or_ge i listed.size with h' | h'
    · simp [h'] at hiu h3; rw [hiu] at h3; cases h3
    · simp [Array.getElem?_eq_none h'] at h3

theorem Held.first {i : Nat} {oi : Oper} {v : Value} (hi : ops[i]? = some oi) (hsel : ∀ (j : Nat) (o : Oper) cs b, ops[j]? = some o → o.op ≠ .select cs b)
    (hQ : ∀ c a w, Q (.panic c) (a.put oi.dst v) w → Q (.panic c) a w) (hT : lateB md ops T i = true) :
    ∀ (fuel : Nat) (listed : Array Bool) (a : Act) (w : World),
      (∀ j oj, ops[j]? = some oj → j ≠ i → listed.getD j true = false → (∀ e ∈ oj.after, Region.binds md e = true → e.on ≠ i) → oi.apart ops oj = true) →
      i ∈ Region.ready md ops listed → YieldsIf P ops S oi v a → S w →
      Held P md ops Q S T fuel (listed.setIfInBounds i true) (a.put oi.dst v) w → Held P md ops Q S T (fuel + 1) listed a w := by
  intro fuel
  induction fuel with
  | zero =>
    intro listed a w _ hr hy hS H
    refine ⟨fun h => (by rw [h] at hr; cases hr), fun j hj => ?_⟩
    by_cases hji : j = i
    · subst hji; exact hy.wpOp hi hS ⟨fun _ => hS, H⟩
    · have := ready_mono hj hji
      rw [H.1] at this
      cases this
  | succ fuel ih =>
    intro listed a w hfree hr hy hS H
    refine ⟨fun h => (by rw [h] at hr; cases hr), fun j hj => ?_⟩
    by_cases hji : j = i
    · subst hji; exact hy.wpOp hi hS ⟨fun _ => hS, H⟩
    have h1 := H.2 j (ready_mono hj hji)
    have hjT := late_of hT hr hj
    obtain ⟨hjun, oj, hoj, hall⟩ := mem_ready.1 hj
    have hnot : ∀ e ∈ oj.after, Region.binds md e = true → e.on ≠ i := fun e he hb heq => by
      have h1 := hall e he hb
      have h0 := (mem_ready.1 hr).1
      rw [heq] at h1
      rcases Nat.lt_or_ge i listed.size with h' | h'
      · simp [h'] at h0 h1; rw [h0] at h1; cases h1
      · simp [Array.getElem?_eq_none h'] at h1
    have h2 := wpOp_putIf hoj (hfree j oj hoj hji hjun hnot) (fun cs b => hsel i oi cs b hi) (fun cs b => hsel j oj cs b hoj) hQ hy h1
    refine wpOp_mono (fun a' w' h3 => ⟨fun _ => h3.2.1 hjT, ih (listed.setIfInBounds j true) a' w' (fun k ok hk hki hun hno => hfree k ok hk hki ?_ hno) (ready_mono hr (Ne.symm hji)) h3.1 (h3.2.1 hjT) ?_⟩) h2
    · by_cases hjk : j = k
      · subst hjk; exact hjun
      · rw [getD_set_ne true hjk] at hun; exact hun
    · rw [Array.setIfInBounds_comm _ _ hji]
      exact h3.2.2

/-- number i is taken first -/
theorem Held.take {i : Nat} {oi : Oper} {v : Value} {fuel : Nat} {listed : Array Bool} {a : Act} {w : World} (hi : ops[i]? = some oi)
    (hs : Region.noSelect ops = true) (hf : Region.free md ops listed i = true) (hr : (Region.ready md ops listed).contains i = true) (hT : lateB md ops T i = true)
    (hQ : ∀ c a w, Q (.panic c) (a.put oi.dst v) w → Q (.panic c) a w) (hy : YieldsIf P ops S oi v a) (hS : S w)
    (h : Held P md ops Q S T fuel (listed.setIfInBounds i true) (a.put oi.dst v) w) : Held P md ops Q S T (fuel + 1) listed a w :=
  Held.first hi (Region.noSelect_spec hs) hQ hT fuel listed a w (Region.free_spec hi hf) (by simpa using hr) hy hS h

/-- number i alone may come up -/
theorem Held.next {i : Nat} {o : Oper} {fuel : Nat} {listed : Array Bool} {a : Act} {w : World} (hr : Region.ready md ops listed = [i]) (ho : ops[i]? = some o)
    (h : ∀ K : Act → World → Prop, Shut (∀ a w, (i < T → S w) → Held P md ops Q S T fuel (listed.setIfInBounds i true) a w → K a w) → if Region.wanted o (yielded ops a.tmps) = true then Oper.wp P o a w K Q else K (a.put o.dst undef) w) :
    Held P md ops Q S T (fuel + 1) listed a w := by
  refine ⟨fun h0 => absurd (hr.symm.trans h0) (by simp), fun j hj => ?_⟩
  rw [hr] at hj
  obtain rfl : j = i := by simpa using hj
  exact wpOp_step ho (fun K hK => h K (fun a w hS hW => hK a w ⟨hS, hW⟩))

/-- all have come up -/
theorem Held.done {listed : Array Bool} {a : Act} {w : World} (hr : Region.ready md ops listed = []) (h : Q .normal a w) : ∀ fuel, Held P md ops Q S T fuel listed a w
  | 0 => ⟨hr, h⟩
  | _ + 1 => ⟨fun _ => h, by rw [hr]; simp⟩

/-- the beginning, behind the draw; a panic is not to be -/
theorem Held.begin {id : Nat} {a : Act} {w : World} (S : World → Prop) (T : Nat) (hm : P.follows .mixedOrders = true)
    (h : Held P .any ops (NoPanic Q) S T ops.size (Array.replicate ops.size false) a w.drew) : (Code.region id ops true).wp P Q a w :=
  wp_region_noPanic (wp_region_any hm (Held.any _ _ _ _ h))
end

end Go.Proofs.YtkjlgamggkencaaDoor
