/-
  A region that draws its order, whose last operations (number T and on: a store, say) wait for all the others: what the loads read is asked for only behind the operations ahead of T. Own work, beside the kit's laws on loads that are taken first; no Go in it.
-/
import Derived.Test.YtkjlgamggkencaaDoorMBase
namespace Go.Proofs.YtkjlgamggkencaaDoor
open Go.RowKit

section
variable {P : Program} {ops : Array Oper} {Q : Exit → Act → World → Prop} {md : Region.Mode} {S : World → Prop} {T : Nat}

/-- Whatever order is picked from here on; S holds behind every operation ahead of T. -/
def Held (P : Program) (md : Region.Mode) (ops : Array Oper) (Q : Exit → Act → World → Prop) (S : World → Prop) (T : Nat) : Nat → Array Bool → Act → World → Prop
  | 0, listed, a, w => Region.ready md ops listed = [] ∧ Q .normal a w
  | fuel + 1, listed, a, w => (Region.ready md ops listed = [] → Q .normal a w) ∧
    ∀ i ∈ Region.ready md ops listed, wpOp P ops Q i (fun a' w' => (i < T → S w') ∧ Held P md ops Q S T fuel (listed.setIfInBounds i true) a' w') a w

theorem Held.any : ∀ (fuel : Nat) (listed : Array Bool) (a : Act) (w : World), Held P md ops Q S T fuel listed a w → wpAny P md ops Q fuel listed a w
  | 0, _, _, _, h => h
  | fuel + 1, _, _, _, h => ⟨h.1, fun i hi => wpOp_mono (fun a' w' h' => Held.any fuel _ a' w' h'.2) (h.2 i hi)⟩

/-- on the way S may be turned for what says more -/
theorem Held.turn {S' : World → Prop} (hS : ∀ w, S' w → S w) : ∀ {fuel : Nat} {listed : Array Bool} {a : Act} {w : World}, Held P md ops Q S' T fuel listed a w → Held P md ops Q S T fuel listed a w
  | 0, _, _, _, h => h
  | _ + 1, _, _, _, h => ⟨h.1, fun i hi => wpOp_mono (fun _ _ h' => ⟨fun hT => hS _ (h'.1 hT), Held.turn hS h'.2⟩) (h.2 i hi)⟩

/-- every operation from T on waits for i -/
def lateB (md : Region.Mode) (ops : Array Oper) (T i : Nat) : Bool :=
  (List.range ops.size).all fun t => decide (t < T) || (match ops[t]? with | some o => o.after.any fun e => Region.binds md e && e.on == i | none => true)

theorem late_of {i : Nat} (h : lateB md ops T i = true) {listed : Array Bool} (hi : i ∈ Region.ready md ops listed) {j : Nat} (hj : j ∈ Region.ready md ops listed) : j < T := by
  obtain ⟨hiu, _⟩ := mem_ready.1 hi
  obtain ⟨hju, oj, hoj, hall⟩ := mem_ready.1 hj
  have hsz : j < ops.size := by
    rcases Nat.lt_or_ge j ops.size with h | h
    · exact h
    · rw [Array.getElem?_eq_none h] at hoj; cases hoj
  have h1 := List.all_eq_true.1 h j (List.mem_range.2 hsz)
  rcases Bool.or_eq_true .. |>.mp h1 with h2 | h2
  · exact of_decide_eq_true h2
  · rw [hoj] at h2
    obtain ⟨e, he, hb⟩ := Array.any_eq_true'.1 h2
    simp only [Bool.and_eq_true, beq_iff_eq] at hb
    have h3 := hall e he hb.1
    rw [hb.2] at h3
    rcases Nat.lt_or_ge i listed.size with h' | h'
    · simp [h'] at hiu h3; rw [hiu] at h3; cases h3
    · simp [Array.getElem?_eq_none h'] at h3

theorem Held.first {i : Nat} {oi : Oper} {v : Value} (hi : ops[i]? = some oi) (hsel : ∀ (j : Nat) (o : Oper) cs b, ops[j]? = some o → o.op ≠ .select cs b)
    (hQ : ∀ c a w, Q (.panic c) (a.put oi.dst v) w → Q (.panic c) a w) (hT : lateB md ops T i = true) :
    ∀ (fuel : Nat) (listed : Array Bool) (a : Act) (w : World),
      (∀ j oj, ops[j]? = some oj → j ≠ i → listed.getD j true = false → (∀ e ∈ oj.after, Region.binds md e = true → e.on ≠ i) → oi.apart ops oj = true) →
      i ∈ Region.ready md ops listed → YieldsIf P ops S oi v a → S w →
      Held P md ops Q S T fuel (listed.setIfInBounds i true) (a.put oi.dst v) w → Held P md ops Q S T (fuel + 1) listed a w := by
  intro fuel
  induction fuel with
  | zero =>
    intro listed a w _ hr hy hS H
    refine ⟨fun h => (by rw [h] at hr; cases hr), fun j hj => ?_⟩
    by_cases hji : j = i
    · subst hji; exact hy.wpOp hi hS ⟨fun _ => hS, H⟩
    · have := ready_mono hj hji
      rw [H.1] at this
      cases this
  | succ fuel ih =>
    intro listed a w hfree hr hy hS H
    refine ⟨fun h => (by rw [h] at hr; cases hr), fun j hj => ?_⟩
    by_cases hji : j = i
    · subst hji; exact hy.wpOp hi hS ⟨fun _ => hS, H⟩
    have h1 := H.2 j (ready_mono hj hji)
    have hjT := late_of hT hr hj
    obtain ⟨hjun, oj, hoj, hall⟩ := mem_ready.1 hj
    have hnot : ∀ e ∈ oj.after, Region.binds md e = true → e.on ≠ i := fun e he hb heq => by
      have h1 := hall e he hb
      have h0 := (mem_ready.1 hr).1
      rw [heq] at h1
      rcases Nat.lt_or_ge i listed.size with h' | h'
      · simp [h'] at h0 h1; rw [h0] at h1; cases h1
      · simp [Array.getElem?_eq_none h'] at h1
    have h2 := wpOp_putIf hoj (hfree j oj hoj hji hjun hnot) (fun cs b => hsel i oi cs b hi) (fun cs b => hsel j oj cs b hoj) hQ hy h1
    refine wpOp_mono (fun a' w' h3 => ⟨fun _ => h3.2.1 hjT, ih (listed.setIfInBounds j true) a' w' (fun k ok hk hki hun hno => hfree k ok hk hki ?_ hno) (ready_mono hr (Ne.symm hji)) h3.1 (h3.2.1 hjT) ?_⟩) h2
    · by_cases hjk : j = k
      · subst hjk; exact hjun
      · rw [getD_set_ne true hjk] at hun; exact hun
    · rw [Array.setIfInBounds_comm _ _ hji]
      exact h3.2.2

/-- number i is taken first -/
theorem Held.take {i : Nat} {oi : Oper} {v : Value} {fuel : Nat} {listed : Array Bool} {a : Act} {w : World} (hi : ops[i]? = some oi)
    (hs : Region.noSelect ops = true) (hf : Region.free md ops listed i = true) (hr : (Region.ready md ops listed).contains i = true) (hT : lateB md ops T i = true)
    (hQ : ∀ c a w, Q (.panic c) (a.put oi.dst v) w → Q (.panic c) a w) (hy : YieldsIf P ops S oi v a) (hS : S w)
    (h : Held P md ops Q S T fuel (listed.setIfInBounds i true) (a.put oi.dst v) w) : Held P md ops Q S T (fuel + 1) listed a w :=
  Held.first hi (Region.noSelect_spec hs) hQ hT fuel listed a w (Region.free_spec hi hf) (by simpa using hr) hy hS h

/-- number i alone may come up -/
theorem Held.next {i : Nat} {o : Oper} {fuel : Nat} {listed : Array Bool} {a : Act} {w : World} (hr : Region.ready md ops listed = [i]) (ho : ops[i]? = some o)
    (h : ∀ K : Act → World → Prop, Shut (∀ a w, (i < T → S w) → Held P md ops Q S T fuel (listed.setIfInBounds i true) a w → K a w) → if Region.wanted o (yielded ops a.tmps) = true then Oper.wp P o a w K Q else K (a.put o.dst undef) w) :
    Held P md ops Q S T (fuel + 1) listed a w := by
  refine ⟨fun h0 => absurd (hr.symm.trans h0) (by simp), fun j hj => ?_⟩
  rw [hr] at hj
  obtain rfl : j = i := by simpa using hj
  exact wpOp_step ho (fun K hK => h K (fun a w hS hW => hK a w ⟨hS, hW⟩))

/-- all have come up -/
theorem Held.done {listed : Array Bool} {a : Act} {w : World} (hr : Region.ready md ops listed = []) (h : Q .normal a w) : ∀ fuel, Held P md ops Q S T fuel listed a w
  | 0 => ⟨hr, h⟩
  | _ + 1 => ⟨fun _ => h, by rw [hr]; simp⟩

/-- the beginning, behind the draw; a panic is not to be -/
theorem Held.begin {id : Nat} {a : Act} {w : World} (S : World → Prop) (T : Nat) (hm : P.follows .mixedOrders = true)
    (h : Held P .any ops (NoPanic Q) S T ops.size (Array.replicate ops.size false) a w.drew) : (Code.region id ops true).wp P Q a w :=
  wp_region_noPanic (wp_region_any hm (Held.any _ _ _ _ h))
end

end Go.Proofs.YtkjlgamggkencaaDoor

namespace Go.Proofs.YtkjlgamggkencaaDoor
open Go.RowKit

section
variable {P : Program} {ops : Array Oper} {Q : Exit → Act → World → Prop} {md : Region.Mode} {S : World → Prop} {T : Nat}

/-- what a listed operation waited for is listed -/
def closedB (md : Region.Mode) (ops : Array Oper) (listed : Array Bool) : Bool :=
  (List.range ops.size).all fun t => !listed.getD t true || (match ops[t]? with | some o => o.after.all fun e => !Region.binds md e || listed.getD e.on false | none => true)
def ancB (md : Region.Mode) (ops : Array Oper) : Nat → Nat → Nat → Bool
  | 0, _, _ => false
  | f + 1, t, i => match ops[t]? with | some o => o.after.any fun e => Region.binds md e && (e.on == i || ancB md ops f e.on i) | none => false
/-- every operation from T on waits for i -/
def lateB2 (md : Region.Mode) (ops : Array Oper) (T i : Nat) : Bool := (List.range ops.size).all fun t => decide (t < T) || ancB md ops ops.size t i

theorem listed_up {listed : Array Bool} {i : Nat} (h : listed.getD i false = true) : listed.getD i true = true := by
  rcases Nat.lt_or_ge i listed.size with h' | h'
  · simp [h'] at h ⊢; exact h
  · simp [h'] at h
theorem closed_after {listed : Array Bool} (hc : closedB md ops listed = true) {t : Nat} {o : Oper} (ho : ops[t]? = some o) (ht : listed.getD t true = true) : ∀ e ∈ o.after, Region.binds md e = true → listed.getD e.on false = true := by
  have hsz : t < ops.size := by
    rcases Nat.lt_or_ge t ops.size with h | h
    · exact h
    · rw [Array.getElem?_eq_none h] at ho; cases ho
  have h1 := List.all_eq_true.1 hc t (List.mem_range.2 hsz)
  rw [ht, ho] at h1
  simp only [Bool.not_true, Bool.false_or] at h1
  intro e he hb
  have h2 := Array.all_eq_true'.1 h1 e he
  rw [hb] at h2
  simpa using h2
theorem anc_listed {listed : Array Bool} (hc : closedB md ops listed = true) {i : Nat} : ∀ (f t : Nat) (o : Oper), ops[t]? = some o → (∀ e ∈ o.after, Region.binds md e = true → listed.getD e.on false = true) → ancB md ops f t i = true → listed.getD i true = true := by
  intro f
  induction f with
  | zero => intro t o _ _ h; cases h
  | succ f ih =>
    intro t o ho hall h
    unfold ancB at h
    rw [ho] at h
    obtain ⟨e, he, hb⟩ := Array.any_eq_true'.1 h
    simp only [Bool.and_eq_true, Bool.or_eq_true, beq_iff_eq] at hb
    have hl := hall e he hb.1
    rcases hb.2 with h1 | h1
    · rw [← h1]; exact listed_up hl
    · cases ho2 : ops[e.on]? with
      | none =>
        cases f with
        | zero => cases h1
        | succ f => unfold ancB at h1; rw [ho2] at h1; cases h1
      | some o2 => exact ih e.on o2 ho2 (closed_after hc ho2 (listed_up hl)) h1
theorem late_of2 {i : Nat} (h : lateB2 md ops T i = true) {listed : Array Bool} (hc : closedB md ops listed = true) (hi : i ∈ Region.ready md ops listed) {j : Nat} (hj : j ∈ Region.ready md ops listed) : j < T := by
  obtain ⟨hiu, _⟩ := mem_ready.1 hi
  obtain ⟨hju, oj, hoj, hall⟩ := mem_ready.1 hj
  have hsz : j < ops.size := by
    rcases Nat.lt_or_ge j ops.size with h | h
    · exact h
    · rw [Array.getElem?_eq_none h] at hoj; cases hoj
  have h1 := List.all_eq_true.1 h j (List.mem_range.2 hsz)
  rcases Bool.or_eq_true .. |>.mp h1 with h2 | h2
  · exact of_decide_eq_true h2
  · have := anc_listed hc _ j oj hoj hall h2
    rw [hiu] at this; cases this
theorem closed_set {listed : Array Bool} (hc : closedB md ops listed = true) {j : Nat} (hj : j ∈ Region.ready md ops listed) : closedB md ops (listed.setIfInBounds j true) = true := by
  obtain ⟨hju, oj, hoj, hall⟩ := mem_ready.1 hj
  have up : ∀ k, listed.getD k false = true → (listed.setIfInBounds j true).getD k false = true := by
    intro k hk
    by_cases e : j = k
    · subst e
      rcases Nat.lt_or_ge j listed.size with h | h
      · simp [h]
      · simp [h] at hk
    · rw [getD_set_ne false e]; exact hk
  unfold closedB
  rw [List.all_eq_true]
  intro t ht
  have h1 := List.all_eq_true.1 hc t ht
  by_cases e : j = t
  · subst e
    rw [hoj]
    rw [Bool.or_eq_true]; right
    rw [Array.all_eq_true']
    intro e' he
    cases hb : Region.binds md e' with
    | false => rfl
    | true => simpa using up _ (hall e' he hb)
  · rw [getD_set_ne true e]
    rcases Bool.or_eq_true .. |>.mp h1 with h2 | h2
    · rw [h2]; rfl
    · rw [Bool.or_eq_true]; right
      cases ho : ops[t]? with
      | none => rfl
      | some o =>
        rw [ho] at h2
        simp only at h2 ⊢
        rw [Array.all_eq_true'] at h2 ⊢
        intro e' he
        have h3 := h2 e' he
        rcases Bool.or_eq_true .. |>.mp h3 with h4 | h4
        · rw [h4]; rfl
        · rw [up _ h4, Bool.or_true]

theorem Held.first2 {i : Nat} {oi : Oper} {v : Value} (hi : ops[i]? = some oi) (hsel : ∀ (j : Nat) (o : Oper) cs b, ops[j]? = some o → o.op ≠ .select cs b)
    (hQ : ∀ c a w, Q (.panic c) (a.put oi.dst v) w → Q (.panic c) a w) (hT : lateB2 md ops T i = true) :
    ∀ (fuel : Nat) (listed : Array Bool) (a : Act) (w : World), closedB md ops listed = true →
      (∀ j oj, ops[j]? = some oj → j ≠ i → listed.getD j true = false → (∀ e ∈ oj.after, Region.binds md e = true → e.on ≠ i) → oi.apart ops oj = true) →
      i ∈ Region.ready md ops listed → YieldsIf P ops S oi v a → S w →
      Held P md ops Q S T fuel (listed.setIfInBounds i true) (a.put oi.dst v) w → Held P md ops Q S T (fuel + 1) listed a w := by
  intro fuel
  induction fuel with
  | zero =>
    intro listed a w _ _ hr hy hS H
    refine ⟨fun h => (by rw [h] at hr; cases hr), fun j hj => ?_⟩
    by_cases hji : j = i
    · subst hji; exact hy.wpOp hi hS ⟨fun _ => hS, H⟩
    · have := ready_mono hj hji
      rw [H.1] at this
      cases this
  | succ fuel ih =>
    intro listed a w hc hfree hr hy hS H
    refine ⟨fun h => (by rw [h] at hr; cases hr), fun j hj => ?_⟩
    by_cases hji : j = i
    · subst hji; exact hy.wpOp hi hS ⟨fun _ => hS, H⟩
    have h1 := H.2 j (ready_mono hj hji)
    have hjT := late_of2 hT hc hr hj
    have hc2 := closed_set hc hj
    obtain ⟨hjun, oj, hoj, hall⟩ := mem_ready.1 hj
    have hnot : ∀ e ∈ oj.after, Region.binds md e = true → e.on ≠ i := fun e he hb heq => by
      have h1 := hall e he hb
      have h0 := (mem_ready.1 hr).1
      rw [heq] at h1
      have h1 := listed_up h1
      rw [h0] at h1; cases h1
    have h2 := wpOp_putIf hoj (hfree j oj hoj hji hjun hnot) (fun cs b => hsel i oi cs b hi) (fun cs b => hsel j oj cs b hoj) hQ hy h1
    refine wpOp_mono (fun a' w' h3 => ⟨fun _ => h3.2.1 hjT, ih (listed.setIfInBounds j true) a' w' hc2 (fun k ok hk hki hun hno => hfree k ok hk hki ?_ hno) (ready_mono hr (Ne.symm hji)) h3.1 (h3.2.1 hjT) ?_⟩) h2
    · by_cases hjk : j = k
      · subst hjk; exact hjun
      · rw [getD_set_ne true hjk] at hun; exact hun
    · rw [Array.setIfInBounds_comm _ _ hji]
      exact h3.2.2

/-- number i is taken first -/
theorem Held.take2 {i : Nat} {oi : Oper} {v : Value} {fuel : Nat} {listed : Array Bool} {a : Act} {w : World} (hi : ops[i]? = some oi)
    (hs : Region.noSelect ops = true) (hf : Region.free md ops listed i = true) (hr : (Region.ready md ops listed).contains i = true) (hT : (lateB2 md ops T i && closedB md ops listed) = true)
    (hQ : ∀ c a w, Q (.panic c) (a.put oi.dst v) w → Q (.panic c) a w) (hy : YieldsIf P ops S oi v a) (hS : S w)
    (h : Held P md ops Q S T fuel (listed.setIfInBounds i true) (a.put oi.dst v) w) : Held P md ops Q S T (fuel + 1) listed a w :=
  Held.first2 hi (Region.noSelect_spec hs) hQ (Bool.and_eq_true .. |>.mp hT).1 fuel listed a w (Bool.and_eq_true .. |>.mp hT).2 (Region.free_spec hi hf) (by simpa using hr) hy hS h
/-- one of two may come up -/
theorem Held.either {i j : Nat} {oi oj : Oper} {fuel : Nat} {listed : Array Bool} {a : Act} {w : World} (hr : Region.ready md ops listed = [i, j]) (hoi : ops[i]? = some oi) (hoj : ops[j]? = some oj)
    (h1 : ∀ K : Act → World → Prop, Shut (∀ a w, (i < T → S w) → Held P md ops Q S T fuel (listed.setIfInBounds i true) a w → K a w) → if Region.wanted oi (yielded ops a.tmps) = true then Oper.wp P oi a w K Q else K (a.put oi.dst undef) w)
    (h2 : ∀ K : Act → World → Prop, Shut (∀ a w, (j < T → S w) → Held P md ops Q S T fuel (listed.setIfInBounds j true) a w → K a w) → if Region.wanted oj (yielded ops a.tmps) = true then Oper.wp P oj a w K Q else K (a.put oj.dst undef) w) :
    Held P md ops Q S T (fuel + 1) listed a w := by
  refine ⟨fun h0 => absurd (hr.symm.trans h0) (by simp), fun k hk => ?_⟩
  rw [hr] at hk
  simp only [List.mem_cons, List.not_mem_nil, or_false] at hk
  rcases hk with rfl | rfl
  · exact wpOp_step hoi (fun K hK => h1 K (fun a w hS hW => hK a w ⟨hS, hW⟩))
  · exact wpOp_step hoj (fun K hK => h2 K (fun a w hS hW => hK a w ⟨hS, hW⟩))
end

end Go.Proofs.YtkjlgamggkencaaDoor

