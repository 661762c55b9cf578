/-
  Circuits as clauses, over lists alone: what is said, what it is worth.
-/
import Derived.Test.YtkjlgamggkencaaDoorGateP
namespace Go.Proofs.YtkjlgamggkencaaDoor

/-- a circuit's literal as one of clauses -/
def litC (l : Int) : Int := if l < 2 then 0 else if l % 2 = 1 then -(l / 2) else l / 2
/-- a clause of a circuit's literals; none: one of them is always true -/
def clC (l : List Int) : Option (List Int) := if 1 ∈ l then none else some ((l.filter fun x => decide (1 < x)).map litC)
/-- the three of a gate whose literal is n -/
def gate3 (n : Int) (p : Int × Int) : List (List Int) := [[notL n, p.1], [notL n, p.2], [n, notL p.1, notL p.2]]
def gateC (n : Int) (p : Int × Int) : List (List Int) := (gate3 n p).filterMap clC
def encFew (n : Nat) (L : List (Int × Int)) (k : Nat) : List (List Int) := (List.range k).flatMap fun (i : Nat) => gateC (2 * ((n : Int) + i + 1)) (L.getD i (0, 0))
def forceC (f : List Int) : List (List Int) := f.filterMap fun x => clC [x]
def encC (n : Nat) (L : List (Int × Int)) (f : List Int) : List (List Int) := encFew n L L.length ++ forceC f

/-- is a literal true of a model? -/
def satL (m : List Bool) (l : Int) : Bool := if 0 < l then m.getD l.toNat false else if l < 0 then decide (-l < (m.length : Int)) && !m.getD (-l).toNat false else false
def ofC (cs : List (List Int)) (m : List Bool) : Bool := cs.all fun c => c.any (satL m)

theorem filterMap_take {ls : List (List Int)} {k : Nat} (hk : k < ls.length) : (ls.take (k + 1)).filterMap clC = (ls.take k).filterMap clC ++ (clC (ls.getD k [])).toList := by
  rw [List.take_succ_eq_append_getElem hk, List.filterMap_append, show ls.getD k [] = ls[k] from by simp [List.getD, hk]]
  cases h : clC ls[k] with
  | none => rw [List.filterMap_cons_none h]; rfl
  | some c => rw [List.filterMap_cons_some h]; rfl
theorem encFew_succ (n : Nat) (L : List (Int × Int)) (k : Nat) : encFew n L (k + 1) = encFew n L k ++ gateC (2 * ((n : Int) + k + 1)) (L.getD k (0, 0)) := by
  simp [encFew, List.range_succ]
theorem ofC_append (a b : List (List Int)) (m : List Bool) : ofC (a ++ b) m = (ofC a m && ofC b m) := by simp [ofC]

theorem satL_litC {m : List Bool} {x : Int} (h : 2 ≤ x) (hm : (x / 2).toNat < m.length) : satL m (litC x) = worth m x := by
  by_cases h1 : x % 2 = 1
  · have e : litC x = -(x / 2) := by unfold litC; rw [if_neg (by omega), if_pos h1]
    unfold satL worth
    rw [e, if_neg (by omega), if_pos (by omega), decide_eq_true h1, show - -(x / 2) = x / 2 from by omega, decide_eq_true (show x / 2 < (m.length : Int) by omega)]
    cases m.getD (x / 2).toNat false <;> rfl
  · have e : litC x = x / 2 := by unfold litC; rw [if_neg (by omega), if_neg h1]
    unfold satL worth
    rw [e, if_pos (by omega), decide_eq_false h1]
    cases m.getD (x / 2).toNat false <;> rfl

/-- a model's node 0 is false -/
def Zero (m : List Bool) : Prop := m.getD 0 false = false
theorem worth_0 {m : List Bool} (h : Zero m) : worth m 0 = false := by
  have : m.getD 0 false = false := h
  show (m.getD 0 false != decide ((0 : Int) % 2 = 1)) = false
  rw [this]; rfl
theorem worth_1 {m : List Bool} (h : Zero m) : worth m 1 = true := by
  have : m.getD 0 false = false := h
  show (m.getD 0 false != decide ((1 : Int) % 2 = 1)) = true
  rw [this]; rfl

/-- what a clause says -/
theorem clC_sat {m : List Bool} (hz : Zero m) {l : List Int} (hl : ∀ x ∈ l, 0 ≤ x ∧ (x / 2).toNat < m.length) : ofC (clC l).toList m = l.any (worth m) := by
  unfold clC
  by_cases h : 1 ∈ l
  · rw [if_pos h]
    have : l.any (worth m) = true := List.any_eq_true.2 ⟨1, h, worth_1 hz⟩
    rw [this]; rfl
  · rw [if_neg h]
    show (([((l.filter fun x => decide (1 < x)).map litC)] : List (List Int)).all fun c => c.any (satL m)) = _
    rw [List.all_cons, List.all_nil, Bool.and_true]
    induction l with
    | nil => rfl
    | cons x r ih =>
      have hx := hl x (by simp)
      have ih' := ih (fun y hy => hl y (by simp [hy])) (fun hr => h (by simp [hr]))
      rw [List.any_cons, ← ih']
      by_cases h1 : 1 < x
      · rw [List.filter_cons_of_pos (by simpa using h1), List.map_cons, List.any_cons, satL_litC (by omega) hx.2]
      · rw [List.filter_cons_of_neg (by simpa using h1)]
        have h0 : x = 0 := by
          have : x ≠ 1 := fun e => h (by simp [e])
          omega
        rw [h0, worth_0 hz, Bool.false_or]

theorem filterMap_sat {m : List Bool} (hz : Zero m) {ls : List (List Int)} (hl : ∀ l ∈ ls, ∀ x ∈ l, 0 ≤ x ∧ (x / 2).toNat < m.length) : ofC (ls.filterMap clC) m = ls.all fun l => l.any (worth m) := by
  induction ls with
  | nil => rfl
  | cons l r ih =>
    rw [List.all_cons, ← clC_sat hz (hl l (by simp)), ← ih (fun k hk => hl k (by simp [hk]))]
    cases h : clC l with
    | none => rw [List.filterMap_cons_none h]; rfl
    | some c => rw [List.filterMap_cons_some h]; simp [ofC]

/-- a gate's clauses say that it is worth what its two are -/
theorem gateC_sat {m : List Bool} (hz : Zero m) {n : Int} {p : Int × Int} (h0 : 0 ≤ n ∧ (n / 2).toNat < m.length) (h1 : 0 ≤ p.1 ∧ (p.1 / 2).toNat < m.length) (h2 : 0 ≤ p.2 ∧ (p.2 / 2).toNat < m.length) :
    ofC (gateC n p) m = (worth m n == (worth m p.1 && worth m p.2)) := by
  have hn : ∀ x : Int, 0 ≤ x ∧ (x / 2).toNat < m.length → 0 ≤ notL x ∧ (notL x / 2).toNat < m.length := by
    intro x hx; unfold notL; split <;> omega
  unfold gateC
  rw [filterMap_sat hz]
  · unfold gate3
    simp only [List.all_cons, List.all_nil, List.any_cons, List.any_nil, worth_not, Bool.or_false, Bool.and_true]
    cases worth m n <;> cases worth m p.1 <;> cases worth m p.2 <;> rfl
  · intro l hl x hx
    have a0 := hn _ h0
    have a1 := hn _ h1
    have a2 := hn _ h2
    simp only [gate3, List.mem_cons, List.not_mem_nil, or_false] at hl
    rcases hl with rfl | rfl | rfl <;> (simp only [List.mem_cons, List.not_mem_nil, or_false] at hx; rcases hx with rfl | rfl | rfl) <;> assumption

/-- a model of the gates up to k -/
theorem encFew_sat {n : Nat} {L : List (Int × Int)} (hr : Right n L) {m : List Bool} (hz : Zero m) (hm : m.length = n + 1 + L.length) : ∀ k, k ≤ L.length →
    (ofC (encFew n L k) m = true ↔ ∀ i, i < k → worth m (2 * ((n : Int) + i + 1)) = (worth m (L.getD i (0, 0)).1 && worth m (L.getD i (0, 0)).2)) := by
  intro k
  induction k with
  | zero => intro _; exact ⟨fun _ i hi => absurd hi (Nat.not_lt_zero _), fun _ => by simp [encFew, ofC]⟩
  | succ k ih =>
    intro hk
    have hri := hr k (L.getD k (0, 0)) (by simp [List.getD, show k < L.length by omega])
    rw [encFew_succ, ofC_append, Bool.and_eq_true, ih (by omega), gateC_sat hz (by omega) (by omega) (by omega), beq_iff_eq]
    constructor
    · rintro ⟨h1, h2⟩ i hi
      rcases Nat.lt_or_ge i k with h | h
      · exact h1 i h
      · obtain rfl : i = k := by omega
        exact h2
    · intro h
      exact ⟨fun i hi => h i (by omega), h k (by omega)⟩

theorem forceC_sat {m : List Bool} (hz : Zero m) {f : List Int} (hf : ∀ x ∈ f, 0 ≤ x ∧ (x / 2).toNat < m.length) : ofC (forceC f) m = f.all (worth m) := by
  have : forceC f = (f.map fun x => [x]).filterMap clC := by unfold forceC; rw [List.filterMap_map]; rfl
  rw [this, filterMap_sat hz]
  · rw [List.all_map]
    congr 1
    funext x
    simp
  · intro l hl x hx
    obtain ⟨y, hy, rfl⟩ := List.mem_map.1 hl
    simp at hx
    subst hx
    exact hf x hy

theorem nodes_zero (n : Nat) (L : List (Int × Int)) (inp : List Bool) : Zero (nodes n L inp) := by
  obtain ⟨u, hu⟩ := more_prefix (valsN n inp) L
  show (nodes n L inp).getD 0 false = false
  unfold nodes
  rw [hu]
  rfl

theorem worth_even (m : List Bool) (k : Nat) : worth m (2 * (k : Int)) = m.getD k false := by
  unfold worth
  rw [show (2 * (k : Int) / 2).toNat = k from by omega, decide_eq_false (by omega)]
  cases m.getD k false <;> rfl

/-- what a circuit is worth is a model -/
theorem encC_nodes {n : Nat} {L : List (Int × Int)} (hr : Right n L) (inp : List Bool) {f : List Int} (hf : ∀ x ∈ f, isL x (n + L.length) = true) : ofC (encC n L f) (nodes n L inp) = f.all (worth (nodes n L inp)) := by
  have hlen := nodes_length n L inp
  have hz := nodes_zero n L inp
  unfold encC
  rw [ofC_append, forceC_sat hz (fun x hx => by have := isL_iff.1 (hf x hx); omega)]
  have : ofC (encFew n L L.length) (nodes n L inp) = true := by
    rw [encFew_sat hr hz hlen L.length (Nat.le_refl _)]
    intro i hi
    have hn := nodes_at hr inp (i := i) (p := L.getD i (0, 0)) (by simp [List.getD, hi])
    have e : (2 * ((n : Int) + i + 1)) = 2 * ((n + 1 + i : Nat) : Int) := by omega
    rw [e, worth_even]
    exact hn
  rw [this, Bool.true_and]

/-- with one gate's value turned it is none -/
theorem encC_flip {n : Nat} {L : List (Int × Int)} (hr : Right n L) (inp : List Bool) {k : Nat} (hk : k < L.length) {f : List Int} :
    ofC (encC n L f) ((nodes n L inp).set (n + 1 + k) (!(nodes n L inp).getD (n + 1 + k) false)) = false := by
  have hlen := nodes_length n L inp
  have hz := nodes_zero n L inp
  have hn := nodes_at hr inp (i := k) (p := L.getD k (0, 0)) (by simp [List.getD, hk])
  have hri := hr k (L.getD k (0, 0)) (by simp [List.getD, hk])
  generalize nodes n L inp = v at *
  have hset : ∀ x : Int, 0 ≤ x → (x / 2).toNat ≠ n + 1 + k → worth (v.set (n + 1 + k) (!v.getD (n + 1 + k) false)) x = worth v x := by
    intro x _ hx
    unfold worth
    congr 1
    simp [List.getD, Ne.symm hx]
  have hat : worth (v.set (n + 1 + k) (!v.getD (n + 1 + k) false)) (2 * ((n : Int) + k + 1)) = !v.getD (n + 1 + k) false := by
    rw [show (2 * ((n : Int) + k + 1)) = 2 * ((n + 1 + k : Nat) : Int) from by omega, worth_even]
    simp [List.getD, show n + 1 + k < v.length by omega]
  have hz' : Zero (v.set (n + 1 + k) (!v.getD (n + 1 + k) false)) := by
    have h0 : v.getD 0 false = false := hz
    show (v.set (n + 1 + k) (!v.getD (n + 1 + k) false)).getD 0 false = false
    simpa [List.getD, List.getElem?_set, show ¬ n + 1 + k = 0 by omega] using h0
  unfold encC
  rw [ofC_append, Bool.and_eq_false_iff]
  left
  rw [← Bool.not_eq_true, encFew_sat hr hz' (by simp [hlen]) L.length (Nat.le_refl _)]
  intro h
  have h1 := h k hk
  rw [hat, hset _ (by omega) (by omega), hset _ (by omega) (by omega)] at h1
  rw [show v.getD (n + 1 + k) false = (worth v (L.getD k (0, 0)).1 && worth v (L.getD k (0, 0)).2) from hn] at h1
  revert h1
  cases worth v (L.getD k (0, 0)).1 <;> cases worth v (L.getD k (0, 0)).2 <;> simp
end Go.Proofs.YtkjlgamggkencaaDoor
