/-
  How many clauses and literals a made circuit has.
-/
import Derived.Test.YtkjlgamggkencaaDoorTseitinForces
import Derived.Test.YtkjlgamggkencaaDoorClauseP
namespace Go.Proofs.YtkjlgamggkencaaDoor

theorem clC_big {l : List Int} (h : ∀ x ∈ l, 2 ≤ x) : clC l = some (l.map litC) := by
  unfold clC
  rw [if_neg (fun h1 => by have := h 1 h1; omega), List.filter_eq_self.2 (fun x hx => by have := h x hx; simp; omega)]
theorem notL_big {x : Int} (h : 2 ≤ x) : 2 ≤ notL x := by unfold notL; split <;> omega
theorem litC_not {x : Int} (h : 2 ≤ x) : litC (notL x) = -litC x := by
  rcases (show x % 2 = 0 ∨ x % 2 = 1 from by omega) with e | e
  · have h1 : notL x = x + 1 := by unfold notL; rw [if_pos e]
    rw [h1]; unfold litC; rw [if_neg (by omega), if_pos (by omega), if_neg (by omega), if_neg (by omega)]; omega
  · have h1 : notL x = x - 1 := by unfold notL; rw [if_neg (by omega)]
    rw [h1]; unfold litC; rw [if_neg (by omega), if_neg (by omega), if_neg (by omega), if_pos e]; omega
theorem gateC_big {n : Int} {p : Int × Int} (hn : 2 ≤ n) (h1 : 2 ≤ p.1) (h2 : 2 ≤ p.2) : gateC n p = [[notL n, p.1].map litC, [notL n, p.2].map litC, [n, notL p.1, notL p.2].map litC] := by
  have a1 := notL_big hn
  have a2 := notL_big h1
  have a3 := notL_big h2
  unfold gateC gate3
  rw [List.filterMap_cons_some (clC_big (by intro x hx; simp at hx; rcases hx with rfl | rfl <;> assumption)),
    List.filterMap_cons_some (clC_big (by intro x hx; simp at hx; rcases hx with rfl | rfl <;> assumption)),
    List.filterMap_cons_some (clC_big (by intro x hx; simp at hx; rcases hx with rfl | rfl | rfl <;> assumption))]
  rfl
theorem encFew_big {n : Nat} {L : List (Int × Int)} (hm : Made n L) : ∀ k, k ≤ L.length → (encFew n L k).length = 3 * k ∧ ∀ i, i < k → ((encFew n L k).getD (3 * i) []).length = 2 ∧ ((encFew n L k).getD (3 * i + 1) []).length = 2 ∧ ((encFew n L k).getD (3 * i + 2) []).length = 3 := by
  intro k
  induction k with
  | zero => intro _; exact ⟨by simp [encFew], fun i hi => by omega⟩
  | succ k ih =>
    intro hk
    obtain ⟨i1, i2⟩ := ih (by omega)
    have hp : L.getD k (0, 0) ∈ L := by simp [List.getD, show k < L.length by omega]
    have h2 := (hm.proper _ hp).1
    have h1 := hm.right k (L.getD k (0, 0)) (by simp [List.getD, show k < L.length by omega])
    rw [encFew_succ, gateC_big (by omega) (by omega) h2]
    refine ⟨by simp [i1]; omega, fun i hi => ?_⟩
    by_cases h : i < k
    · have := i2 i h
      simp only [List.getD] at this ⊢
      rw [List.getElem?_append_left (by omega), List.getElem?_append_left (by omega), List.getElem?_append_left (by omega)]
      exact this
    · have hik : i = k := by omega
      subst hik
      simp only [List.getD]
      rw [List.getElem?_append_right (by omega), List.getElem?_append_right (by omega), List.getElem?_append_right (by omega), i1]
      rw [show 3 * i - 3 * i = 0 from by omega, show 3 * i + 1 - 3 * i = 1 from by omega, show 3 * i + 2 - 3 * i = 2 from by omega]
      exact ⟨rfl, rfl, rfl⟩
theorem forceC_big {f : List Int} (hf : ∀ x ∈ f, 2 ≤ x) : forceC f = f.map fun x => [litC x] := by
  induction f with
  | nil => rfl
  | cons a r ih =>
    have h := ih (fun x hx => hf x (by simp [hx]))
    unfold forceC at h ⊢
    have h2 : clC [a] = some [litC a] := clC_big (l := [a]) (by intro x hx; simp at hx; subst hx; exact hf _ (by simp))
    rw [List.filterMap_cons, List.map_cons]
    simp only [h2]
    rw [h]

structure Sizes (n : Nat) (L : List (Int × Int)) (f : List Int) (cs : List (List Int)) : Prop where
  many : cs.length = 3 * L.length + f.length
  ok : ∀ c ∈ cs, ∀ x ∈ c, OkLit (n + L.length) x
  sum : (cs.map List.length).sum ≤ 3 * cs.length
  force : ∀ i, i < f.length → cs.getD (3 * L.length + i) [] = [litC (f.getD i 0)]
  gate : ∀ i, i < L.length → (cs.getD (3 * i) []).length = 2 ∧ (cs.getD (3 * i + 1) []).length = 2 ∧ (cs.getD (3 * i + 2) []).length = 3

theorem sum_le {l : List (List Int)} (h : ∀ c ∈ l, c.length ≤ 3) : (l.map List.length).sum ≤ 3 * l.length := by
  induction l with
  | nil => simp
  | cons a r ih =>
    have h1 := h a (by simp)
    have h2 := ih (fun c hc => h c (by simp [hc]))
    simp; omega
theorem encC_sizes {n : Nat} {L : List (Int × Int)} {f : List Int} (hm : Made n L) (hf : ∀ x ∈ f, 2 ≤ x ∧ isL x (n + L.length) = true) : Sizes n L f (encC n L f) := by
  have hin := encC_in hm.right (f := f) (fun x hx => (hf x hx).2)
  obtain ⟨h1, h2⟩ := encFew_big hm L.length (Nat.le_refl _)
  have h3 := forceC_big (f := f) (fun x hx => (hf x hx).1)
  refine ⟨?_, ?_, sum_le fun c hc => (hin c hc).1, ?_, ?_⟩
  · unfold encC; rw [List.length_append, h1, h3, List.length_map]
  · intro c hc x hx
    obtain ⟨a, b, d⟩ := (hin c hc).2 x hx
    exact ⟨a, by omega, by omega⟩
  · intro i hi
    unfold encC
    simp only [List.getD]
    rw [List.getElem?_append_right (by omega), h1, h3, show 3 * L.length + i - 3 * L.length = i from by omega, List.getElem?_map]
    simp [hi]
  · intro i hi
    have := h2 i hi
    unfold encC
    simp only [List.getD] at this ⊢
    rw [List.getElem?_append_left (by omega), List.getElem?_append_left (by omega), List.getElem?_append_left (by omega)]
    exact this
end Go.Proofs.YtkjlgamggkencaaDoor
