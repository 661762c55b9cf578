/-
  The plain law of LookDepths.
-/
import Derived.Test.YtkjlgamggkencaaDoorLookP
import Derived.Test.YtkjlgamggkencaaDoorMakeP
namespace Go.Proofs.YtkjlgamggkencaaDoor

/-- the last literal of a row of so many gates -/
def rowLast (k : Nat) : Int := if k = 0 then 2 else 2 * ((k : Int) + 2)
def rowGate (i : Nat) : Int × Int := (max (rowLast i) 4, min (rowLast i) 4)
def rowL (k : Nat) : List (Int × Int) := (List.range k).map rowGate
theorem rowL_succ (k : Nat) : rowL (k + 1) = rowL k ++ [rowGate k] := by simp [rowL, List.range_succ]
theorem rowL_length (k : Nat) : (rowL k).length = k := by simp [rowL]
theorem rowLast_succ (k : Nat) : rowLast (k + 1) = 2 * (3 + (k : Int)) := by unfold rowLast; rw [if_neg (by omega)]; omega
theorem rowLast_range (k : Nat) : 2 ≤ rowLast k ∧ rowLast k ≤ 2 * (k : Int) + 4 := by unfold rowLast; split <;> omega
theorem rowL_right (k : Nat) : Right 2 (rowL k) := by
  intro i p hp
  unfold rowL at hp
  rw [List.getElem?_map] at hp
  by_cases hi : i < k
  · rw [List.getElem?_range hi] at hp
    simp at hp
    subst hp
    have := rowLast_range i
    unfold rowGate
    simp only
    omega
  · rw [List.getElem?_eq_none (by simp; omega)] at hp
    cases hp
theorem row_facts : ∀ n, n < 30 → depthL 2 (rowL n) [rowLast n] = n ∧ (coneL 2 (rowL n) (rowLast n)).length = n := by decide +kernel

theorem depths_get (n : Nat) (L : List (Int × Int)) (k : Nat) : 0 ≤ (depths n L).getD k 0 := by
  rw [List.getD]
  cases hk : (depths n L)[k]? with
  | none => exact Int.le_refl _
  | some y => exact depths_nonneg (List.replicate (n + 1) 0) (by intro x hx; have := List.eq_of_mem_replicate hx; omega) L y (List.mem_of_getElem? hk)
/-- a gate is one deeper than the deeper of its two -/
theorem depth_gate {n : Nat} {L : List (Int × Int)} (hr : Right n L) {K : Nat} (hK : K < L.length) :
    depthL n L [2 * ((n : Int) + 1 + K)] = depthL n L [(L.getD K (0, 0)).1, (L.getD K (0, 0)).2] + 1 := by
  unfold depthL mostL
  simp only [List.foldl_cons, List.foldl_nil]
  rw [show (2 * ((n : Int) + 1 + K) / 2).toNat = n + 1 + K from by omega, depths_at hr hK]
  have h1 := depths_get n L ((L.getD K (0, 0)).1 / 2).toNat
  have h2 := depths_get n L ((L.getD K (0, 0)).2 / 2).toNat
  omega
theorem cone_under {n : Nat} {L : List (Int × Int)} (hr : Right n L) {K : Nat} (hK : K < L.length) : (∀ x ∈ coneL n L (L.getD K (0, 0)).1, x ∈ coneL n L (2 * ((n : Int) + 1 + K) + 1)) ∧ ((n : Int) + 1 + K) ∈ coneL n L (2 * ((n : Int) + 1 + K) + 1) := by
  have hself : Hangs n L (2 * ((n : Int) + 1 + K) + 1) (n + 1 + K) := by
    have := hangs_self (n := n) (L := L) (l := 2 * ((n : Int) + 1 + K) + 1) (by rw [isL_iff]; omega)
    rwa [show ((2 * ((n : Int) + 1 + K) + 1) / 2).toNat = n + 1 + K from by omega] at this
  constructor
  · intro x hx
    obtain ⟨i, hi, rfl, h⟩ := cone_of hx
    exact (mem_cone hi).2 (hangs_under hr (hangs_gate hr hK hself).1 h)
  · have := (mem_cone hK).2 hself
    rwa [show ((n + 1 + K : Nat) : Int) = (n : Int) + 1 + K from by omega] at this
end Go.Proofs.YtkjlgamggkencaaDoor
