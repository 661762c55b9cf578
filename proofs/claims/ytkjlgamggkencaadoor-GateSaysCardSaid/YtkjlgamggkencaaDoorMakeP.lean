/-
  The circuit that skolemmake makes of few numbers, over lists alone.
-/
import Derived.Test.YtkjlgamggkencaaDoorEval
namespace Go.Proofs.YtkjlgamggkencaaDoor

/-- gate k of the made circuit -/
def mkGate (n : Nat) (z : List Int) (k : Nat) : Int × Int :=
  (max (z.getD (2 * k) 0 % (2 * ((n : Int) + k + 1))) (z.getD (2 * k + 1) 0 % (2 * ((n : Int) + k + 1))), min (z.getD (2 * k) 0 % (2 * ((n : Int) + k + 1))) (z.getD (2 * k + 1) 0 % (2 * ((n : Int) + k + 1))))
def mkAnds (n : Nat) (z : List Int) : List (Int × Int) := (List.range (z.length / 2)).map (mkGate n z)
/-- so many of them -/
def mkFew (n : Nat) (z : List Int) (k : Nat) : List (Int × Int) := (List.range k).map (mkGate n z)
def mkOuts (n : Nat) (z outs : List Int) : List Int := outs.map (· % (2 * ((n : Int) + (z.length / 2 : Nat) + 1)))

theorem mkAnds_length (n : Nat) (z : List Int) : (mkAnds n z).length = z.length / 2 := by simp [mkAnds]
theorem mkFew_length (n : Nat) (z : List Int) (k : Nat) : (mkFew n z k).length = k := by simp [mkFew]
theorem mkFew_succ (n : Nat) (z : List Int) (k : Nat) : mkFew n z (k + 1) = mkFew n z k ++ [mkGate n z k] := by simp [mkFew, List.range_succ]
theorem mkFew_all (n : Nat) (z : List Int) : mkFew n z (z.length / 2) = mkAnds n z := rfl
theorem mkGate_range (n : Nat) (z : List Int) (k : Nat) : 0 ≤ (mkGate n z k).2 ∧ (mkGate n z k).2 ≤ (mkGate n z k).1 ∧ (mkGate n z k).1 ≤ 2 * ((n : Int) + k) + 1 := by
  unfold mkGate
  have hN : 0 < 2 * ((n : Int) + k + 1) := by omega
  have a1 := Int.emod_nonneg (z.getD (2 * k) 0) (Int.ne_of_gt hN)
  have a2 := Int.emod_lt_of_pos (z.getD (2 * k) 0) hN
  have b1 := Int.emod_nonneg (z.getD (2 * k + 1) 0) (Int.ne_of_gt hN)
  have b2 := Int.emod_lt_of_pos (z.getD (2 * k + 1) 0) hN
  generalize z.getD (2 * k) 0 % (2 * ((n : Int) + k + 1)) = x at *
  generalize z.getD (2 * k + 1) 0 % (2 * ((n : Int) + k + 1)) = y at *
  simp only
  omega
theorem mkAnds_right (n : Nat) (z : List Int) : Right n (mkAnds n z) := by
  intro i p hp
  unfold mkAnds at hp
  rw [List.getElem?_map] at hp
  by_cases hi : i < z.length / 2
  · rw [List.getElem?_range hi] at hp
    simp at hp
    subst hp
    exact mkGate_range n z i
  · rw [List.getElem?_eq_none (by simp; omega)] at hp
    cases hp
theorem mkFew_right (n : Nat) (z : List Int) (k : Nat) : Right n (mkFew n z k) := by
  intro i p hp
  unfold mkFew at hp
  rw [List.getElem?_map] at hp
  by_cases hi : i < k
  · rw [List.getElem?_range hi] at hp
    simp at hp
    subst hp
    exact mkGate_range n z i
  · rw [List.getElem?_eq_none (by simp; omega)] at hp
    cases hp
theorem mkOuts_isL (n : Nat) (z outs : List Int) : ∀ l ∈ mkOuts n z outs, isL l (n + z.length / 2) = true := by
  intro l hl
  obtain ⟨x, _, rfl⟩ := List.mem_map.1 hl
  have := isL_emod x (n + z.length / 2)
  rwa [show 2 * (((n + z.length / 2 : Nat) : Int)) + 2 = 2 * ((n : Int) + (z.length / 2 : Nat) + 1) from by omega] at this

/-- a number's bits -/
def vbit (n : Int) (i : Nat) : Bool := Go.bits .and .i64 (n / 2 ^ (i % 60)) 1 == 1
def mkVals (n : Int) (many : Nat) : List Bool := (List.range many).map (vbit n)
theorem mkVals_length (n : Int) (many : Nat) : (mkVals n many).length = many := by simp [mkVals]

/-- what the outputs are worth -/
def evalOuts (v : List Bool) (outs : List Int) : List Bool := outs.map (worth v)

end Go.Proofs.YtkjlgamggkencaaDoor
