/-
  GateLaws, and the graph that 'pair' makes, over lists alone.
-/
import Derived.Test.YtkjlgamggkencaaDoorGateP
import Derived.Test.YtkjlgamggkencaaDoorMakeP
namespace Go.Proofs.YtkjlgamggkencaaDoor

/-- the graph of so many inputs, told of the numbers two by two: k gates -/
def pairG (n : Nat) (z : List Int) : Nat → Gr
  | 0 => ⟨n, [], 0⟩
  | k + 1 => ((pairG n z k).and (z.getD (2 * k) 0 % (2 * ((pairG n z k).len : Int) + 2)) (z.getD (2 * k + 1) 0 % (2 * ((pairG n z k).len : Int) + 2))).2
theorem pairG_ok (n : Nat) (z : List Int) : ∀ k, n + k ≤ 8000 → (pairG n z k).n = n ∧ (pairG n z k).bad = 0 ∧ Made n (pairG n z k).ands ∧ n ≤ (pairG n z k).len ∧ (pairG n z k).len ≤ n + k
  | 0, _ => ⟨rfl, rfl, Made.nil n, Nat.le_refl _, Nat.le_refl _⟩
  | k + 1, h => by
    obtain ⟨q1, q2, q3, q4, q5⟩ := pairG_ok n z k (by omega)
    have lx := isL_emod (z.getD (2 * k) 0) (pairG n z k).len
    have ly := isL_emod (z.getD (2 * k + 1) 0) (pairG n z k).len
    have hm : Made (pairG n z k).n (pairG n z k).ands := by rw [q1]; exact q3
    have u := and_up hm lx ly (by omega)
    have k1 := u.low
    have k2 := u.high
    have e1 : (pairG n z (k + 1)).n = n := u.num.trans q1
    have m := u.made
    refine ⟨e1, u.bad.trans q2, ?_, Nat.le_trans q4 k1, ?_⟩
    · have : Made (pairG n z (k + 1)).n (pairG n z (k + 1)).ands := m
      rwa [e1] at this
    · show (pairG n z (k + 1)).len ≤ _
      have : (pairG n z (k + 1)).len ≤ (pairG n z k).len + 1 := k2
      omega

section
variable {g : Gr} {a b : Int}
theorem xor_self (ha : isL a g.len = true) : xorG g a a = (0, g) := by
  have hn := notL_range ha
  have e : g.and (notL a) (notL (notL a)) = (0, g) := and_not g _ hn
  unfold xorG
  simp only [and_self g a ha, and_self g _ hn, e]
theorem xor_opp (ha : isL a g.len = true) : xorG g a (notL a) = (1, g) := by
  have hn := notL_range ha
  have e : g.and (notL a) (notL (notL a)) = (0, g) := and_not g _ hn
  have h1 : isL 1 g.len = true := by rw [isL_iff]; omega
  unfold xorG
  simp only [and_not g a ha, e]
  exact and_self g 1 h1
theorem mux_one (ha : isL a g.len = true) (hb : isL b g.len = true) : muxG g 1 a b = (a, g) := by
  have h1 : isL 1 g.len = true := by rw [isL_iff]; omega
  have hn := notL_range ha
  have e1 : g.and 1 a = (a, g) := (and_comm g _ _).trans (and_one g a ha)
  have e2 : g.and (notL 1) b = (0, g) := (and_comm g _ _).trans (and_zero g b hb)
  have e3 : g.and (notL a) (notL 0) = (notL a, g) := and_one g _ hn
  unfold muxG orG
  simp only [e1, e2, e3, notL_notL]
theorem mux_zero (ha : isL a g.len = true) (hb : isL b g.len = true) : muxG g 0 a b = (b, g) := by
  have hn := notL_range hb
  have e1 : g.and 0 a = (0, g) := (and_comm g _ _).trans (and_zero g a ha)
  have e2 : g.and (notL 0) b = (b, g) := (and_comm g _ _).trans (and_one g b hb)
  have e3 : g.and (notL 0) (notL b) = (notL b, g) := (and_comm g _ _).trans (and_one g _ hn)
  unfold muxG orG
  simp only [e1, e2, e3, notL_notL]
theorem or_again (ha : isL a g.len = true) (hb : isL b g.len = true) (hl : g.len < 8000) : (orG g a b).2.and (notL a) (notL b) = (notL (orG g a b).1, (orG g a b).2) := by
  have := and_again (notL_range ha) (notL_range hb) hl
  unfold orG
  simp only [notL_notL]
  exact this
end

end Go.Proofs.YtkjlgamggkencaaDoor
