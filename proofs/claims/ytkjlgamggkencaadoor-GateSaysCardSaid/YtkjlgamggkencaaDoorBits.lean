/-
  The last bit: 'x ^ 1', 'x & 1', of a number that is not negative.
-/
import Derived.Test.YtkjlgamggkencaaDoorGr
namespace Go.Proofs.YtkjlgamggkencaaDoor
open Go.RowKit

theorem wrap_i64_small (n : Int) (h0 : 0 ≤ n) (h1 : n < 2 ^ 62) : IntKind.i64.wrap n = n := by
  rw [IntKind.wrap_i64]
  have : (2 : Int) ^ 62 = 4611686018427387904 := by decide
  omega
theorem nat_xor_one (a : Nat) : a ^^^ 1 = if a % 2 = 0 then a + 1 else a - 1 := by
  have h1 : (a ^^^ 1) / 2 = a / 2 := by rw [Nat.xor_div_two]; simp
  have h : ∀ b : Nat, b % 2 = (b.testBit 0).toNat := fun b => by simp [Nat.testBit_zero]; cases Nat.mod_two_eq_zero_or_one b <;> simp [*]
  have h2 : (a ^^^ 1) % 2 = (a + 1) % 2 := by
    rw [h (a ^^^ 1), Nat.testBit_xor, Nat.testBit_zero, Nat.testBit_zero]
    cases Nat.mod_two_eq_zero_or_one a with
    | inl e => simp [e]; omega
    | inr e => simp [e]; omega
  split <;> omega
theorem bits_xor_one (l : Int) (h0 : 0 ≤ l) (h1 : l ≤ 4000000000000) : bits .xor .i64 l 1 = notL l := by
  obtain ⟨a, rfl⟩ := Int.eq_ofNat_of_zero_le h0
  have ha : a % 2 ^ IntKind.i64.bits = a := Nat.mod_eq_of_lt (by simp [IntKind.bits]; omega)
  have h1' : (1 : Int) = ((1 : Nat) : Int) := rfl
  unfold bits
  rw [h1']
  simp only [BitVec.ofInt_natCast, BitVec.toNat_xor, BitVec.toNat_ofNat, ha]
  rw [show (1 % 2 ^ IntKind.i64.bits) = 1 from by decide, nat_xor_one]
  have hp : (2 : Int) ^ 62 = 4611686018427387904 := by decide
  unfold notL
  by_cases h : a % 2 = 0
  · rw [if_pos h, if_pos (by omega), wrap_i64_small _ (by omega) (by omega)]; omega
  · rw [if_neg h, if_neg (by omega), wrap_i64_small _ (by omega) (by omega)]; omega
theorem bits_and_one (l : Int) (h0 : 0 ≤ l) (h1 : l ≤ 4000000000000) : bits .and .i64 l 1 = l % 2 := by
  have hp : (2 : Int) ^ 62 = 4611686018427387904 := by decide
  have := bits_mask .i64 62 (by decide) wrap_i64_small 1 (by decide) l h0 (by omega)
  simpa using this

end Go.Proofs.YtkjlgamggkencaaDoor
