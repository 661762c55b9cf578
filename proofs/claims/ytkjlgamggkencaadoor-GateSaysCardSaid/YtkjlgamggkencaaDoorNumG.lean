/-
  The contract of skolemworld.Number: a number from 0 to below a bound.
-/
import Derived.Test.YtkjlgamggkencaaDoorBase
namespace Go.Proofs.YtkjlgamggkencaaDoor
open Go.RowKit

theorem at_getD {l : List Int} {k : Nat} {u : Value} (h : (l.map (Value.int .i64))[k]? = some u) : u = .int .i64 (l.getD k 0) := by
  rw [List.getElem?_map] at h
  cases hg : l[k]? with
  | none => rw [hg] at h; cases h
  | some x => rw [hg] at h; simp at h; rw [← h, List.getD, hg]; rfl

theorem emod_of_tmod (n b : Int) (hb : 0 < b) : n % b = if n.tmod b < 0 then n.tmod b + b else n.tmod b := by
  have h1 := Int.emod_nonneg n (Int.ne_of_gt hb)
  have h2 := Int.emod_lt_of_pos n hb
  rw [Int.tmod_eq_emod]
  split <;> split <;> omega

theorem tmod_bounds (n b : Int) (hb : 0 < b) : -b < n.tmod b ∧ n.tmod b < b := by
  have h1 := Int.emod_nonneg n (Int.ne_of_gt hb)
  have h2 := Int.emod_lt_of_pos n hb
  rw [Int.tmod_eq_emod]
  split <;> omega

set_option maxHeartbeats 400000 in
theorem number_any (n b : Int) (w : World) (hb : 0 < b) (hb2 : b ≤ 4611686018427387904) :
    Calls Tryd.prog 40 #[.int .i64 n, .int .i64 b] w fun e w' => e = .returned (.int .i64 (n % b)) ∧ w = w' := by
  have ht := tmod_bounds n b hb
  have hb0 : (b == 0) = false := by simp; omega
  have hb1 : (b == -1) = false := by simp; omega
  have HE := Lib.hid (emod_of_tmod n b hb)
  go_enter Tryd.func40, Tryd.ntmps40
  go_wp2
  all_goals go_ret
  · exact ⟨ret_int (by rw [HE.out, if_pos (by assumption)]), rfl⟩
  · exact ⟨ret_int (by rw [HE.out, if_neg (by omega)]), rfl⟩

end Go.Proofs.YtkjlgamggkencaaDoor
