/-
  SameBools of what is the same; what Check's number says.
-/
import Derived.Test.YtkjlgamggkencaaDoorMEvalC
import Derived.Test.YtkjlgamggkencaaDoorMCheck
import Derived.Test.YtkjlgamggkencaaDoorMSee
namespace Go.Proofs.YtkjlgamggkencaaDoor
open Go.RowKit

set_option maxRecDepth 100000 in
set_option maxHeartbeats 2000000 in
theorem sameB_eq (A B : Option Addr) (n c d : Nat) (F G : Nat → Prop) (l : List Bool) (w : World) (hn : l.length = n) (hb : n ≤ 1000000) (h1 : Sl w F 1 (.slice A n c) n (l.map .bool)) (h2 : Sl w G 1 (.slice B n d) n (l.map .bool)) :
    Calls Tryd.prog 68 #[.slice A n c, .slice B n d] w fun e w' => e = .returned (.bool true) ∧ ∃ k, w.drewN k = w' := by
  have HN := Lib.hid hn
  clear hn
  go_enter Tryd.func68, Tryd.ntmps68
  go_wp2_with fail
  go_loopw [5] (fun i wr => ∃ (k j : Nat), k ≤ n ∧ i = .int .i64 k ∧ wr = w.drewN j) (fun i _ => n - (intOf i).toNat)
  case atStart => exact ⟨0, 0, by omega, rfl, rfl⟩
  case round =>
    obtain ⟨k, j, hk, rfl, rfl⟩ := hrel
    by_cases hlt : k < n
    · obtain ⟨b, o, u, rfl, _, hu, hcell⟩ := h1.at_ hlt
      obtain rfl := at_bool hu
      obtain ⟨b', o', u', rfl, _, hu', hcell'⟩ := h2.at_ hlt
      obtain rfl := at_bool hu'
      clear hu hu'
      have hk0 : (0 : Int) ≤ k := by omega
      have hk1 : (k : Int) < n := by omega
      generalize l.getD k false = x at *
      go_wp2_with fail
      go_quiet (fail)
      go_wp2_with fail
      go_roundw
      case rel => exact ⟨k + 1, _, by omega, by go_num, rfl⟩
      case measure => simp [intOf]; omega
    · go_wp2_with fail
      go_ret
      exact ⟨rfl, _, rfl⟩

theorem ckc_is (N : Int) (L : List (Int × Int)) (l : List Int) : ckCode N L l = 0 ∨ ckCode N L l ∈ L7 := by
  unfold ckCode
  split
  · exact .inr (by decide)
  · split
    · exact .inr (by decide)
    · split
      · exact .inr (by decide)
      · exact .inl rfl

theorem ckc_zero {N : Int} {L : List (Int × Int)} {l : List Int} (h : ckCode N L l = 0) : 0 ≤ N ∧ N.toNat + L.length ≤ 8000 ∧ Right N.toNat L ∧ ∀ x ∈ l, isL x (N.toNat + L.length) = true := by
  unfold ckCode at h
  split at h
  · cases h
  · rename_i h1
    split at h
    · cases h
    · rename_i h2
      split at h
      · cases h
      · rename_i h3
        refine ⟨by omega, by omega, ckAnds_iff.1 (by simpa using h2), ?_⟩
        have : ckOuts (N.toNat + L.length) l = true := by simpa using h3
        unfold ckOuts at this
        exact List.all_eq_true.1 this
theorem own_nextB {w' : World} {base : Nat} {e : TypeId} {v' : Value} {k : Nat} {D : List Int} {y : Int} (hu : D[k]? = some y)
    (h : w'.ownsRow base e 1 v' (k + 1) ((D.map (.int .i64)).take k ++ [.int .i64 y])) : ∃ A c, v' = .slice A (k + 1) c ∧ w'.ownsRow base e 1 (.slice A (k + 1) c) (k + 1) ((D.map (.int .i64)).take (k + 1)) := by
  have e1 : (D.map (Value.int .i64)).take k ++ [.int .i64 y] = (D.map (.int .i64)).take (k + 1) := by
    rw [List.take_add_one, List.getElem?_map, hu]; rfl
  rw [e1] at h
  obtain ⟨A, c, rfl, _⟩ := (Sl.of_own h).form
  exact ⟨A, c, rfl, h⟩

end Go.Proofs.YtkjlgamggkencaaDoor
