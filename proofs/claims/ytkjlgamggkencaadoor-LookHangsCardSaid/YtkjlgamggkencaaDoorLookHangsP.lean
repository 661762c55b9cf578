/-
  The plain law of LookHangs.
-/
import Derived.Test.YtkjlgamggkencaaDoorLookP
import Derived.Test.YtkjlgamggkencaaDoorMakeP
namespace Go.Proofs.YtkjlgamggkencaaDoor

/-- the gates below j that are not in the cone are spoilt -/
def spoil (C : List Int) (n : Nat) (L : List (Int × Int)) (j : Nat) : List (Int × Int) := (List.range L.length).map fun i => if i < j ∧ ((n + 1 + i : Nat) : Int) ∉ C then (1, 1) else L.getD i (0, 0)
theorem spoil_length (C : List Int) (n : Nat) (L : List (Int × Int)) (j : Nat) : (spoil C n L j).length = L.length := by simp [spoil]
theorem spoil_zero (C : List Int) (n : Nat) (L : List (Int × Int)) : spoil C n L 0 = L := by
  apply List.ext_getElem?
  intro i
  unfold spoil
  by_cases h : i < L.length
  · rw [List.getElem?_map, List.getElem?_range h]; simp [List.getD, h]
  · rw [List.getElem?_eq_none (by simp; omega), List.getElem?_eq_none (by omega)]
theorem spoil_get {C : List Int} {n : Nat} {L : List (Int × Int)} {j i : Nat} (hi : i < L.length) : (spoil C n L j).getD i (0, 0) = if i < j ∧ ((n + 1 + i : Nat) : Int) ∉ C then (1, 1) else L.getD i (0, 0) := by
  unfold spoil
  rw [List.getD, List.getElem?_map, List.getElem?_range hi]; rfl
theorem spoil_succ (C : List Int) (n : Nat) (L : List (Int × Int)) {j : Nat} (_ : j < L.length) : spoil C n L (j + 1) = if ((n + 1 + j : Nat) : Int) ∈ C then spoil C n L j else (spoil C n L j).set j (1, 1) := by
  apply List.ext_getElem?
  intro i
  by_cases h : i < L.length
  · have e1 : ∀ k, (spoil C n L k)[i]? = some (if i < k ∧ ((n + 1 + i : Nat) : Int) ∉ C then (1, 1) else L.getD i (0, 0)) := by intro k; unfold spoil; rw [List.getElem?_map, List.getElem?_range h]; rfl
    split
    · rename_i hc
      rw [e1, e1]
      by_cases hij : i = j
      · subst hij
        rw [if_neg (fun h => h.2 hc), if_neg (fun h => h.2 hc)]
      · simp only [show (i < j + 1) = (i < j) from by simp; omega]
    · rename_i hc
      rw [e1, List.getElem?_set]
      by_cases hij : j = i
      · subst hij
        rw [if_pos ⟨by omega, hc⟩, if_pos rfl, if_pos (by rw [spoil_length]; exact h)]
      · rw [if_neg hij, e1]
        simp only [show (i < j + 1) = (i < j) from by simp; omega]
  · have : (spoil C n L j).length ≤ i := by rw [spoil_length]; omega
    split
    · rw [List.getElem?_eq_none (by rw [spoil_length]; omega), List.getElem?_eq_none this]
    · rw [List.getElem?_eq_none (by rw [spoil_length]; omega), List.getElem?_eq_none (by simpa using this)]
theorem spoil_right {C : List Int} {n : Nat} {L : List (Int × Int)} (hn : 0 < n) (hr : Right n L) (j : Nat) : Right n (spoil C n L j) := by
  intro i p hp
  have hi : i < L.length := by have := (List.getElem?_eq_some_iff.1 hp).1; rwa [spoil_length] at this
  have hg := spoil_get (C := C) (n := n) (j := j) hi
  rw [List.getD, hp] at hg
  simp only [Option.getD_some] at hg
  rw [hg]
  split
  · simp; omega
  · exact hr i _ (by simp [List.getD, hi])

/-- the two laws -/
theorem hangs_not {n : Nat} {L : List (Int × Int)} (hr : Right n L) {l : Int} (hl : isL l (n + L.length) = true) {inp : List Bool} {k : Nat} (hk : ¬ Hangs n L l (k + 1)) (b : Bool) :
    worth (nodes n L inp) l = worth (nodes n L (inp.set k b)) l := by
  have := nodes_alike hr hr rfl (l := l) (inp := inp) (inp' := inp.set k b) (by
    intro i hi hh
    have : k ≠ i := fun e => hk (by rw [e]; exact hh)
    simp [List.getD, this]) (fun _ _ _ => rfl) (l / 2).toNat (by have := isL_iff.1 hl; omega) (hangs_self hl)
  unfold worth; rw [this]
theorem spoil_worth {n : Nat} {L : List (Int × Int)} (hn : 0 < n) (hr : Right n L) {l : Int} (hl : isL l (n + L.length) = true) (inp : List Bool) :
    worth (nodes n (spoil (coneL n L l) n L L.length) inp) l = worth (nodes n L inp) l := by
  have := nodes_alike hr (spoil_right (C := coneL n L l) hn hr L.length) (spoil_length _ _ _ _) (l := l) (inp := inp) (inp' := inp) (fun _ _ _ => rfl) (by
    intro i hi hh
    rw [spoil_get hi, if_neg]
    rintro ⟨_, h⟩
    exact h ((mem_cone hi).2 hh)) (l / 2).toNat (by have := isL_iff.1 hl; omega) (hangs_self hl)
  unfold worth; rw [this]
end Go.Proofs.YtkjlgamggkencaaDoor
