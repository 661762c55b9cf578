/-
  What a literal hangs on, how deep a circuit is: over lists alone.
-/
import Derived.Test.YtkjlgamggkencaaDoorGateP
namespace Go.Proofs.YtkjlgamggkencaaDoor

/-- one gate more is looked at, from above -/
def mstep (n : Nat) (L : List (Int × Int)) (v : List Bool) (i : Nat) : List Bool :=
  if v.getD (n + 1 + i) false = true then (v.set ((L.getD i (0, 0)).1 / 2).toNat true).set ((L.getD i (0, 0)).2 / 2).toNat true else v
def mdown (n : Nat) (L : List (Int × Int)) (v : List Bool) : Nat → List Bool
  | 0 => v
  | j + 1 => mdown n L (mstep n L v j) j
def marksL (n : Nat) (L : List (Int × Int)) (l : Int) : List Bool := mdown n L ((List.replicate (n + 1 + L.length) false).set (l / 2).toNat true) L.length
def coneOf (n : Nat) (is : List Bool) (m : Nat) : List Int := ((List.range m).filter fun i => is.getD (n + 1 + i) false).map fun (i : Nat) => ((n + 1 + i : Nat) : Int)
def coneL (n : Nat) (L : List (Int × Int)) (l : Int) : List Int := coneOf n (marksL n L l) L.length
def suppOf (is : List Bool) (m : Nat) : List Int := ((List.range m).filter fun i => is.getD (i + 1) false).map fun (i : Nat) => (i : Int)
def suppL (n : Nat) (L : List (Int × Int)) (l : Int) : List Int := suppOf (marksL n L l) n

/-- the depths of the nodes -/
def dmore (d : List Int) : List (Int × Int) → List Int
  | [] => d
  | p :: r => dmore (d ++ [1 + max (d.getD (p.1 / 2).toNat 0) (d.getD (p.2 / 2).toNat 0)]) r
def depths (n : Nat) (L : List (Int × Int)) : List Int := dmore (List.replicate (n + 1) 0) L
def mostL (d : List Int) (l : List Int) : Int := l.foldl (fun m x => max m (d.getD (x / 2).toNat 0)) 0
def depthL (n : Nat) (L : List (Int × Int)) (l : List Int) : Int := mostL (depths n L) l

theorem mstep_length (n : Nat) (L : List (Int × Int)) (v : List Bool) (i : Nat) : (mstep n L v i).length = v.length := by unfold mstep; split <;> simp
theorem mdown_length (n : Nat) (L : List (Int × Int)) : ∀ (j : Nat) (v : List Bool), (mdown n L v j).length = v.length
  | 0, _ => rfl
  | j + 1, v => by rw [mdown, mdown_length n L j, mstep_length]
theorem marksL_length (n : Nat) (L : List (Int × Int)) (l : Int) : (marksL n L l).length = n + 1 + L.length := by simp [marksL, mdown_length]

theorem set_true {v : List Bool} {a y : Nat} (h : v.getD y false = true) : (v.set a true).getD y false = true := by
  by_cases e : a = y
  · subst e
    have hl : a < v.length := by
      rcases Nat.lt_or_ge a v.length with hl | hl
      · exact hl
      · rw [List.getD, List.getElem?_eq_none hl] at h; cases h
    simp [List.getD, hl]
  · simpa [List.getD, List.getElem?_set, e] using h
theorem set_at {v : List Bool} {a : Nat} (h : a < v.length) : (v.set a true).getD a false = true := by simp [List.getD, h]
theorem of_set {v : List Bool} {a y : Nat} (h : (v.set a true).getD y false = true) : y = a ∨ v.getD y false = true := by
  by_cases e : a = y
  · exact .inl e.symm
  · right; simpa [List.getD, List.getElem?_set, e] using h

theorem mstep_mono {n : Nat} {L : List (Int × Int)} {v : List Bool} {i y : Nat} (h : v.getD y false = true) : (mstep n L v i).getD y false = true := by
  unfold mstep; split
  · exact set_true (set_true h)
  · exact h
theorem mdown_mono {n : Nat} {L : List (Int × Int)} {y : Nat} : ∀ {j : Nat} {v : List Bool}, v.getD y false = true → (mdown n L v j).getD y false = true
  | 0, _, h => h
  | j + 1, _, h => mdown_mono (j := j) (mstep_mono h)

/-- what the gates below j mark lies below them -/
theorem mstep_above {n : Nat} {L : List (Int × Int)} (hr : Right n L) {v : List Bool} {i y : Nat} (hi : i < L.length) (hy : n + 1 + i ≤ y) : (mstep n L v i).getD y false = v.getD y false := by
  have := hr i (L.getD i (0, 0)) (by simp [List.getD, hi])
  unfold mstep; split
  · rw [List.getD, List.getElem?_set_ne (by omega), List.getElem?_set_ne (by omega)]; rfl
  · rfl
theorem mdown_above {n : Nat} {L : List (Int × Int)} (hr : Right n L) {y : Nat} : ∀ {j : Nat} {v : List Bool}, j ≤ L.length → n + j ≤ y → (mdown n L v j).getD y false = v.getD y false
  | 0, _, _, _ => rfl
  | j + 1, v, hj, hy => by
    rw [mdown, mdown_above hr (j := j) (by omega) (by omega), mstep_above hr (by omega) (by omega)]

/-- what is marked is closed -/
theorem mdown_closed {n : Nat} {L : List (Int × Int)} (hr : Right n L) : ∀ {j : Nat} {v : List Bool}, j ≤ L.length → v.length = n + 1 + L.length →
    ∀ i, i < j → (mdown n L v j).getD (n + 1 + i) false = true → (mdown n L v j).getD ((L.getD i (0, 0)).1 / 2).toNat false = true ∧ (mdown n L v j).getD ((L.getD i (0, 0)).2 / 2).toNat false = true
  | 0, _, _, _, i, hi, _ => absurd hi (Nat.not_lt_zero _)
  | j + 1, v, hj, hv, i, hi, h => by
    rw [mdown] at h ⊢
    rcases Nat.lt_or_ge i j with h1 | h1
    · exact mdown_closed hr (j := j) (by omega) (by rw [mstep_length, hv]) i h1 h
    · obtain rfl : i = j := by omega
      have hri := hr i (L.getD i (0, 0)) (by simp [List.getD, show i < L.length by omega])
      rw [mdown_above hr (by omega) (by omega), mstep_above hr (by omega) (by omega)] at h
      have e : mstep n L v i = (v.set ((L.getD i (0, 0)).1 / 2).toNat true).set ((L.getD i (0, 0)).2 / 2).toNat true := by unfold mstep; rw [if_pos h]
      refine ⟨mdown_mono ?_, mdown_mono ?_⟩ <;> rw [e]
      · exact set_true (set_at (by omega))
      · exact set_at (by rw [List.length_set]; omega)

/-- the least closed set -/
theorem mdown_least {n : Nat} {L : List (Int × Int)} {T : Nat → Prop} (hT : ∀ i, i < L.length → T (n + 1 + i) → T ((L.getD i (0, 0)).1 / 2).toNat ∧ T ((L.getD i (0, 0)).2 / 2).toNat) :
    ∀ {j : Nat} {v : List Bool}, j ≤ L.length → (∀ y, v.getD y false = true → T y) → ∀ y, (mdown n L v j).getD y false = true → T y
  | 0, _, _, hv => hv
  | j + 1, v, hj, hv => by
    rw [mdown]
    refine mdown_least hT (j := j) (by omega) ?_
    intro y hy
    unfold mstep at hy
    split at hy
    · rename_i h
      have ht := hT j (by omega) (hv _ h)
      rcases of_set hy with rfl | hy
      · exact ht.2
      · rcases of_set hy with rfl | hy
        · exact ht.1
        · exact hv y hy
    · exact hv y hy

/-- node y hangs under l -/
def Hangs (n : Nat) (L : List (Int × Int)) (l : Int) (y : Nat) : Prop := (marksL n L l).getD y false = true
theorem hangs_self {n : Nat} {L : List (Int × Int)} {l : Int} (h : isL l (n + L.length) = true) : Hangs n L l (l / 2).toNat := by
  have := isL_iff.1 h
  exact mdown_mono (set_at (by simp; omega))
theorem hangs_gate {n : Nat} {L : List (Int × Int)} (hr : Right n L) {l : Int} {i : Nat} (hi : i < L.length) (h : Hangs n L l (n + 1 + i)) :
    Hangs n L l ((L.getD i (0, 0)).1 / 2).toNat ∧ Hangs n L l ((L.getD i (0, 0)).2 / 2).toNat := mdown_closed hr (Nat.le_refl _) (by simp) i hi h
theorem hangs_least {n : Nat} {L : List (Int × Int)} {l : Int} {T : Nat → Prop} (hT : ∀ i, i < L.length → T (n + 1 + i) → T ((L.getD i (0, 0)).1 / 2).toNat ∧ T ((L.getD i (0, 0)).2 / 2).toNat) (h0 : T (l / 2).toNat) {y : Nat} (h : Hangs n L l y) : T y := by
  refine mdown_least hT (Nat.le_refl _) ?_ y h
  intro z hz
  rcases of_set hz with rfl | hz
  · exact h0
  · rw [List.getD, List.getElem?_replicate] at hz
    split at hz <;> simp at hz
theorem hangs_under {n : Nat} {L : List (Int × Int)} (hr : Right n L) {l a : Int} (h0 : Hangs n L l (a / 2).toNat) {y : Nat} (h : Hangs n L a y) : Hangs n L l y :=
  hangs_least (fun _ hi ht => hangs_gate hr hi ht) h0 h

/-- what two circuits are worth where they are alike as far as a literal hangs on them -/
theorem nodes_alike {n : Nat} {L L' : List (Int × Int)} (hr : Right n L) (hr' : Right n L') (hlen : L'.length = L.length) {l : Int} {inp inp' : List Bool}
    (hin : ∀ k, k < n → Hangs n L l (k + 1) → inp.getD k false = inp'.getD k false) (hg : ∀ i, i < L.length → Hangs n L l (n + 1 + i) → L.getD i (0, 0) = L'.getD i (0, 0)) :
    ∀ y, y < n + 1 + L.length → Hangs n L l y → (nodes n L inp).getD y false = (nodes n L' inp').getD y false := by
  have hw : ∀ x : Int, (nodes n L inp).getD (x / 2).toNat false = (nodes n L' inp').getD (x / 2).toNat false → worth (nodes n L inp) x = worth (nodes n L' inp') x := by
    intro x h; unfold worth; rw [h]
  intro y
  induction y using Nat.strongRecOn with
  | ind y ih =>
    intro hy h
    rcases Nat.lt_or_ge y (n + 1) with h1 | h1
    · have key : ∀ (L : List (Int × Int)) (inp : List Bool), (nodes n L inp).getD y false = (valsN n inp).getD y false := by
        intro L inp
        obtain ⟨u, hu⟩ := more_prefix (valsN n inp) L
        unfold nodes
        rw [hu, List.getD, List.getElem?_append_left (by rw [valsN_length]; exact h1)]; rfl
      rw [key, key]
      rcases Nat.eq_zero_or_pos y with h0 | h0
      · subst h0; rfl
      · obtain ⟨k, rfl⟩ : ∃ k, y = k + 1 := ⟨y - 1, by omega⟩
        have := hin k (by omega) h
        simpa [valsN, List.getD, show k < n by omega] using this
    · obtain ⟨i, rfl⟩ : ∃ i, y = n + 1 + i := ⟨y - (n + 1), by omega⟩
      have hi : i < L.length := by omega
      have hgi := hg i hi h
      have hh := hangs_gate hr hi h
      have hri := hr i (L.getD i (0, 0)) (by simp [List.getD, hi])
      rw [nodes_at hr inp (i := i) (p := L.getD i (0, 0)) (by simp [List.getD, hi]), nodes_at hr' inp' (i := i) (p := L'.getD i (0, 0)) (by simp [List.getD, show i < L'.length by omega]), ← hgi]
      rw [hw _ (ih _ (by omega) (by omega) hh.1), hw _ (ih _ (by omega) (by omega) hh.2)]

theorem mem_cone {n : Nat} {L : List (Int × Int)} {l : Int} {i : Nat} (hi : i < L.length) : (((n + 1 + i : Nat) : Int) ∈ coneL n L l) ↔ Hangs n L l (n + 1 + i) := by
  unfold coneL coneOf Hangs
  simp only [List.mem_map, List.mem_filter, List.mem_range]
  constructor
  · rintro ⟨j, ⟨_, h⟩, e⟩
    obtain rfl : j = i := by omega
    exact h
  · intro h; exact ⟨i, ⟨hi, h⟩, rfl⟩
theorem cone_of {n : Nat} {L : List (Int × Int)} {l x : Int} (h : x ∈ coneL n L l) : ∃ i, i < L.length ∧ x = ((n + 1 + i : Nat) : Int) ∧ Hangs n L l (n + 1 + i) := by
  unfold coneL coneOf at h
  simp only [List.mem_map, List.mem_filter, List.mem_range] at h
  obtain ⟨i, ⟨h1, h2⟩, rfl⟩ := h
  exact ⟨i, h1, rfl, h2⟩
theorem mem_supp {n : Nat} {L : List (Int × Int)} {l : Int} {k : Nat} (hk : k < n) : ((k : Int) ∈ suppL n L l) ↔ Hangs n L l (k + 1) := by
  unfold suppL suppOf Hangs
  simp only [List.mem_map, List.mem_filter, List.mem_range]
  constructor
  · rintro ⟨j, ⟨_, h⟩, e⟩
    obtain rfl : j = k := by omega
    exact h
  · intro h; exact ⟨k, ⟨hk, h⟩, rfl⟩

/-! ### depths -/
theorem dmore_append (d : List Int) (l r : List (Int × Int)) : dmore d (l ++ r) = dmore (dmore d l) r := by
  induction l generalizing d with
  | nil => rfl
  | cons x l ih => exact ih _
theorem dmore_length (d : List Int) (l : List (Int × Int)) : (dmore d l).length = d.length + l.length := by
  induction l generalizing d with
  | nil => rfl
  | cons x l ih => rw [dmore, ih]; simp; omega
theorem dmore_prefix (d : List Int) (l : List (Int × Int)) : ∃ u, dmore d l = d ++ u := by
  induction l generalizing d with
  | nil => exact ⟨[], by simp [dmore]⟩
  | cons x l ih => obtain ⟨u, hu⟩ := ih (d ++ [1 + max (d.getD (x.1 / 2).toNat 0) (d.getD (x.2 / 2).toNat 0)]); exact ⟨_, by rw [dmore, hu, List.append_assoc]⟩
theorem depths_length (n : Nat) (L : List (Int × Int)) : (depths n L).length = n + 1 + L.length := by unfold depths; rw [dmore_length]; simp
theorem dmore_take (d : List Int) (L : List (Int × Int)) {j : Nat} (hj : j < L.length) : dmore d (L.take (j + 1)) = dmore d (L.take j) ++ [1 + max ((dmore d (L.take j)).getD ((L.getD j (0, 0)).1 / 2).toNat 0) ((dmore d (L.take j)).getD ((L.getD j (0, 0)).2 / 2).toNat 0)] := by
  rw [List.take_succ_eq_append_getElem hj, dmore_append, show L.getD j (0, 0) = L[j] from by simp [List.getD, hj]]; rfl
theorem depths_at {n : Nat} {L : List (Int × Int)} (hr : Right n L) {i : Nat} (hi : i < L.length) :
    (depths n L).getD (n + 1 + i) 0 = 1 + max ((depths n L).getD ((L.getD i (0, 0)).1 / 2).toNat 0) ((depths n L).getD ((L.getD i (0, 0)).2 / 2).toNat 0) := by
  have hri := hr i (L.getD i (0, 0)) (by simp [List.getD, hi])
  have hlen : (dmore (List.replicate (n + 1) (0 : Int)) (L.take i)).length = n + 1 + i := by rw [dmore_length]; simp; omega
  have h1 := dmore_take (List.replicate (n + 1) (0 : Int)) L hi
  obtain ⟨u, hu⟩ := dmore_prefix (dmore (List.replicate (n + 1) (0 : Int)) (L.take (i + 1))) (L.drop (i + 1))
  rw [← dmore_append, List.take_append_drop] at hu
  unfold depths
  rw [hu, h1]
  have hin : ∀ y : Nat, y < n + 1 + i → ((dmore (List.replicate (n + 1) (0 : Int)) (L.take i) ++ [1 + max ((dmore (List.replicate (n + 1) (0 : Int)) (L.take i)).getD ((L.getD i (0, 0)).1 / 2).toNat 0) ((dmore (List.replicate (n + 1) (0 : Int)) (L.take i)).getD ((L.getD i (0, 0)).2 / 2).toNat 0)]) ++ u).getD y 0 = (dmore (List.replicate (n + 1) (0 : Int)) (L.take i)).getD y 0 := by
    intro y hy
    rw [List.append_assoc, List.getD, List.getElem?_append_left (by omega)]; rfl
  have ha : ∀ (d : List Int) (y : Int) (k : Nat), d.length = k → (d ++ [y] ++ u).getD k 0 = y := by
    intro d y k hk
    subst hk
    simp [List.getD]
  rw [ha _ _ _ hlen, hin _ (by omega), hin _ (by omega)]
theorem depths_nonneg (d : List Int) (hd : ∀ x ∈ d, 0 ≤ x) (L : List (Int × Int)) : ∀ x ∈ dmore d L, 0 ≤ x := by
  induction L generalizing d with
  | nil => exact hd
  | cons p r ih =>
    refine ih _ ?_
    intro x hx
    rcases List.mem_append.1 hx with h | h
    · exact hd x h
    · simp at h
      have : 0 ≤ d[(p.1 / 2).toNat]?.getD 0 := by
        cases hg : d[(p.1 / 2).toNat]? with
        | none => exact Int.le_refl _
        | some y => exact hd y (List.mem_of_getElem? hg)
      omega
end Go.Proofs.YtkjlgamggkencaaDoor
