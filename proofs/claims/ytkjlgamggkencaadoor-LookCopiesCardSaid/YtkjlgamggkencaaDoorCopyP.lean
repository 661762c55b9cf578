/-
  A cone made in another graph: over lists alone.
-/
import Derived.Test.YtkjlgamggkencaaDoorLookP
namespace Go.Proofs.YtkjlgamggkencaaDoor

/-- what stands for the nodes at first: the inputs' literals -/
def at0 (n m : Nat) (by_ : List Int) : List Int := (0 :: (List.range n).map fun i => by_.getD i 0) ++ List.replicate m 0
def cpStep (n : Nat) (L : List (Int × Int)) (is : List Bool) (s : Gr × List Int) (i : Nat) : Gr × List Int :=
  if is.getD (n + 1 + i) false = true then ((s.1.and (asL s.2 (L.getD i (0, 0)).1) (asL s.2 (L.getD i (0, 0)).2)).2, s.2.set (n + 1 + i) (s.1.and (asL s.2 (L.getD i (0, 0)).1) (asL s.2 (L.getD i (0, 0)).2)).1) else s
def cpRun (n : Nat) (L : List (Int × Int)) (is : List Bool) (s : Gr × List Int) (j : Nat) : Gr × List Int := (List.range j).foldl (cpStep n L is) s
def copyG (g : Gr) (n : Nat) (L : List (Int × Int)) (l : Int) (by_ : List Int) : Int × Gr :=
  (asL (cpRun n L (marksL n L l) (g, at0 n L.length by_) L.length).2 l, (cpRun n L (marksL n L l) (g, at0 n L.length by_) L.length).1)

theorem cpRun_succ (n : Nat) (L : List (Int × Int)) (is : List Bool) (s : Gr × List Int) (j : Nat) : cpRun n L is s (j + 1) = cpStep n L is (cpRun n L is s j) j := by simp [cpRun, List.range_succ, List.foldl_append]
theorem at0_length (n m : Nat) (by_ : List Int) : (at0 n m by_).length = n + 1 + m := by simp [at0]; omega
theorem at0_isL {n m N : Nat} {by_ : List Int} (h : ∀ x ∈ by_, isL x N = true) : ∀ x ∈ at0 n m by_, isL x N = true := by
  have h0 : isL 0 N = true := by rw [isL_iff]; omega
  intro x hx
  unfold at0 at hx
  rcases List.mem_append.1 hx with h1 | h1
  · rcases List.mem_cons.1 h1 with rfl | h2
    · exact h0
    · obtain ⟨i, _, rfl⟩ := List.mem_map.1 h2
      rw [List.getD]
      cases hg : by_[i]? with
      | none => exact h0
      | some y => exact h y (List.mem_of_getElem? hg)
  · rw [List.eq_of_mem_replicate h1]; exact h0

/-- the run's sizes, literals -/
structure CpInv (g : Gr) (N : Nat) (s : Gr × List Int) (k : Nat) : Prop where
  up : Up g s.1 k
  many : s.2.length = N
  lits : ∀ x ∈ s.2, isL x s.1.len = true
theorem cp_inv {g : Gr} (hm : Made g.n g.ands) {n : Nat} {L : List (Int × Int)} (is : List Bool) {at_ : List Int} (ha : ∀ x ∈ at_, isL x g.len = true) (hl : g.len + L.length < 8000) :
    ∀ j, j ≤ L.length → CpInv g at_.length (cpRun n L is (g, at_) j) j := by
  intro j
  induction j with
  | zero => intro _; exact ⟨Up.refl hm, rfl, ha⟩
  | succ j ih =>
    intro hj
    obtain ⟨h1, h2, h3⟩ := ih (by omega)
    rw [cpRun_succ]
    generalize cpRun n L is (g, at_) j = s at *
    have hh := h1.high
    unfold cpStep
    split
    · have a1 := asL_isL (l := (L.getD j (0, 0)).1) h3
      have a2 := asL_isL (l := (L.getD j (0, 0)).2) h3
      have hu := and_up h1.made a1 a2 (by omega)
      have hx := and_isL h1.made a1 a2 (by omega)
      refine ⟨h1.trans hu, by simpa using h2, ?_⟩
      intro x hxm
      rcases List.mem_or_eq_of_mem_set hxm with h | rfl
      · exact hu.isL (h3 x h)
      · exact hx
    · exact ⟨h1.mono (by omega), h2, h3⟩

/-- what the nodes' literals are worth -/
theorem cp_val {g : Gr} (hm : Made g.n g.ands) {n : Nat} {L : List (Int × Int)} (hr : Right n L) {l : Int} {by_ : List Int} (hb : ∀ x ∈ by_, isL x g.len = true) (hl : g.len + L.length < 8000) (inp vals : List Bool)
    (hv : ∀ i, i < n → vals.getD i false = worth (g.nod inp) (by_.getD i 0)) :
    ∀ j, j ≤ L.length → ∀ y, y < n + 1 + j → Hangs n L l y →
      worth ((cpRun n L (marksL n L l) (g, at0 n L.length by_) j).1.nod inp) ((cpRun n L (marksL n L l) (g, at0 n L.length by_) j).2.getD y 0) = (nodes n L vals).getD y false := by
  have hw0 : ∀ (g : Gr), worth (g.nod inp) 0 = false := by
    intro g
    have : (g.nod inp).getD 0 false = false := by
      obtain ⟨u, hu⟩ := more_prefix (valsN g.n inp) g.ands
      unfold Gr.nod nodes; rw [hu]; rfl
    show ((g.nod inp).getD 0 false != decide ((0 : Int) % 2 = 1)) = false
    rw [this]; rfl
  have hlen : (at0 n L.length by_).length = n + 1 + L.length := at0_length _ _ _
  intro j
  induction j with
  | zero =>
    intro _ y hy _
    have hnod : (nodes n L vals).getD y false = (valsN n vals).getD y false := by
      obtain ⟨u, hu⟩ := more_prefix (valsN n vals) L
      unfold nodes
      rw [hu, List.getD, List.getElem?_append_left (by rw [valsN_length]; omega)]; rfl
    rw [hnod]
    show worth (g.nod inp) ((at0 n L.length by_).getD y 0) = _
    cases y with
    | zero => rw [show (at0 n L.length by_).getD 0 0 = 0 from rfl, hw0]; rfl
    | succ k =>
      have hk : k < n := by omega
      have e1 : (at0 n L.length by_).getD (k + 1) 0 = by_.getD k 0 := by
        unfold at0
        rw [List.getD, List.getElem?_append_left (by simp; omega)]
        simp [hk]
      rw [e1, ← hv k hk]
      simp [valsN, List.getD, hk]
  | succ j ih =>
    intro hj y hy hh
    have hjl : j < L.length := by omega
    have ih' := ih (by omega)
    obtain ⟨i1, i2, i3⟩ := cp_inv hm (n := n) (L := L) (marksL n L l) (at0_isL (n := n) (m := L.length) hb) hl j (by omega)
    rw [cpRun_succ]
    have hhi := i1.high
    have hmade := i1.made
    generalize cpRun n L (marksL n L l) (g, at0 n L.length by_) j = s at *
    have hri := hr j (L.getD j (0, 0)) (by simp [List.getD, hjl])
    unfold cpStep
    by_cases hc : (marksL n L l).getD (n + 1 + j) false = true
    · rw [if_pos hc]
      have hg := hangs_gate hr hjl hc
      have a1 := asL_isL (l := (L.getD j (0, 0)).1) i3
      have a2 := asL_isL (l := (L.getD j (0, 0)).2) i3
      have hu := and_up hmade a1 a2 (by omega)
      have asw : ∀ x : Int, (x / 2).toNat < n + 1 + j → Hangs n L l (x / 2).toNat → worth (s.1.nod inp) (asL s.2 x) = worth (nodes n L vals) x := by
        intro x hx hxh
        have h := ih' _ hx hxh
        unfold asL
        by_cases hp : x % 2 = 1
        · rw [if_pos hp, worth_not, h]
          unfold worth; rw [decide_eq_true hp]
          cases (nodes n L vals).getD (x / 2).toNat false <;> rfl
        · rw [if_neg hp, h]
          unfold worth; rw [decide_eq_false hp]
          cases (nodes n L vals).getD (x / 2).toNat false <;> rfl
      simp only
      by_cases hyj : y = n + 1 + j
      · subst hyj
        have e1 : (s.2.set (n + 1 + j) (s.1.and (asL s.2 (L.getD j (0, 0)).1) (asL s.2 (L.getD j (0, 0)).2)).1).getD (n + 1 + j) 0 = (s.1.and (asL s.2 (L.getD j (0, 0)).1) (asL s.2 (L.getD j (0, 0)).2)).1 := by
          simp [List.getD, show n + 1 + j < s.2.length by omega]
        rw [e1]
        have hlv := and_lv (inp := inp) hmade ⟨a1, asw _ (by omega) hg.1⟩ ⟨a2, asw _ (by omega) hg.2⟩ (by omega)
        rw [hlv.val]
        exact (nodes_at hr vals (i := j) (p := L.getD j (0, 0)) (by simp [List.getD, hjl])).symm
      · have e1 : (s.2.set (n + 1 + j) (s.1.and (asL s.2 (L.getD j (0, 0)).1) (asL s.2 (L.getD j (0, 0)).2)).1).getD y 0 = s.2.getD y 0 := by
          simp [List.getD, show ¬ n + 1 + j = y by omega]
        rw [e1]
        have hly : isL (s.2.getD y 0) s.1.len = true := by
          rw [List.getD]
          cases hg : s.2[y]? with
          | none => rw [isL_iff]; simp; omega
          | some z => exact i3 z (List.mem_of_getElem? hg)
        rw [(hu.lv (inp := inp) ⟨hly, rfl⟩).val]
        exact ih' y (by omega) hh
    · rw [if_neg hc]
      have : y ≠ n + 1 + j := fun e => hc (by subst e; exact hh)
      exact ih' y (by omega) hh

theorem copy_up {g : Gr} (hm : Made g.n g.ands) {n : Nat} {L : List (Int × Int)} {l : Int} {by_ : List Int} (hb : ∀ x ∈ by_, isL x g.len = true) (hl : g.len + L.length < 8000) :
    Up g (copyG g n L l by_).2 L.length ∧ isL (copyG g n L l by_).1 (copyG g n L l by_).2.len = true := by
  obtain ⟨i1, i2, i3⟩ := cp_inv hm (n := n) (L := L) (marksL n L l) (at0_isL (n := n) (m := L.length) hb) hl L.length (Nat.le_refl _)
  exact ⟨i1, asL_isL i3⟩
theorem copy_worth {g : Gr} (hm : Made g.n g.ands) {n : Nat} {L : List (Int × Int)} (hr : Right n L) {l : Int} (hll : isL l (n + L.length) = true) {by_ : List Int} (hb : ∀ x ∈ by_, isL x g.len = true) (hl : g.len + L.length < 8000) (inp vals : List Bool)
    (hv : ∀ i, i < n → vals.getD i false = worth (g.nod inp) (by_.getD i 0)) : worth ((copyG g n L l by_).2.nod inp) (copyG g n L l by_).1 = worth (nodes n L vals) l := by
  have hx := isL_iff.1 hll
  have h := cp_val hm hr hb hl inp vals hv (l := l) L.length (Nat.le_refl _) (l / 2).toNat (by omega) (hangs_self hll)
  unfold copyG
  simp only
  unfold asL
  by_cases hp : l % 2 = 1
  · rw [if_pos hp, worth_not, h]
    unfold worth; rw [decide_eq_true hp]
    cases (nodes n L vals).getD (l / 2).toNat false <;> rfl
  · rw [if_neg hp, h]
    unfold worth; rw [decide_eq_false hp]
    cases (nodes n L vals).getD (l / 2).toNat false <;> rfl
end Go.Proofs.YtkjlgamggkencaaDoor
