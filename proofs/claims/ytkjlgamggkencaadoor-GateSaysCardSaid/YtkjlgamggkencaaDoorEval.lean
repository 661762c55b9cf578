/-
  What a circuit is worth, over lists alone; And keeps it; a circuit built anew is worth what it was.
-/
import Derived.Test.YtkjlgamggkencaaDoorGrLaws
namespace Go.Proofs.YtkjlgamggkencaaDoor

def worth (v : List Bool) (l : Int) : Bool := v.getD (l / 2).toNat false != decide (l % 2 = 1)
def valsN (n : Nat) (inp : List Bool) : List Bool := false :: (List.range n).map (fun i => inp.getD i false)
def more (v : List Bool) : List (Int × Int) → List Bool
  | [] => v
  | p :: r => more (v ++ [worth v p.1 && worth v p.2]) r
def nodes (n : Nat) (ands : List (Int × Int)) (inp : List Bool) : List Bool := more (valsN n inp) ands

theorem valsN_length (n : Nat) (inp : List Bool) : (valsN n inp).length = n + 1 := by simp [valsN]
theorem more_append (v : List Bool) (l r : List (Int × Int)) : more v (l ++ r) = more (more v l) r := by
  induction l generalizing v with
  | nil => rfl
  | cons p l ih => exact ih _
theorem more_length (v : List Bool) (l : List (Int × Int)) : (more v l).length = v.length + l.length := by
  induction l generalizing v with
  | nil => rfl
  | cons p l ih => rw [more, ih]; simp; omega
theorem more_prefix (v : List Bool) (l : List (Int × Int)) : ∃ u, more v l = v ++ u := by
  induction l generalizing v with
  | nil => exact ⟨[], by simp [more]⟩
  | cons p l ih => obtain ⟨u, hu⟩ := ih (v ++ [worth v p.1 && worth v p.2]); exact ⟨_ :: u, by rw [more, hu, List.append_assoc]; rfl⟩
theorem nodes_length (n : Nat) (l : List (Int × Int)) (inp : List Bool) : (nodes n l inp).length = n + 1 + l.length := by unfold nodes; rw [more_length, valsN_length]
theorem nodes_snoc (n : Nat) (l : List (Int × Int)) (p : Int × Int) (inp : List Bool) : nodes n (l ++ [p]) inp = nodes n l inp ++ [worth (nodes n l inp) p.1 && worth (nodes n l inp) p.2] := by
  unfold nodes; rw [more_append]; rfl

theorem worth_append {v u : List Bool} {l : Int} (h : (l / 2).toNat < v.length) : worth (v ++ u) l = worth v l := by
  unfold worth; simp [List.getD, List.getElem?_append_left h]
theorem worth_not (v : List Bool) (l : Int) : worth v (notL l) = !worth v l := by
  unfold worth notL
  rcases (show l % 2 = 0 ∨ l % 2 = 1 from by omega) with h | h
  · rw [if_pos h, show (l + 1) / 2 = l / 2 from by omega, show (l + 1) % 2 = 1 from by omega, h]
    cases v.getD (l / 2).toNat false <;> decide
  · rw [if_neg (by omega), show (l - 1) / 2 = l / 2 from by omega, show (l - 1) % 2 = 0 from by omega, h]
    cases v.getD (l / 2).toNat false <;> decide
theorem more_at (v : List Bool) (l : List (Int × Int)) (i : Nat) (p : Int × Int) (hi : l[i]? = some p) (h1 : (p.1 / 2).toNat < v.length + i) (h2 : (p.2 / 2).toNat < v.length + i) :
    (more v l).getD (v.length + i) false = (worth (more v l) p.1 && worth (more v l) p.2) := by
  obtain ⟨hlt, hp⟩ := List.getElem?_eq_some_iff.1 hi
  have hsplit : l = l.take i ++ (p :: l.drop (i + 1)) := by rw [← hp, ← List.drop_eq_getElem_cons hlt, List.take_append_drop]
  have hlen : (more v (l.take i)).length = v.length + i := by rw [more_length]; simp; omega
  have e : more v l = more (more v (l.take i) ++ [worth (more v (l.take i)) p.1 && worth (more v (l.take i)) p.2]) (l.drop (i + 1)) := by
    conv => lhs; rw [hsplit]
    rw [more_append]; rfl
  obtain ⟨u, hu⟩ := more_prefix (more v (l.take i) ++ [worth (more v (l.take i)) p.1 && worth (more v (l.take i)) p.2]) (l.drop (i + 1))
  rw [e, hu, List.append_assoc, worth_append (by omega), worth_append (by omega)]
  simp [List.getD, ← hlen]

/-- a right circuit's gates -/
def Right (n : Nat) (l : List (Int × Int)) : Prop := ∀ (i : Nat) (p : Int × Int), l[i]? = some p → 0 ≤ p.2 ∧ p.2 ≤ p.1 ∧ p.1 ≤ 2 * ((n : Int) + i) + 1
theorem Right.nil (n : Nat) : Right n [] := by intro i p h; simp at h
theorem Right.snoc {n : Nat} {l : List (Int × Int)} {p : Int × Int} (h : Right n l) (h1 : 0 ≤ p.2) (h2 : p.2 ≤ p.1) (h3 : p.1 ≤ 2 * ((n : Int) + l.length) + 1) : Right n (l ++ [p]) := by
  intro i q hq
  rw [List.getElem?_append] at hq
  split at hq
  · exact h i q hq
  · rename_i hi
    have : i - l.length = 0 := by
      rcases Nat.eq_zero_or_pos (i - l.length) with h | h
      · exact h
      · rw [List.getElem?_eq_none (by simp; omega)] at hq; cases hq
    rw [this] at hq
    simp at hq
    subst hq
    exact ⟨h1, h2, by omega⟩
theorem nodes_at {n : Nat} {l : List (Int × Int)} (hr : Right n l) (inp : List Bool) {i : Nat} {p : Int × Int} (hi : l[i]? = some p) :
    (nodes n l inp).getD (n + 1 + i) false = (worth (nodes n l inp) p.1 && worth (nodes n l inp) p.2) := by
  have := hr i p hi
  have h := more_at (valsN n inp) l i p hi (by rw [valsN_length]; omega) (by rw [valsN_length]; omega)
  rwa [valsN_length] at h

/-- a graph's gates are right, and none is plain -/
structure Made (n : Nat) (l : List (Int × Int)) : Prop where
  right : Right n l
  nodup : l.Nodup
  proper : ∀ p ∈ l, 2 ≤ p.2 ∧ p.1 ≠ p.2 ∧ p.1 ≠ notL p.2
theorem Made.nil (n : Nat) : Made n [] := ⟨Right.nil n, List.nodup_nil, by simp⟩

theorem and_cases {g : Gr} {a b : Int} (h1 : isL a g.len = true) (h2 : isL b g.len = true) (_ : g.len < 8000) : ∃ hi lo, lo ≤ hi ∧ ((hi = a ∧ lo = b) ∨ (hi = b ∧ lo = a)) ∧
    isL hi g.len = true ∧ isL lo g.len = true ∧ g.and a b = g.put hi lo := by
  by_cases h : b ≤ a
  · exact ⟨a, b, h, .inl ⟨rfl, rfl⟩, h1, h2, by unfold Gr.and; rw [if_pos h]⟩
  · exact ⟨b, a, by omega, .inr ⟨rfl, rfl⟩, h2, h1, by unfold Gr.and; rw [if_neg h]⟩

theorem and_made {g : Gr} {a b : Int} (hm : Made g.n g.ands) (h1 : isL a g.len = true) (h2 : isL b g.len = true) (hl : g.len < 8000) :
    Made (g.and a b).2.n (g.and a b).2.ands ∧ isL (g.and a b).1 (g.and a b).2.len = true ∧ ∃ u, (g.and a b).2.ands = g.ands ++ u := by
  obtain ⟨hi, lo, hle, ho, l1, l2, he⟩ := and_cases h1 h2 hl
  rw [he]
  have k1 := isL_iff.1 l1
  have k2 := isL_iff.1 l2
  rcases put_cases l1 l2 hl with ⟨_, e⟩ | ⟨_, _, e⟩ | ⟨_, _, _, e⟩ | ⟨_, _, _, _, e⟩ | ⟨_, _, _, _, i, hi', e⟩ | ⟨a1, a2, a3, a4, hn, e⟩
  · rw [e]; exact ⟨hm, by rw [isL_iff]; omega, [], by simp⟩
  · rw [e]; exact ⟨hm, l1, [], by simp⟩
  · rw [e]; exact ⟨hm, l1, [], by simp⟩
  · rw [e]; exact ⟨hm, by rw [isL_iff]; omega, [], by simp⟩
  · rw [e]
    have := (idx_lt hi').1
    exact ⟨hm, by rw [isL_iff]; simp only [Gr.len]; omega, [], by simp⟩
  · rw [e]
    refine ⟨⟨hm.right.snoc (by omega) hle (by simp only [Gr.len] at k1 k2; omega), ?_, ?_⟩, ?_, _, rfl⟩
    · rw [List.nodup_append]
      refine ⟨hm.nodup, by simp, ?_⟩
      intro x hx y hy
      simp at hy; subst hy
      rintro rfl
      exact idx_none.1 hn hx
    · intro p hp
      rcases List.mem_append.1 hp with hp | hp
      · exact hm.proper p hp
      · simp at hp; subst hp; exact ⟨by omega, a3, a4⟩
    · rw [len_more, isL_iff]; omega

/-- And is worth what it is named for -/
theorem and_worth {g : Gr} {a b : Int} (hr : Right g.n g.ands) (h1 : isL a g.len = true) (h2 : isL b g.len = true) (hl : g.len < 8000) (inp : List Bool) :
    (∃ u, nodes (g.and a b).2.n (g.and a b).2.ands inp = nodes g.n g.ands inp ++ u) ∧
    worth (nodes (g.and a b).2.n (g.and a b).2.ands inp) (g.and a b).1 = (worth (nodes g.n g.ands inp) a && worth (nodes g.n g.ands inp) b) := by
  obtain ⟨hi, lo, hle, ho, l1, l2, he⟩ := and_cases h1 h2 hl
  rw [he]
  have hw : (worth (nodes g.n g.ands inp) a && worth (nodes g.n g.ands inp) b) = (worth (nodes g.n g.ands inp) hi && worth (nodes g.n g.ands inp) lo) := by
    rcases ho with ⟨rfl, rfl⟩ | ⟨rfl, rfl⟩
    · rfl
    · rw [Bool.and_comm]
  rw [hw]
  clear hw ho h1 h2
  have k1 := isL_iff.1 l1
  have k2 := isL_iff.1 l2
  have hv0 : (nodes g.n g.ands inp).getD 0 false = false := by
    obtain ⟨u, hu⟩ := more_prefix (valsN g.n inp) g.ands
    unfold nodes; rw [hu]; simp [valsN]
  have w0 : worth (nodes g.n g.ands inp) 0 = false := by
    show ((nodes g.n g.ands inp).getD 0 false != decide ((0 : Int) % 2 = 1)) = false
    rw [hv0]; rfl
  have w1 : worth (nodes g.n g.ands inp) 1 = true := by
    show ((nodes g.n g.ands inp).getD 0 false != decide ((1 : Int) % 2 = 1)) = true
    rw [hv0]; rfl
  rcases put_cases l1 l2 hl with ⟨a1, e⟩ | ⟨_, a2, e⟩ | ⟨_, _, a3, e⟩ | ⟨_, _, _, a4, e⟩ | ⟨_, _, _, _, i, hi', e⟩ | ⟨a1, a2, a3, a4, hn, e⟩
  · rw [e]; exact ⟨⟨[], by simp⟩, by rw [a1, w0]; simp⟩
  · rw [e]; exact ⟨⟨[], by simp⟩, by rw [a2, w1]; simp⟩
  · rw [e]; exact ⟨⟨[], by simp⟩, by rw [← a3]; simp⟩
  · rw [e]; exact ⟨⟨[], by simp⟩, by rw [a4, worth_not, w0]; simp⟩
  · rw [e]
    refine ⟨⟨[], by simp⟩, ?_⟩
    have h := nodes_at hr inp (idx_lt hi').2
    simp only
    rw [← h]
    have e1 : (2 * ((g.n : Int) + i + 1)) / 2 = g.n + i + 1 := by omega
    have e2 : (2 * ((g.n : Int) + i + 1)) % 2 = 0 := by omega
    simp only [worth]
    rw [e1, e2, show ((g.n : Int) + i + 1).toNat = g.n + 1 + i from by omega]
    simp
  · rw [e]
    simp only
    rw [nodes_snoc]
    refine ⟨⟨_, rfl⟩, ?_⟩
    have e1 : (2 * ((g.len : Int) + 1)) / 2 = g.len + 1 := by omega
    have e2 : (2 * ((g.len : Int) + 1)) % 2 = 0 := by omega
    have key : ∀ (v : List Bool) (b : Bool) (l : Int), (l / 2).toNat = v.length → l % 2 = 0 → worth (v ++ [b]) l = b := by
      intro v b l h1 h2
      unfold worth
      rw [h1, h2]
      simp [List.getD]
    exact key _ _ _ (by rw [e1, nodes_length]; simp only [Gr.len]; omega) e2

/-- over an And a literal of before keeps its worth -/
theorem worth_kept {v u : List Bool} {l : Int} {n : Nat} (h : isL l n = true) (hv : v.length = n + 1) : worth (v ++ u) l = worth v l := worth_append (by have := isL_iff.1 h; omega)

/-! ### a circuit built anew -/
def asL (bys : List Int) (l : Int) : Int := if l % 2 = 1 then notL (bys.getD (l / 2).toNat 0) else bys.getD (l / 2).toNat 0
def bldStep (s : Gr × List Int) (p : Int × Int) : Gr × List Int := ((s.1.and (asL s.2 p.1) (asL s.2 p.2)).2, s.2 ++ [(s.1.and (asL s.2 p.1) (asL s.2 p.2)).1])
def bld0 (n : Nat) : Gr × List Int := (⟨n, [], 0⟩, (List.range (n + 1)).map fun (i : Nat) => 2 * (i : Int))
def bld (n : Nat) (l : List (Int × Int)) : Gr × List Int := l.foldl bldStep (bld0 n)

theorem asL_isL {bys : List Int} {l : Int} {N : Nat} (h : ∀ x ∈ bys, isL x N = true) : isL (asL bys l) N = true := by
  have h0 : isL (bys.getD (l / 2).toNat 0) N = true := by
    rw [List.getD]
    cases hg : bys[(l / 2).toNat]? with
    | none => rw [isL_iff]; simp; omega
    | some x => exact h x (List.mem_of_getElem? hg)
  unfold asL
  split
  · exact notL_range h0
  · exact h0

structure BInv (n : Nat) (l : List (Int × Int)) (s : Gr × List Int) : Prop where
  num : s.1.n = n
  bad : s.1.bad = 0
  made : Made s.1.n s.1.ands
  len : s.1.ands.length ≤ l.length
  lits : ∀ x ∈ s.2, isL x s.1.len = true
  many : s.2.length = n + 1 + l.length
  val : ∀ (inp : List Bool) (i : Nat), i < n + 1 + l.length → worth (nodes s.1.n s.1.ands inp) (s.2.getD i 0) = (nodes n l inp).getD i false

theorem asL_worth {n : Nat} {l : List (Int × Int)} {s : Gr × List Int} (h : BInv n l s) (inp : List Bool) {x : Int} (hx : (x / 2).toNat < n + 1 + l.length) :
    worth (nodes s.1.n s.1.ands inp) (asL s.2 x) = worth (nodes n l inp) x := by
  have := h.val inp _ hx
  unfold asL
  conv => rhs; unfold worth
  rw [← this]
  split
  · rename_i e; rw [worth_not]; simp [e]
  · rename_i e; simp [e]

theorem BInv.step {n : Nat} {l : List (Int × Int)} {s : Gr × List Int} {p : Int × Int} (h : BInv n l s) (hr : Right n (l ++ [p])) (hl : n + l.length < 8000) : BInv n (l ++ [p]) (bldStep s p) := by
  have hp := hr l.length p (by simp)
  have hg : s.1.len < 8000 := by have h1 := h.len; have h2 := h.num; show s.1.n + s.1.ands.length < 8000; omega
  have la := asL_isL (l := p.1) h.lits
  have lb := asL_isL (l := p.2) h.lits
  obtain ⟨q1, q2, q3, q4⟩ := and_snd la lb hg
  obtain ⟨m1, m2, u, m3⟩ := and_made h.made la lb hg
  have hlen : ∀ inp, (nodes s.1.n s.1.ands inp).length = s.1.len + 1 := fun inp => by rw [nodes_length]; show s.1.n + 1 + s.1.ands.length = s.1.n + s.1.ands.length + 1; omega
  refine ⟨q1.trans h.num, q2.trans h.bad, m1, ?_, ?_, ?_, ?_⟩
  · have h1 := h.len
    have e1 : (bldStep s p).1.n + (bldStep s p).1.ands.length ≤ s.1.n + s.1.ands.length + 1 := q4
    have e2 : (bldStep s p).1.n = s.1.n := q1
    simp; omega
  · intro x hx
    rcases List.mem_append.1 hx with hx | hx
    · have h1 := isL_iff.1 (h.lits x hx)
      rw [isL_iff]
      have e1 : s.1.len ≤ (bldStep s p).1.len := q3
      omega
    · simp at hx; subst hx; exact m2
  · have := h.many
    simp [bldStep]; omega
  · intro inp i hi
    obtain ⟨⟨t, ht⟩, w2⟩ := and_worth h.made.right la lb hg inp
    show worth (nodes (s.1.and (asL s.2 p.1) (asL s.2 p.2)).2.n (s.1.and (asL s.2 p.1) (asL s.2 p.2)).2.ands inp) ((s.2 ++ [(s.1.and (asL s.2 p.1) (asL s.2 p.2)).1]).getD i 0) = _
    rw [nodes_snoc]
    have hm := h.many
    have hnl : (nodes n l inp).length = n + 1 + l.length := nodes_length _ _ _
    by_cases hlt : i < n + 1 + l.length
    · have e1 : ∀ y, (s.2 ++ [y]).getD i 0 = s.2.getD i 0 := fun y => by simp [List.getD, List.getElem?_append_left (show i < s.2.length by omega)]
      have e2 : ∀ y, ((nodes n l inp) ++ [y]).getD i false = (nodes n l inp).getD i false := fun y => by simp [List.getD, List.getElem?_append_left (show i < (nodes n l inp).length by omega)]
      rw [e1, e2, ← h.val inp i hlt, ht]
      have hx : isL (s.2.getD i 0) s.1.len = true := h.lits _ (by rw [List.getD, List.getElem?_eq_getElem (by omega)]; simp)
      exact worth_kept hx (hlen inp)
    · have hi' : i = n + 1 + l.length := by simp at hi; omega
      have e1 : ∀ y, (s.2 ++ [y]).getD i 0 = y := fun y => by rw [hi', ← hm]; simp [List.getD]
      have e2 : ∀ y, ((nodes n l inp) ++ [y]).getD i false = y := fun y => by rw [hi', ← hnl]; simp [List.getD]
      rw [e1, e2, w2, asL_worth h inp (by omega), asL_worth h inp (by omega)]

theorem BInv.zero (n : Nat) : BInv n [] (bld0 n) := by
  refine ⟨rfl, rfl, Made.nil n, Nat.le_refl _, ?_, by simp [bld0], ?_⟩
  · intro x hx
    simp [bld0] at hx
    obtain ⟨i, hi, rfl⟩ := hx
    rw [isL_iff]; show (0 : Int) ≤ 2 * (i : Int) ∧ 2 * (i : Int) ≤ 2 * ((n + 0 : Nat) : Int) + 1; omega
  · intro inp i hi
    have hi' : i < n + 1 := by simpa using hi
    have e1 : (bld0 n).2.getD i 0 = 2 * (i : Int) := by simp [bld0, List.getD, hi']
    rw [e1]
    show worth (nodes n [] inp) _ = _
    unfold worth
    rw [show 2 * (i : Int) / 2 = i from by omega, show 2 * (i : Int) % 2 = 0 from by omega]
    simp

theorem snocRec {α : Type} {C : List α → Prop} (nil : C []) (more : ∀ l p, C l → C (l ++ [p])) : ∀ l, C l := by
  intro l
  have : ∀ r : List α, C r.reverse := by
    intro r
    induction r with
    | nil => exact nil
    | cons x r ih => rw [List.reverse_cons]; exact more _ _ ih
  have := this l.reverse
  rwa [List.reverse_reverse] at this
theorem bld_snoc (n : Nat) (l : List (Int × Int)) (p : Int × Int) : bld n (l ++ [p]) = bldStep (bld n l) p := by simp [bld, List.foldl_append]
theorem Right.front {n : Nat} {l : List (Int × Int)} {u : List (Int × Int)} (h : Right n (l ++ u)) : Right n l := fun i p hp => h i p (by rw [List.getElem?_append_left (List.getElem?_eq_some_iff.1 hp).1]; exact hp)
theorem bld_inv {n : Nat} : ∀ {l : List (Int × Int)}, Right n l → n + l.length ≤ 8000 → BInv n l (bld n l) := by
  intro l
  induction l using snocRec with
  | nil => intro _ _; exact BInv.zero n
  | more l p ih =>
    intro hr hl
    rw [bld_snoc]
    simp at hl
    exact (ih hr.front (by omega)).step hr (by omega)

/-- of what a graph made it is that -/
theorem bld_made {n : Nat} : ∀ {l : List (Int × Int)}, Made n l → n + l.length ≤ 8000 → bld n l = (⟨n, l, 0⟩, (List.range (n + 1 + l.length)).map fun (i : Nat) => 2 * (i : Int)) := by
  intro l
  induction l using snocRec with
  | nil => intro _ _; rfl
  | more l p ih =>
    intro hm hl
    simp at hl
    have hm' : Made n l := ⟨hm.right.front, (List.nodup_append.1 hm.nodup).1, fun q hq => hm.proper q (List.mem_append_left _ hq)⟩
    rw [bld_snoc, ih hm' (by omega)]
    have hp := hm.right l.length p (by simp)
    obtain ⟨k1, k2, k3⟩ := hm.proper p (by simp)
    have has : ∀ x : Int, 0 ≤ x → x ≤ 2 * ((n : Int) + l.length) + 1 → asL ((List.range (n + 1 + l.length)).map fun (i : Nat) => 2 * (i : Int)) x = x := by
      intro x h0 h1
      have : ((List.range (n + 1 + l.length)).map fun (i : Nat) => 2 * (i : Int)).getD (x / 2).toNat 0 = 2 * (x / 2) := by
        rw [List.getD, List.getElem?_map, List.getElem?_range (by omega)]
        simp; omega
      unfold asL
      rw [this]
      unfold notL
      split
      · rw [if_pos (by omega)]; omega
      · omega
    have h1 := has p.1 (by omega) (by omega)
    have h2 := has p.2 (by omega) (by omega)
    simp only [bldStep, h1, h2]
    have hlen : (⟨n, l, 0⟩ : Gr).len = n + l.length := rfl
    have l1 : isL p.1 (⟨n, l, 0⟩ : Gr).len = true := by rw [isL_iff, hlen]; omega
    have l2 : isL p.2 (⟨n, l, 0⟩ : Gr).len = true := by rw [isL_iff, hlen]; omega
    have hnot : p ∉ l := by
      intro h
      have := (List.nodup_append.1 hm.nodup).2.2 p h p (by simp)
      exact this rfl
    have hput : (⟨n, l, 0⟩ : Gr).and p.1 p.2 = (2 * (((n + l.length : Nat) : Int) + 1), ⟨n, l ++ [p], 0⟩) := by
      unfold Gr.and
      rw [if_pos hp.2.1, put_in l1 l2, if_neg (by omega), if_neg (by rintro (e | e) <;> omega), if_neg k3]
      rw [show idx (p.1, p.2) l = none from idx_none.2 hnot]
      simp only
      rw [if_neg (by rw [hlen]; omega)]
      rfl
    rw [hput]
    simp only [List.length_append, List.length_singleton]
    rw [show n + 1 + (l.length + 1) = (n + 1 + l.length) + 1 from by omega, List.range_succ, List.map_append]
    simp only [List.map_cons, List.map_nil]
    congr 4
    omega

end Go.Proofs.YtkjlgamggkencaaDoor
