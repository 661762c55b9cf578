/-
  What a circuit is worth, over lists alone; And keeps it; a circuit built anew is worth what it was.
-/
import Derived.Test.YtkjlgamggkencaaDoorMGr
namespace Go.Proofs.YtkjlgamggkencaaDoor

def worth (v : List Bool) (l : Int) : Bool := v.getD (l / 2).toNat false != decide (l % 2 = 1)
def valsN (n : Nat) (inp : List Bool) : List Bool := false :: (List.range n).map (fun i => inp.getD i false)
def more (v : List Bool) : List (Int × Int) → List Bool
  | [] => v
  | p :: r => more (v ++ [worth v p.1 && worth v p.2]) r
def nodes (n : Nat) (ands : List (Int × Int)) (inp : List Bool) : List Bool := more (valsN n inp) ands

theorem valsN_length (n : Nat) (inp : List Bool) : (valsN n inp).length = n + 1 := by simp [valsN]
theorem more_append (v : List Bool) (l r : List (Int × Int)) : more v (l ++ r) = more (more v l) r := by
  induction l generalizing v with
  | nil => rfl
  | cons p l ih => exact ih _
theorem more_length (v : List Bool) (l : List (Int × Int)) : (more v l).length = v.length + l.length := by
  induction l generalizing v with
  | nil => rfl
  | cons p l ih => rw [more, ih]; simp; omega
theorem more_prefix (v : List Bool) (l : List (Int × Int)) : ∃ u, more v l = v ++ u := by
  induction l generalizing v with
  | nil => exact ⟨[], by simp [more]⟩
  | cons p l ih => obtain ⟨u, hu⟩ := ih (v ++ [worth v p.1 && worth v p.2]); exact ⟨_ :: u, by rw [more, hu, List.append_assoc]; rfl⟩
theorem nodes_length (n : Nat) (l : List (Int × Int)) (inp : List Bool) : (nodes n l inp).length = n + 1 + l.length := by unfold nodes; rw [more_length, valsN_length]
theorem nodes_snoc (n : Nat) (l : List (Int × Int)) (p : Int × Int) (inp : List Bool) : nodes n (l ++ [p]) inp = nodes n l inp ++ [worth (nodes n l inp) p.1 && worth (nodes n l inp) p.2] := by
  unfold nodes; rw [more_append]; rfl

theorem worth_append {v u : List Bool} {l : Int} (h : (l / 2).toNat < v.length) : worth (v ++ u) l = worth v l := by
  unfold worth; simp [List.getD, List.getElem?_append_left h]
theorem worth_not (v : List Bool) (l : Int) : worth v (notL l) = !worth v l := by
  unfold worth notL
  rcases (show l % 2 = 0 ∨ l % 2 = 1 from by omega) with h | h
  · rw [if_pos h, show (l + 1) / 2 = l / 2 from by omega, show (l + 1) % 2 = 1 from by omega, h]
    cases v.getD (l / 2).toNat false <;> decide
  · rw [if_neg (by omega), show (l - 1) / 2 = l / 2 from by omega, show (l - 1) % 2 = 0 from by omega, h]
    cases v.getD (l / 2).toNat false <;> decide
theorem more_at (v : List Bool) (l : List (Int × Int)) (i : Nat) (p : Int × Int) (hi : l[i]? = some p) (h1 : (p.1 / 2).toNat < v.length + i) (h2 : (p.2 / 2).toNat < v.length + i) :
    (more v l).getD (v.length + i) false = (worth (more v l) p.1 && worth (more v l) p.2) := by
  obtain ⟨hlt, hp⟩ := List.getElem?_eq_some_iff.1 hi
  have hsplit : l = l.take i ++ (p :: l.drop (i + 1)) := by rw [← hp, ← List.drop_eq_getElem_cons hlt, List.take_append_drop]
  have hlen : (more v (l.take i)).length = v.length + i := by rw [more_length]; simp; omega
  have e : more v l = more (more v (l.take i) ++ [worth (more v (l.take i)) p.1 && worth (more v (l.take i)) p.2]) (l.drop (i + 1)) := by
    conv => lhs; rw [hsplit]
    rw [more_append]; rfl
  obtain ⟨u, hu⟩ := more_prefix (more v (l.take i) ++ [worth (more v (l.take i)) p.1 && worth (more v (l.take i)) p.2]) (l.drop (i + 1))
  rw [e, hu, List.append_assoc, worth_append (by omega), worth_append (by omega)]
  simp [List.getD, ← hlen]

/-- a right circuit's gates -/
def Right (n : Nat) (l : List (Int × Int)) : Prop := ∀ (i : Nat) (p : Int × Int), l[i]? = some p → 0 ≤ p.2 ∧ p.2 ≤ p.1 ∧ p.1 ≤ 2 * ((n : Int) + i) + 1
theorem Right.nil (n : Nat) : Right n [] := by intro i p h; simp at h
theorem Right.snoc {n : Nat} {l : List (Int × Int)} {p : Int × Int} (h : Right n l) (h1 : 0 ≤ p.2) (h2 : p.2 ≤ p.1) (h3 : p.1 ≤ 2 * ((n : Int) + l.length) + 1) : Right n (l ++ [p]) := by
  intro i q hq
  rw [List.getElem?_append] at hq
  split at hq
  · exact h i q hq
  · rename_i hi
    have : i - l.length = 0 := by
      rcases Nat.eq_zero_or_pos (i - l.length) with h | h
      · exact h
      · rw [List.getElem?_eq_none (by simp; omega)] at hq; cases hq
    rw [this] at hq
    simp at hq
    subst hq
    exact ⟨h1, h2, by omega⟩
theorem nodes_at {n : Nat} {l : List (Int × Int)} (hr : Right n l) (inp : List Bool) {i : Nat} {p : Int × Int} (hi : l[i]? = some p) :
    (nodes n l inp).getD (n + 1 + i) false = (worth (nodes n l inp) p.1 && worth (nodes n l inp) p.2) := by
  have := hr i p hi
  have h := more_at (valsN n inp) l i p hi (by rw [valsN_length]; omega) (by rw [valsN_length]; omega)
  rwa [valsN_length] at h

/-- a graph's gates are right, and none is plain -/
structure Made (n : Nat) (l : List (Int × Int)) : Prop where
  right : Right n l
  nodup : l.Nodup
  proper : ∀ p ∈ l, 2 ≤ p.2 ∧ p.1 ≠ p.2 ∧ p.1 ≠ notL p.2
theorem Made.nil (n : Nat) : Made n [] := ⟨Right.nil n, List.nodup_nil, by simp⟩

theorem and_cases {g : Gr} {a b : Int} (h1 : isL a g.len = true) (h2 : isL b g.len = true) (_ : g.len < 8000) : ∃ hi lo, lo ≤ hi ∧ ((hi = a ∧ lo = b) ∨ (hi = b ∧ lo = a)) ∧
    isL hi g.len = true ∧ isL lo g.len = true ∧ g.and a b = g.put hi lo := by
  by_cases h : b ≤ a
  · exact ⟨a, b, h, .inl ⟨rfl, rfl⟩, h1, h2, by unfold Gr.and; rw [if_pos h]⟩
  · exact ⟨b, a, by omega, .inr ⟨rfl, rfl⟩, h2, h1, by unfold Gr.and; rw [if_neg h]⟩

theorem and_made {g : Gr} {a b : Int} (hm : Made g.n g.ands) (h1 : isL a g.len = true) (h2 : isL b g.len = true) (hl : g.len < 8000) :
    Made (g.and a b).2.n (g.and a b).2.ands ∧ isL (g.and a b).1 (g.and a b).2.len = true ∧ ∃ u, (g.and a b).2.ands = g.ands ++ u := by
  obtain ⟨hi, lo, hle, ho, l1, l2, he⟩ := and_cases h1 h2 hl
  rw [he]
  have k1 := isL_iff.1 l1
  have k2 := isL_iff.1 l2
  rcases put_cases l1 l2 hl with ⟨_, e⟩ | ⟨_, _, e⟩ | ⟨_, _, _, e⟩ | ⟨_, _, _, _, e⟩ | ⟨_, _, _, _, i, hi', e⟩ | ⟨a1, a2, a3, a4, hn, e⟩
  · rw [e]; exact ⟨hm, by rw [isL_iff]; omega, [], by simp⟩
  · rw [e]; exact ⟨hm, l1, [], by simp⟩
  · rw [e]; exact ⟨hm, l1, [], by simp⟩
  · rw [e]; exact ⟨hm, by rw [isL_iff]; omega, [], by simp⟩
  · rw [e]
    have := (idx_lt hi').1
    exact ⟨hm, by rw [isL_iff]; simp only [Gr.len]; omega, [], by simp⟩
  · rw [e]
    refine ⟨⟨hm.right.snoc (by omega) hle (by simp only [Gr.len] at k1 k2; omega), ?_, ?_⟩, ?_, _, rfl⟩
    · rw [List.nodup_append]
      refine ⟨hm.nodup, by simp, ?_⟩
      intro x hx y hy
      simp at hy; subst hy
      rintro rfl
      exact idx_none.1 hn hx
    · intro p hp
      rcases List.mem_append.1 hp with hp | hp
      · exact hm.proper p hp
      · simp at hp; subst hp; exact ⟨by omega, a3, a4⟩
    · rw [len_more, isL_iff]; omega

/-- And is worth what it is named for -/
theorem and_worth {g : Gr} {a b : Int} (hr : Right g.n g.ands) (h1 : isL a g.len = true) (h2 : isL b g.len = true) (hl : g.len < 8000) (inp : List Bool) :
    (∃ u, nodes (g.and a b).2.n (g.and a b).2.ands inp = nodes g.n g.ands inp ++ u) ∧
    worth (nodes (g.and a b).2.n (g.and a b).2.ands inp) (g.and a b).1 = (worth (nodes g.n g.ands inp) a && worth (nodes g.n g.ands inp) b) := by
  obtain ⟨hi, lo, hle, ho, l1, l2, he⟩ := and_cases h1 h2 hl
  rw [he]
  have hw : (worth (nodes g.n g.ands inp) a && worth (nodes g.n g.ands inp) b) = (worth (nodes g.n g.ands inp) hi && worth (nodes g.n g.ands inp) lo) := by
    rcases ho with ⟨rfl, rfl⟩ | ⟨rfl, rfl⟩
    · rfl
    · rw [Bool.and_comm]
  rw [hw]
  clear hw ho h1 h2
  have k1 := isL_iff.1 l1
  have k2 := isL_iff.1 l2
  have hv0 : (nodes g.n g.ands inp).getD 0 false = false := by
    obtain ⟨u, hu⟩ := more_prefix (valsN g.n inp) g.ands
    unfold nodes; rw [hu]; simp [valsN]
  have w0 : worth (nodes g.n g.ands inp) 0 = false := by
    show ((nodes g.n g.ands inp).getD 0 false != decide ((0 : Int) % 2 = 1)) = false
    rw [hv0]; rfl
  have w1 : worth (nodes g.n g.ands inp) 1 = true := by
    show ((nodes g.n g.ands inp).getD 0 false != decide ((1 : Int) % 2 = 1)) = true
    rw [hv0]; rfl
  rcases put_cases l1 l2 hl with ⟨a1, e⟩ | ⟨_, a2, e⟩ | ⟨_, _, a3, e⟩ | ⟨_, _, _, a4, e⟩ | ⟨_, _, _, _, i, hi', e⟩ | ⟨a1, a2, a3, a4, hn, e⟩
  · rw [e]; exact ⟨⟨[], by simp⟩, by rw [a1, w0]; simp⟩
  · rw [e]; exact ⟨⟨[], by simp⟩, by rw [a2, w1]; simp⟩
  · rw [e]; exact ⟨⟨[], by simp⟩, by rw [← a3]; simp⟩
  · rw [e]; exact ⟨⟨[], by simp⟩, by rw [a4, worth_not, w0]; simp⟩
  · rw [e]
    refine ⟨⟨[], by simp⟩, ?_⟩
    have h := nodes_at hr inp (idx_lt hi').2
    simp only
    rw [← h]
    have e1 : (2 * ((g.n : Int) + i + 1)) / 2 = g.n + i + 1 := by omega
    have e2 : (2 * ((g.n : Int) + i + 1)) % 2 = 0 := by omega
    simp only [worth]
    rw [e1, e2, show ((g.n : Int) + i + 1).toNat = g.n + 1 + i from by omega]
    simp
  · rw [e]
    simp only
    rw [nodes_snoc]
    refine ⟨⟨_, rfl⟩, ?_⟩
    have e1 : (2 * ((g.len : Int) + 1)) / 2 = g.len + 1 := by omega
    have e2 : (2 * ((g.len : Int) + 1)) % 2 = 0 := by omega
    have key : ∀ (v : List Bool) (b : Bool) (l : Int), (l / 2).toNat = v.length → l % 2 = 0 → worth (v ++ [b]) l = b := by
      intro v b l h1 h2
      unfold worth
      rw [h1, h2]
      simp [List.getD]
    exact key _ _ _ (by rw [e1, nodes_length]; simp only [Gr.len]; omega) e2

/-- over an And a literal of before keeps its worth -/
theorem worth_kept {v u : List Bool} {l : Int} {n : Nat} (h : isL l n = true) (hv : v.length = n + 1) : worth (v ++ u) l = worth v l := worth_append (by have := isL_iff.1 h; omega)

/-! ### a circuit built anew -/
def asL (bys : List Int) (l : Int) : Int := if l % 2 = 1 then notL (bys.getD (l / 2).toNat 0) else bys.getD (l / 2).toNat 0
def bldStep (s : Gr × List Int) (p : Int × Int) : Gr × List Int := ((s.1.and (asL s.2 p.1) (asL s.2 p.2)).2, s.2 ++ [(s.1.and (asL s.2 p.1) (asL s.2 p.2)).1])
def bld0 (n : Nat) : Gr × List Int := (⟨n, [], 0⟩, (List.range (n + 1)).map fun (i : Nat) => 2 * (i : Int))
def bld (n : Nat) (l : List (Int × Int)) : Gr × List Int := l.foldl bldStep (bld0 n)

theorem asL_isL {bys : List Int} {l : Int} {N : Nat} (h : ∀ x ∈ bys, isL x N = true) : isL (asL bys l) N = true := by
  have h0 : isL (bys.getD (l / 2).toNat 0) N = true := by
    rw [List.getD]
    cases hg : bys[(l / 2).toNat]? with
    | none => rw [isL_iff]; simp; omega
    | some x => exact h x (List.mem_of_getElem? hg)
  unfold asL
  split
  · exact notL_range h0
  · exact h0

structure BInv (n : Nat) (l : List (Int × Int)) (s : Gr × List Int) : Prop where
  num : s.1.n = n
  bad : s.1.bad = 0
  made : Made s.1.n s.1.ands
  len : s.1.ands.length ≤ l.length
  lits : ∀ x ∈ s.2, isL x s.1.len = true
  many : s.2.length = n + 1 + l.length
  val : ∀ (inp : List Bool) (i : Nat), i < n + 1 + l.length → worth (nodes s.1.n s.1.ands inp) (s.2.getD i 0) = (nodes n l inp).getD i false

theorem asL_worth {n : Nat} {l : List (Int × Int)} {s : Gr × List Int} (h : BInv n l s) (inp : List Bool) {x : Int} (hx : (x / 2).toNat < n + 1 + l.length) :
    worth (nodes s.1.n s.1.ands inp) (asL s.2 x) = worth (nodes n l inp) x := by
  have := h.val inp _ hx
  unfold asL
  conv => rhs; unfold worth
  rw [← this]
  split
  · rename_i e; rw [worth_not]; simp [e]
  · rename_i e; simp [e]

theorem BInv.step {n : Nat} {l : List (Int × Int)} {s : Gr × List Int} {p : Int × Int} (h : BInv n l s) (hr : Right n (l ++ [p])) (hl : n + l.length < 8000) : BInv n (l ++ [p]) (bldStep s p) := by
  have hp := hr l.length p (by simp)
  have hg : s.1.len < 8000 := by have h1 := h.len; have h2 := h.num; show s.1.n + s.1.ands.length < 8000; omega
  have la := asL_isL (l := p.1) h.lits
  have lb := asL_isL (l := p.2) h.lits
  obtain ⟨q1, q2, q3, q4⟩ := and_snd la lb hg
  obtain ⟨m1, m2, u, m3⟩ := and_made h.made la lb hg
  have hlen : ∀ inp, (nodes s.1.n s.1.ands inp).length = s.1.len + 1 := fun inp => by rw [nodes_length]; show s.1.n + 1 + s.1.ands.length = s.1.n + s.1.ands.length + 1; omega
  refine ⟨q1.trans h.num, q2.trans h.bad, m1, ?_, ?_, ?_, ?_⟩
  · have h1 := h.len
    have e1 : (bldStep s p).1.n + (bldStep s p).1.ands.length ≤ s.1.n + s.1.ands.length + 1 := q4
    have e2 : (bldStep s p).1.n = s.1.n := q1
    simp; omega
  · intro x hx
    rcases List.mem_append.1 hx with hx | hx
    · have h1 := isL_iff.1 (h.lits x hx)
      rw [isL_iff]
      have e1 : s.1.len ≤ (bldStep s p).1.len := q3
      omega
    · simp at hx; subst hx; exact m2
  · have := h.many
    simp [bldStep]; omega
  · intro inp i hi
    obtain ⟨⟨t, ht⟩, w2⟩ := and_worth h.made.right la lb hg inp
    show worth (nodes (s.1.and (asL s.2 p.1) (asL s.2 p.2)).2.n (s.1.and (asL s.2 p.1) (asL s.2 p.2)).2.ands inp) ((s.2 ++ [(s.1.and (asL s.2 p.1) (asL s.2 p.2)).1]).getD i 0) = _
    rw [nodes_snoc]
    have hm := h.many
    have hnl : (nodes n l inp).length = n + 1 + l.length := nodes_length _ _ _
    by_cases hlt : i < n + 1 + l.length
    · have e1 : ∀ y, (s.2 ++ [y]).getD i 0 = s.2.getD i 0 := fun y => by simp [List.getD, List.getElem?_append_left (show i < s.2.length by omega)]
      have e2 : ∀ y, ((nodes n l inp) ++ [y]).getD i false = (nodes n l inp).getD i false := fun y => by simp [List.getD, List.getElem?_append_left (show i < (nodes n l inp).length by omega)]
      rw [e1, e2, ← h.val inp i hlt, ht]
      have hx : isL (s.2.getD i 0) s.1.len = true := h.lits _ (by rw [List.getD, List.getElem?_eq_getElem (by omega)]; simp)
      exact worth_kept hx (hlen inp)
    · have hi' : i = n + 1 + l.length := by simp at hi; omega
      have e1 : ∀ y, (s.2 ++ [y]).getD i 0 = y := fun y => by rw [hi', ← hm]; simp [List.getD]
      have e2 : ∀ y, ((nodes n l inp) ++ [y]).getD i false = y := fun y => by rw [hi', ← hnl]; simp [List.getD]
      rw [e1, e2, w2, asL_worth h inp (by omega), asL_worth h inp (by omega)]

theorem BInv.zero (n : Nat) : BInv n [] (bld0 n) := by
  refine ⟨rfl, rfl, Made.nil n, Nat.le_refl _, ?_, by simp [bld0], ?_⟩
  · intro x hx
    simp [bld0] at hx
    obtain ⟨i, hi, rfl⟩ := hx
    rw [isL_iff]; show (0 : Int) ≤ 2 * (i : Int) ∧ 2 * (i : Int) ≤ 2 * ((n + 0 : Nat) : Int) + 1; omega
  · intro inp i hi
    have hi' : i < n + 1 := by simpa using hi
    have e1 : (bld0 n).2.getD i 0 = 2 * (i : Int) := by simp [bld0, List.getD, hi']
    rw [e1]
    show worth (nodes n [] inp) _ = _
    unfold worth
    rw [show 2 * (i : Int) / 2 = i from by omega, show 2 * (i : Int) % 2 = 0 from by omega]
    simp

theorem snocRec {α : Type} {C : List α → Prop} (nil : C []) (more : ∀ l p, C l → C (l ++ [p])) : ∀ l, C l := by
  intro l
  have : ∀ r : List α, C r.reverse := by
    intro r
    induction r with
    | nil => exact nil
    | cons x r ih => rw [List.reverse_cons]; exact more _ _ ih
  have := this l.reverse
  rwa [List.reverse_reverse] at this
theorem bld_snoc (n : Nat) (l : List (Int × Int)) (p : Int × Int) : bld n (l ++ [p]) = bldStep (bld n l) p := by simp [bld, List.foldl_append]
theorem Right.front {n : Nat} {l : List (Int × Int)} {u : List (Int × Int)} (h : Right n (l ++ u)) : Right n l := fun i p hp => h i p (by rw [List.getElem?_append_left (List.getElem?_eq_some_iff.1 hp).1]; exact hp)
theorem bld_inv {n : Nat} : ∀ {l : List (Int × Int)}, Right n l → n + l.length ≤ 8000 → BInv n l (bld n l) := by
  intro l
  induction l using snocRec with
  | nil => intro _ _; exact BInv.zero n
  | more l p ih =>
    intro hr hl
    rw [bld_snoc]
    simp at hl
    exact (ih hr.front (by omega)).step hr (by omega)

/-- of what a graph made it is that -/
theorem bld_made {n : Nat} : ∀ {l : List (Int × Int)}, Made n l → n + l.length ≤ 8000 → bld n l = (⟨n, l, 0⟩, (List.range (n + 1 + l.length)).map fun (i : Nat) => 2 * (i : Int)) := by
  intro l
  induction l using snocRec with
  | nil => intro _ _; rfl
  | more l p ih =>
    intro hm hl
    simp at hl
    have hm' : Made n l := ⟨hm.right.front, (List.nodup_append.1 hm.nodup).1, fun q hq => hm.proper q (List.mem_append_left _ hq)⟩
    rw [bld_snoc, ih hm' (by omega)]
    have hp := hm.right l.length p (by simp)
    obtain ⟨k1, k2, k3⟩ := hm.proper p (by simp)
    have has : ∀ x : Int, 0 ≤ x → x ≤ 2 * ((n : Int) + l.length) + 1 → asL ((List.range (n + 1 + l.length)).map fun (i : Nat) => 2 * (i : Int)) x = x := by
      intro x h0 h1
      have : ((List.range (n + 1 + l.length)).map fun (i : Nat) => 2 * (i : Int)).getD (x / 2).toNat 0 = 2 * (x / 2) := by
        rw [List.getD, List.getElem?_map, List.getElem?_range (by omega)]
        simp; omega
      unfold asL
      rw [this]
      unfold notL
      split
      · rw [if_pos (by omega)]; omega
      · omega
    have h1 := has p.1 (by omega) (by omega)
    have h2 := has p.2 (by omega) (by omega)
    simp only [bldStep, h1, h2]
    have hlen : (⟨n, l, 0⟩ : Gr).len = n + l.length := rfl
    have l1 : isL p.1 (⟨n, l, 0⟩ : Gr).len = true := by rw [isL_iff, hlen]; omega
    have l2 : isL p.2 (⟨n, l, 0⟩ : Gr).len = true := by rw [isL_iff, hlen]; omega
    have hnot : p ∉ l := by
      intro h
      have := (List.nodup_append.1 hm.nodup).2.2 p h p (by simp)
      exact this rfl
    have hput : (⟨n, l, 0⟩ : Gr).and p.1 p.2 = (2 * (((n + l.length : Nat) : Int) + 1), ⟨n, l ++ [p], 0⟩) := by
      unfold Gr.and
      rw [if_pos hp.2.1, put_in l1 l2, if_neg (by omega), if_neg (by rintro (e | e) <;> omega), if_neg k3]
      rw [show idx (p.1, p.2) l = none from idx_none.2 hnot]
      simp only
      rw [if_neg (by rw [hlen]; omega)]
      rfl
    rw [hput]
    simp only [List.length_append, List.length_singleton]
    rw [show n + 1 + (l.length + 1) = (n + 1 + l.length) + 1 from by omega, List.range_succ, List.map_append]
    simp only [List.map_cons, List.map_nil]
    congr 4
    omega

end Go.Proofs.YtkjlgamggkencaaDoor

namespace Go.Proofs.YtkjlgamggkencaaDoor

def Gr.nod (g : Gr) (inp : List Bool) : List Bool := nodes g.n g.ands inp
theorem nod_length (g : Gr) (inp : List Bool) : (g.nod inp).length = g.len + 1 := by unfold Gr.nod; rw [nodes_length]; unfold Gr.len; omega

/-- g' is g with k gates more at most -/
structure Up (g g' : Gr) (k : Nat) : Prop where
  num : g'.n = g.n
  bad : g'.bad = g.bad
  made : Made g'.n g'.ands
  low : g.len ≤ g'.len
  high : g'.len ≤ g.len + k
  ext : ∀ inp, ∃ u, g'.nod inp = g.nod inp ++ u
/-- literal l of g is worth b -/
structure Lv (g : Gr) (inp : List Bool) (l : Int) (b : Bool) : Prop where
  lit : isL l g.len = true
  val : worth (g.nod inp) l = b

theorem Up.refl {g : Gr} (h : Made g.n g.ands) : Up g g 0 := ⟨rfl, rfl, h, Nat.le_refl _, Nat.le_refl _, fun _ => ⟨[], by simp⟩⟩
theorem Up.trans {g g1 g2 : Gr} {k1 k2 : Nat} (h1 : Up g g1 k1) (h2 : Up g1 g2 k2) : Up g g2 (k1 + k2) := by
  refine ⟨h2.num.trans h1.num, h2.bad.trans h1.bad, h2.made, Nat.le_trans h1.low h2.low, ?_, fun inp => ?_⟩
  · have := h1.high; have := h2.high; omega
  · obtain ⟨u, hu⟩ := h1.ext inp
    obtain ⟨t, ht⟩ := h2.ext inp
    exact ⟨u ++ t, by rw [ht, hu, List.append_assoc]⟩
theorem Up.mono {g g' : Gr} {k k' : Nat} (h : Up g g' k) (hk : k ≤ k') : Up g g' k' := ⟨h.num, h.bad, h.made, h.low, Nat.le_trans h.high (by omega), h.ext⟩
theorem Up.isL {g g' : Gr} {k : Nat} (h : Up g g' k) {l : Int} (hl : isL l g.len = true) : isL l g'.len = true := by
  have := h.low; rw [isL_iff] at hl ⊢; omega
theorem Up.lv {g g' : Gr} {k : Nat} (h : Up g g' k) {inp : List Bool} {l : Int} {b : Bool} (hl : Lv g inp l b) : Lv g' inp l b := by
  refine ⟨h.isL hl.lit, ?_⟩
  obtain ⟨u, hu⟩ := h.ext inp
  rw [hu, worth_kept hl.lit (nod_length g inp)]
  exact hl.val

theorem and_up {g : Gr} {a b : Int} (hm : Made g.n g.ands) (h1 : isL a g.len = true) (h2 : isL b g.len = true) (hl : g.len < 8000) : Up g (g.and a b).2 1 := by
  obtain ⟨q1, q2, q3, q4⟩ := and_snd h1 h2 hl
  exact ⟨q1, q2, (and_made hm h1 h2 hl).1, q3, q4, fun inp => (and_worth hm.right h1 h2 hl inp).1⟩
theorem and_isL {g : Gr} {a b : Int} (hm : Made g.n g.ands) (h1 : isL a g.len = true) (h2 : isL b g.len = true) (hl : g.len < 8000) : isL (g.and a b).1 (g.and a b).2.len = true := (and_made hm h1 h2 hl).2.1
theorem and_lv {g : Gr} {a b : Int} {inp : List Bool} {x y : Bool} (hm : Made g.n g.ands) (h1 : Lv g inp a x) (h2 : Lv g inp b y) (hl : g.len < 8000) : Lv (g.and a b).2 inp (g.and a b).1 (x && y) :=
  ⟨and_isL hm h1.lit h2.lit hl, by rw [← h1.val, ← h2.val]; exact (and_worth hm.right h1.lit h2.lit hl inp).2⟩
theorem not_lv {g : Gr} {a : Int} {inp : List Bool} {x : Bool} (h : Lv g inp a x) : Lv g inp (notL a) (!x) := ⟨notL_range h.lit, by rw [worth_not, h.val]⟩
theorem one_lv (g : Gr) (inp : List Bool) : Lv g inp 1 true := by
  refine ⟨by rw [isL_iff]; omega, ?_⟩
  obtain ⟨u, hu⟩ := more_prefix (valsN g.n inp) g.ands
  show ((g.nod inp).getD 0 false != decide ((1 : Int) % 2 = 1)) = true
  unfold Gr.nod nodes
  rw [hu]; simp [valsN]

def orG (g : Gr) (a b : Int) : Int × Gr := (notL (g.and (notL a) (notL b)).1, (g.and (notL a) (notL b)).2)
def xorG (g : Gr) (a b : Int) : Int × Gr :=
  let r1 := g.and a b
  let r2 := r1.2.and (notL a) (notL b)
  r2.2.and (notL r1.1) (notL r2.1)
def muxG (g : Gr) (c a b : Int) : Int × Gr :=
  let r1 := g.and c a
  let r2 := r1.2.and (notL c) b
  orG r2.2 r1.1 r2.1
def allStep (s : Int × Gr) (x : Int) : Int × Gr := s.2.and s.1 x
def allG (g : Gr) (l : List Int) : Int × Gr := l.foldl allStep (1, g)
def anyG (g : Gr) (l : List Int) : Int × Gr := let r := allG g (l.map notL); (notL r.1, r.2)

section
variable {g : Gr} {a b c : Int} {inp : List Bool} {x y z : Bool}
theorem or_up (hm : Made g.n g.ands) (h1 : isL a g.len = true) (h2 : isL b g.len = true) (hl : g.len < 8000) : Up g (orG g a b).2 1 ∧ isL (orG g a b).1 (orG g a b).2.len = true :=
  ⟨and_up hm (notL_range h1) (notL_range h2) hl, notL_range (and_isL hm (notL_range h1) (notL_range h2) hl)⟩
theorem or_lv (hm : Made g.n g.ands) (h1 : Lv g inp a x) (h2 : Lv g inp b y) (hl : g.len < 8000) : Lv (orG g a b).2 inp (orG g a b).1 (x || y) := by
  have := not_lv (and_lv hm (not_lv h1) (not_lv h2) hl)
  have e : (!(!x && !y)) = (x || y) := by cases x <;> cases y <;> rfl
  rwa [e] at this
theorem xor_up (hm : Made g.n g.ands) (h1 : isL a g.len = true) (h2 : isL b g.len = true) (hl : g.len + 2 < 8000) : Up g (xorG g a b).2 3 ∧ isL (xorG g a b).1 (xorG g a b).2.len = true := by
  have u1 := and_up hm h1 h2 (by omega)
  have u2 := and_up u1.made (u1.isL (notL_range h1)) (u1.isL (notL_range h2)) (by have := u1.high; omega)
  have l1 := u2.isL (and_isL hm h1 h2 (by omega))
  have l2 := and_isL u1.made (u1.isL (notL_range h1)) (u1.isL (notL_range h2)) (by have := u1.high; omega)
  have hl2 : ((g.and a b).2.and (notL a) (notL b)).2.len < 8000 := by have := u1.high; have := u2.high; omega
  have u3 := and_up u2.made (notL_range l1) (notL_range l2) hl2
  exact ⟨((u1.trans u2).trans u3), and_isL u2.made (notL_range l1) (notL_range l2) hl2⟩
theorem xor_lv (hm : Made g.n g.ands) (h1 : Lv g inp a x) (h2 : Lv g inp b y) (hl : g.len + 2 < 8000) : Lv (xorG g a b).2 inp (xorG g a b).1 (x != y) := by
  have u1 := and_up hm h1.lit h2.lit (by omega)
  have v1 := and_lv hm h1 h2 (by omega)
  have hl1 : (g.and a b).2.len < 8000 := by have := u1.high; omega
  have n1 := u1.lv (not_lv h1)
  have n2 := u1.lv (not_lv h2)
  have u2 := and_up u1.made n1.lit n2.lit hl1
  have v2 := and_lv u1.made n1 n2 hl1
  have hl2 : ((g.and a b).2.and (notL a) (notL b)).2.len < 8000 := by have := u1.high; have := u2.high; omega
  have := and_lv u2.made (not_lv (u2.lv v1)) (not_lv v2) hl2
  have e : (!(x && y) && !(!x && !y)) = (x != y) := by cases x <;> cases y <;> rfl
  rwa [e] at this
theorem mux_up (hm : Made g.n g.ands) (h0 : isL c g.len = true) (h1 : isL a g.len = true) (h2 : isL b g.len = true) (hl : g.len + 2 < 8000) : Up g (muxG g c a b).2 3 ∧ isL (muxG g c a b).1 (muxG g c a b).2.len = true := by
  have u1 := and_up hm h0 h1 (by omega)
  have hl1 : (g.and c a).2.len < 8000 := by have := u1.high; omega
  have u2 := and_up u1.made (u1.isL (notL_range h0)) (u1.isL h2) hl1
  have l1 := u2.isL (and_isL hm h0 h1 (by omega))
  have l2 := and_isL u1.made (u1.isL (notL_range h0)) (u1.isL h2) hl1
  have hl2 : ((g.and c a).2.and (notL c) b).2.len < 8000 := by have := u1.high; have := u2.high; omega
  have u3 := or_up u2.made l1 l2 hl2
  exact ⟨((u1.trans u2).trans u3.1), u3.2⟩
theorem mux_lv (hm : Made g.n g.ands) (h0 : Lv g inp c z) (h1 : Lv g inp a x) (h2 : Lv g inp b y) (hl : g.len + 2 < 8000) : Lv (muxG g c a b).2 inp (muxG g c a b).1 (if z then x else y) := by
  have u1 := and_up hm h0.lit h1.lit (by omega)
  have v1 := and_lv hm h0 h1 (by omega)
  have hl1 : (g.and c a).2.len < 8000 := by have := u1.high; omega
  have n0 := u1.lv (not_lv h0)
  have n2 := u1.lv h2
  have u2 := and_up u1.made n0.lit n2.lit hl1
  have v2 := and_lv u1.made n0 n2 hl1
  have hl2 : ((g.and c a).2.and (notL c) b).2.len < 8000 := by have := u1.high; have := u2.high; omega
  have := or_lv u2.made (u2.lv v1) v2 hl2
  have e : ((z && x) || (!z && y)) = (if z then x else y) := by cases z <;> cases x <;> cases y <;> rfl
  rwa [e] at this
end

theorem allG_snoc (g : Gr) (l : List Int) (x : Int) : allG g (l ++ [x]) = allStep (allG g l) x := by simp [allG, List.foldl_append]
theorem all_up {g : Gr} (hm : Made g.n g.ands) : ∀ {l : List Int}, (∀ x ∈ l, isL x g.len = true) → g.len + l.length ≤ 8000 → Up g (allG g l).2 l.length ∧ isL (allG g l).1 (allG g l).2.len = true := by
  intro l
  induction l using snocRec with
  | nil => intro _ _; exact ⟨Up.refl hm, by rw [isL_iff]; show (0 : Int) ≤ 1 ∧ (1 : Int) ≤ _; omega⟩
  | more l x ih =>
    intro hx hl
    simp at hl
    obtain ⟨u, lit⟩ := ih (fun y hy => hx y (List.mem_append_left _ hy)) (by omega)
    rw [allG_snoc]
    have hl1 : (allG g l).2.len < 8000 := by have := u.high; omega
    have hx1 := u.isL (hx x (by simp))
    have := u.trans (and_up u.made lit hx1 hl1)
    exact ⟨by rw [List.length_append]; exact this, and_isL u.made lit hx1 hl1⟩
theorem all_lv {g : Gr} {inp : List Bool} {f : Int → Bool} (hm : Made g.n g.ands) : ∀ {l : List Int}, (∀ x ∈ l, Lv g inp x (f x)) → g.len + l.length ≤ 8000 → Lv (allG g l).2 inp (allG g l).1 (l.all f) := by
  intro l
  induction l using snocRec with
  | nil => intro _ _; exact one_lv g inp
  | more l x ih =>
    intro hx hl
    simp at hl
    have u := (all_up hm (l := l) (fun y hy => (hx y (List.mem_append_left _ hy)).lit) (by omega)).1
    have v := ih (fun y hy => hx y (List.mem_append_left _ hy)) (by omega)
    rw [allG_snoc]
    have := and_lv u.made v (u.lv (hx x (by simp))) (by have := u.high; omega)
    rw [List.all_append, show [x].all f = f x from by simp]
    exact this
theorem any_up {g : Gr} (hm : Made g.n g.ands) {l : List Int} (hx : ∀ x ∈ l, isL x g.len = true) (hl : g.len + l.length ≤ 8000) : Up g (anyG g l).2 l.length ∧ isL (anyG g l).1 (anyG g l).2.len = true := by
  have := all_up hm (l := l.map notL) (by intro x h; obtain ⟨y, hy, rfl⟩ := List.mem_map.1 h; exact notL_range (hx y hy)) (by simpa using hl)
  exact ⟨by have h := this.1; rw [List.length_map] at h; exact h, notL_range this.2⟩
theorem any_lv {g : Gr} {inp : List Bool} {f : Int → Bool} (hm : Made g.n g.ands) {l : List Int} (hx : ∀ x ∈ l, Lv g inp x (f x)) (hl : g.len + l.length ≤ 8000) : Lv (anyG g l).2 inp (anyG g l).1 (l.any f) := by
  have h := not_lv (all_lv hm (l := l.map notL) (f := fun y => !(f (notL y))) (inp := inp) (by
    intro x h
    obtain ⟨y, hy, rfl⟩ := List.mem_map.1 h
    have := not_lv (hx y hy)
    rwa [notL_notL]) (by simpa using hl))
  have e : (!((l.map notL).all fun y => !(f (notL y)))) = l.any f := by
    have key : ∀ r : List Int, (!((r.map notL).all fun y => !(f (notL y)))) = r.any f := by
      intro r
      induction r with
      | nil => rfl
      | cons x r ih => simp only [List.map_cons, List.all_cons, List.any_cons, notL_notL, Bool.not_and, Bool.not_not, ih]
    exact key l
  rwa [e] at h

end Go.Proofs.YtkjlgamggkencaaDoor

namespace Go.Proofs.YtkjlgamggkencaaDoor

/-- one gate more is looked at, from above -/
def mstep (n : Nat) (L : List (Int × Int)) (v : List Bool) (i : Nat) : List Bool :=
  if v.getD (n + 1 + i) false = true then (v.set ((L.getD i (0, 0)).1 / 2).toNat true).set ((L.getD i (0, 0)).2 / 2).toNat true else v
def mdown (n : Nat) (L : List (Int × Int)) (v : List Bool) : Nat → List Bool
  | 0 => v
  | j + 1 => mdown n L (mstep n L v j) j
def marksL (n : Nat) (L : List (Int × Int)) (l : Int) : List Bool := mdown n L ((List.replicate (n + 1 + L.length) false).set (l / 2).toNat true) L.length
def coneOf (n : Nat) (is : List Bool) (m : Nat) : List Int := ((List.range m).filter fun i => is.getD (n + 1 + i) false).map fun (i : Nat) => ((n + 1 + i : Nat) : Int)
def coneL (n : Nat) (L : List (Int × Int)) (l : Int) : List Int := coneOf n (marksL n L l) L.length
def suppOf (is : List Bool) (m : Nat) : List Int := ((List.range m).filter fun i => is.getD (i + 1) false).map fun (i : Nat) => (i : Int)
def suppL (n : Nat) (L : List (Int × Int)) (l : Int) : List Int := suppOf (marksL n L l) n

/-- the depths of the nodes -/
def dmore (d : List Int) : List (Int × Int) → List Int
  | [] => d
  | p :: r => dmore (d ++ [1 + max (d.getD (p.1 / 2).toNat 0) (d.getD (p.2 / 2).toNat 0)]) r
def depths (n : Nat) (L : List (Int × Int)) : List Int := dmore (List.replicate (n + 1) 0) L
def mostL (d : List Int) (l : List Int) : Int := l.foldl (fun m x => max m (d.getD (x / 2).toNat 0)) 0
def depthL (n : Nat) (L : List (Int × Int)) (l : List Int) : Int := mostL (depths n L) l

theorem mstep_length (n : Nat) (L : List (Int × Int)) (v : List Bool) (i : Nat) : (mstep n L v i).length = v.length := by unfold mstep; split <;> simp
theorem mdown_length (n : Nat) (L : List (Int × Int)) : ∀ (j : Nat) (v : List Bool), (mdown n L v j).length = v.length
  | 0, _ => rfl
  | j + 1, v => by rw [mdown, mdown_length n L j, mstep_length]
theorem marksL_length (n : Nat) (L : List (Int × Int)) (l : Int) : (marksL n L l).length = n + 1 + L.length := by simp [marksL, mdown_length]

theorem set_true {v : List Bool} {a y : Nat} (h : v.getD y false = true) : (v.set a true).getD y false = true := by
  by_cases e : a = y
  · subst e
    have hl : a < v.length := by
      rcases Nat.lt_or_ge a v.length with hl | hl
      · exact hl
      · rw [List.getD, List.getElem?_eq_none hl] at h; cases h
    simp [List.getD, hl]
  · simpa [List.getD, List.getElem?_set, e] using h
theorem set_at {v : List Bool} {a : Nat} (h : a < v.length) : (v.set a true).getD a false = true := by simp [List.getD, h]
theorem of_set {v : List Bool} {a y : Nat} (h : (v.set a true).getD y false = true) : y = a ∨ v.getD y false = true := by
  by_cases e : a = y
  · exact .inl e.symm
  · right; simpa [List.getD, List.getElem?_set, e] using h

theorem mstep_mono {n : Nat} {L : List (Int × Int)} {v : List Bool} {i y : Nat} (h : v.getD y false = true) : (mstep n L v i).getD y false = true := by
  unfold mstep; split
  · exact set_true (set_true h)
  · exact h
theorem mdown_mono {n : Nat} {L : List (Int × Int)} {y : Nat} : ∀ {j : Nat} {v : List Bool}, v.getD y false = true → (mdown n L v j).getD y false = true
  | 0, _, h => h
  | j + 1, _, h => mdown_mono (j := j) (mstep_mono h)

/-- what the gates below j mark lies below them -/
theorem mstep_above {n : Nat} {L : List (Int × Int)} (hr : Right n L) {v : List Bool} {i y : Nat} (hi : i < L.length) (hy : n + 1 + i ≤ y) : (mstep n L v i).getD y false = v.getD y false := by
  have := hr i (L.getD i (0, 0)) (by simp [List.getD, hi])
  unfold mstep; split
  · rw [List.getD, List.getElem?_set_ne (by omega), List.getElem?_set_ne (by omega)]; rfl
  · rfl
theorem mdown_above {n : Nat} {L : List (Int × Int)} (hr : Right n L) {y : Nat} : ∀ {j : Nat} {v : List Bool}, j ≤ L.length → n + j ≤ y → (mdown n L v j).getD y false = v.getD y false
  | 0, _, _, _ => rfl
  | j + 1, v, hj, hy => by
    rw [mdown, mdown_above hr (j := j) (by omega) (by omega), mstep_above hr (by omega) (by omega)]

/-- what is marked is closed -/
theorem mdown_closed {n : Nat} {L : List (Int × Int)} (hr : Right n L) : ∀ {j : Nat} {v : List Bool}, j ≤ L.length → v.length = n + 1 + L.length →
    ∀ i, i < j → (mdown n L v j).getD (n + 1 + i) false = true → (mdown n L v j).getD ((L.getD i (0, 0)).1 / 2).toNat false = true ∧ (mdown n L v j).getD ((L.getD i (0, 0)).2 / 2).toNat false = true
  | 0, _, _, _, i, hi, _ => absurd hi (Nat.not_lt_zero _)
  | j + 1, v, hj, hv, i, hi, h => by
    rw [mdown] at h ⊢
    rcases Nat.lt_or_ge i j with h1 | h1
    · exact mdown_closed hr (j := j) (by omega) (by rw [mstep_length, hv]) i h1 h
    · obtain rfl : i = j := by omega
      have hri := hr i (L.getD i (0, 0)) (by simp [List.getD, show i < L.length by omega])
      rw [mdown_above hr (by omega) (by omega), mstep_above hr (by omega) (by omega)] at h
      have e : mstep n L v i = (v.set ((L.getD i (0, 0)).1 / 2).toNat true).set ((L.getD i (0, 0)).2 / 2).toNat true := by unfold mstep; rw [if_pos h]
      refine ⟨mdown_mono ?_, mdown_mono ?_⟩ <;> rw [e]
      · exact set_true (set_at (by omega))
      · exact set_at (by rw [List.length_set]; omega)

/-- the least closed set -/
theorem mdown_least {n : Nat} {L : List (Int × Int)} {T : Nat → Prop} (hT : ∀ i, i < L.length → T (n + 1 + i) → T ((L.getD i (0, 0)).1 / 2).toNat ∧ T ((L.getD i (0, 0)).2 / 2).toNat) :
    ∀ {j : Nat} {v : List Bool}, j ≤ L.length → (∀ y, v.getD y false = true → T y) → ∀ y, (mdown n L v j).getD y false = true → T y
  | 0, _, _, hv => hv
  | j + 1, v, hj, hv => by
    rw [mdown]
    refine mdown_least hT (j := j) (by omega) ?_
    intro y hy
    unfold mstep at hy
    split at hy
    · rename_i h
      have ht := hT j (by omega) (hv _ h)
      rcases of_set hy with rfl | hy
      · exact ht.2
      · rcases of_set hy with rfl | hy
        · exact ht.1
        · exact hv y hy
    · exact hv y hy

/-- node y hangs under l -/
def Hangs (n : Nat) (L : List (Int × Int)) (l : Int) (y : Nat) : Prop := (marksL n L l).getD y false = true
theorem hangs_self {n : Nat} {L : List (Int × Int)} {l : Int} (h : isL l (n + L.length) = true) : Hangs n L l (l / 2).toNat := by
  have := isL_iff.1 h
  exact mdown_mono (set_at (by simp; omega))
theorem hangs_gate {n : Nat} {L : List (Int × Int)} (hr : Right n L) {l : Int} {i : Nat} (hi : i < L.length) (h : Hangs n L l (n + 1 + i)) :
    Hangs n L l ((L.getD i (0, 0)).1 / 2).toNat ∧ Hangs n L l ((L.getD i (0, 0)).2 / 2).toNat := mdown_closed hr (Nat.le_refl _) (by simp) i hi h
theorem hangs_least {n : Nat} {L : List (Int × Int)} {l : Int} {T : Nat → Prop} (hT : ∀ i, i < L.length → T (n + 1 + i) → T ((L.getD i (0, 0)).1 / 2).toNat ∧ T ((L.getD i (0, 0)).2 / 2).toNat) (h0 : T (l / 2).toNat) {y : Nat} (h : Hangs n L l y) : T y := by
  refine mdown_least hT (Nat.le_refl _) ?_ y h
  intro z hz
  rcases of_set hz with rfl | hz
  · exact h0
  · rw [List.getD, List.getElem?_replicate] at hz
    split at hz <;> simp at hz
theorem hangs_under {n : Nat} {L : List (Int × Int)} (hr : Right n L) {l a : Int} (h0 : Hangs n L l (a / 2).toNat) {y : Nat} (h : Hangs n L a y) : Hangs n L l y :=
  hangs_least (fun _ hi ht => hangs_gate hr hi ht) h0 h

/-- what two circuits are worth where they are alike as far as a literal hangs on them -/
theorem nodes_alike {n : Nat} {L L' : List (Int × Int)} (hr : Right n L) (hr' : Right n L') (hlen : L'.length = L.length) {l : Int} {inp inp' : List Bool}
    (hin : ∀ k, k < n → Hangs n L l (k + 1) → inp.getD k false = inp'.getD k false) (hg : ∀ i, i < L.length → Hangs n L l (n + 1 + i) → L.getD i (0, 0) = L'.getD i (0, 0)) :
    ∀ y, y < n + 1 + L.length → Hangs n L l y → (nodes n L inp).getD y false = (nodes n L' inp').getD y false := by
  have hw : ∀ x : Int, (nodes n L inp).getD (x / 2).toNat false = (nodes n L' inp').getD (x / 2).toNat false → worth (nodes n L inp) x = worth (nodes n L' inp') x := by
    intro x h; unfold worth; rw [h]
  intro y
  induction y using Nat.strongRecOn with
  | ind y ih =>
    intro hy h
    rcases Nat.lt_or_ge y (n + 1) with h1 | h1
    · have key : ∀ (L : List (Int × Int)) (inp : List Bool), (nodes n L inp).getD y false = (valsN n inp).getD y false := by
        intro L inp
        obtain ⟨u, hu⟩ := more_prefix (valsN n inp) L
        unfold nodes
        rw [hu, List.getD, List.getElem?_append_left (by rw [valsN_length]; exact h1)]; rfl
      rw [key, key]
      rcases Nat.eq_zero_or_pos y with h0 | h0
      · subst h0; rfl
      · obtain ⟨k, rfl⟩ : ∃ k, y = k + 1 := ⟨y - 1, by omega⟩
        have := hin k (by omega) h
        simpa [valsN, List.getD, show k < n by omega] using this
    · obtain ⟨i, rfl⟩ : ∃ i, y = n + 1 + i := ⟨y - (n + 1), by omega⟩
      have hi : i < L.length := by omega
      have hgi := hg i hi h
      have hh := hangs_gate hr hi h
      have hri := hr i (L.getD i (0, 0)) (by simp [List.getD, hi])
      rw [nodes_at hr inp (i := i) (p := L.getD i (0, 0)) (by simp [List.getD, hi]), nodes_at hr' inp' (i := i) (p := L'.getD i (0, 0)) (by simp [List.getD, show i < L'.length by omega]), ← hgi]
      rw [hw _ (ih _ (by omega) (by omega) hh.1), hw _ (ih _ (by omega) (by omega) hh.2)]

theorem mem_cone {n : Nat} {L : List (Int × Int)} {l : Int} {i : Nat} (hi : i < L.length) : (((n + 1 + i : Nat) : Int) ∈ coneL n L l) ↔ Hangs n L l (n + 1 + i) := by
  unfold coneL coneOf Hangs
  simp only [List.mem_map, List.mem_filter, List.mem_range]
  constructor
  · rintro ⟨j, ⟨_, h⟩, e⟩
    obtain rfl : j = i := by omega
    exact h
  · intro h; exact ⟨i, ⟨hi, h⟩, rfl⟩
theorem cone_of {n : Nat} {L : List (Int × Int)} {l x : Int} (h : x ∈ coneL n L l) : ∃ i, i < L.length ∧ x = ((n + 1 + i : Nat) : Int) ∧ Hangs n L l (n + 1 + i) := by
  unfold coneL coneOf at h
  simp only [List.mem_map, List.mem_filter, List.mem_range] at h
  obtain ⟨i, ⟨h1, h2⟩, rfl⟩ := h
  exact ⟨i, h1, rfl, h2⟩
theorem mem_supp {n : Nat} {L : List (Int × Int)} {l : Int} {k : Nat} (hk : k < n) : ((k : Int) ∈ suppL n L l) ↔ Hangs n L l (k + 1) := by
  unfold suppL suppOf Hangs
  simp only [List.mem_map, List.mem_filter, List.mem_range]
  constructor
  · rintro ⟨j, ⟨_, h⟩, e⟩
    obtain rfl : j = k := by omega
    exact h
  · intro h; exact ⟨k, ⟨hk, h⟩, rfl⟩

/-! ### depths -/
theorem dmore_append (d : List Int) (l r : List (Int × Int)) : dmore d (l ++ r) = dmore (dmore d l) r := by
  induction l generalizing d with
  | nil => rfl
  | cons x l ih => exact ih _
theorem dmore_length (d : List Int) (l : List (Int × Int)) : (dmore d l).length = d.length + l.length := by
  induction l generalizing d with
  | nil => rfl
  | cons x l ih => rw [dmore, ih]; simp; omega
theorem dmore_prefix (d : List Int) (l : List (Int × Int)) : ∃ u, dmore d l = d ++ u := by
  induction l generalizing d with
  | nil => exact ⟨[], by simp [dmore]⟩
  | cons x l ih => obtain ⟨u, hu⟩ := ih (d ++ [1 + max (d.getD (x.1 / 2).toNat 0) (d.getD (x.2 / 2).toNat 0)]); exact ⟨_, by rw [dmore, hu, List.append_assoc]⟩
theorem depths_length (n : Nat) (L : List (Int × Int)) : (depths n L).length = n + 1 + L.length := by unfold depths; rw [dmore_length]; simp
theorem dmore_take (d : List Int) (L : List (Int × Int)) {j : Nat} (hj : j < L.length) : dmore d (L.take (j + 1)) = dmore d (L.take j) ++ [1 + max ((dmore d (L.take j)).getD ((L.getD j (0, 0)).1 / 2).toNat 0) ((dmore d (L.take j)).getD ((L.getD j (0, 0)).2 / 2).toNat 0)] := by
  rw [List.take_succ_eq_append_getElem hj, dmore_append, show L.getD j (0, 0) = L[j] from by simp [List.getD, hj]]; rfl
theorem depths_at {n : Nat} {L : List (Int × Int)} (hr : Right n L) {i : Nat} (hi : i < L.length) :
    (depths n L).getD (n + 1 + i) 0 = 1 + max ((depths n L).getD ((L.getD i (0, 0)).1 / 2).toNat 0) ((depths n L).getD ((L.getD i (0, 0)).2 / 2).toNat 0) := by
  have hri := hr i (L.getD i (0, 0)) (by simp [List.getD, hi])
  have hlen : (dmore (List.replicate (n + 1) (0 : Int)) (L.take i)).length = n + 1 + i := by rw [dmore_length]; simp; omega
  have h1 := dmore_take (List.replicate (n + 1) (0 : Int)) L hi
  obtain ⟨u, hu⟩ := dmore_prefix (dmore (List.replicate (n + 1) (0 : Int)) (L.take (i + 1))) (L.drop (i + 1))
  rw [← dmore_append, List.take_append_drop] at hu
  unfold depths
  rw [hu, h1]
  have hin : ∀ y : Nat, y < n + 1 + i → ((dmore (List.replicate (n + 1) (0 : Int)) (L.take i) ++ [1 + max ((dmore (List.replicate (n + 1) (0 : Int)) (L.take i)).getD ((L.getD i (0, 0)).1 / 2).toNat 0) ((dmore (List.replicate (n + 1) (0 : Int)) (L.take i)).getD ((L.getD i (0, 0)).2 / 2).toNat 0)]) ++ u).getD y 0 = (dmore (List.replicate (n + 1) (0 : Int)) (L.take i)).getD y 0 := by
    intro y hy
    rw [List.append_assoc, List.getD, List.getElem?_append_left (by omega)]; rfl
  have ha : ∀ (d : List Int) (y : Int) (k : Nat), d.length = k → (d ++ [y] ++ u).getD k 0 = y := by
    intro d y k hk
    subst hk
    simp [List.getD]
  rw [ha _ _ _ hlen, hin _ (by omega), hin _ (by omega)]
theorem depths_nonneg (d : List Int) (hd : ∀ x ∈ d, 0 ≤ x) (L : List (Int × Int)) : ∀ x ∈ dmore d L, 0 ≤ x := by
  induction L generalizing d with
  | nil => exact hd
  | cons p r ih =>
    refine ih _ ?_
    intro x hx
    rcases List.mem_append.1 hx with h | h
    · exact hd x h
    · simp at h
      have : 0 ≤ d[(p.1 / 2).toNat]?.getD 0 := by
        cases hg : d[(p.1 / 2).toNat]? with
        | none => exact Int.le_refl _
        | some y => exact hd y (List.mem_of_getElem? hg)
      omega
end Go.Proofs.YtkjlgamggkencaaDoor

namespace Go.Proofs.YtkjlgamggkencaaDoor

/-- what stands for the nodes at first: the inputs' literals -/
def at0 (n m : Nat) (by_ : List Int) : List Int := (0 :: (List.range n).map fun i => by_.getD i 0) ++ List.replicate m 0
def cpStep (n : Nat) (L : List (Int × Int)) (is : List Bool) (s : Gr × List Int) (i : Nat) : Gr × List Int :=
  if is.getD (n + 1 + i) false = true then ((s.1.and (asL s.2 (L.getD i (0, 0)).1) (asL s.2 (L.getD i (0, 0)).2)).2, s.2.set (n + 1 + i) (s.1.and (asL s.2 (L.getD i (0, 0)).1) (asL s.2 (L.getD i (0, 0)).2)).1) else s
def cpRun (n : Nat) (L : List (Int × Int)) (is : List Bool) (s : Gr × List Int) (j : Nat) : Gr × List Int := (List.range j).foldl (cpStep n L is) s
def copyG (g : Gr) (n : Nat) (L : List (Int × Int)) (l : Int) (by_ : List Int) : Int × Gr :=
  (asL (cpRun n L (marksL n L l) (g, at0 n L.length by_) L.length).2 l, (cpRun n L (marksL n L l) (g, at0 n L.length by_) L.length).1)

theorem cpRun_succ (n : Nat) (L : List (Int × Int)) (is : List Bool) (s : Gr × List Int) (j : Nat) : cpRun n L is s (j + 1) = cpStep n L is (cpRun n L is s j) j := by simp [cpRun, List.range_succ, List.foldl_append]
theorem at0_length (n m : Nat) (by_ : List Int) : (at0 n m by_).length = n + 1 + m := by simp [at0]; omega
theorem at0_isL {n m N : Nat} {by_ : List Int} (h : ∀ x ∈ by_, isL x N = true) : ∀ x ∈ at0 n m by_, isL x N = true := by
  have h0 : isL 0 N = true := by rw [isL_iff]; omega
  intro x hx
  unfold at0 at hx
  rcases List.mem_append.1 hx with h1 | h1
  · rcases List.mem_cons.1 h1 with rfl | h2
    · exact h0
    · obtain ⟨i, _, rfl⟩ := List.mem_map.1 h2
      rw [List.getD]
      cases hg : by_[i]? with
      | none => exact h0
      | some y => exact h y (List.mem_of_getElem? hg)
  · rw [List.eq_of_mem_replicate h1]; exact h0

/-- the run's sizes, literals -/
structure CpInv (g : Gr) (N : Nat) (s : Gr × List Int) (k : Nat) : Prop where
  up : Up g s.1 k
  many : s.2.length = N
  lits : ∀ x ∈ s.2, isL x s.1.len = true
theorem cp_inv {g : Gr} (hm : Made g.n g.ands) {n : Nat} {L : List (Int × Int)} (is : List Bool) {at_ : List Int} (ha : ∀ x ∈ at_, isL x g.len = true) (hl : g.len + L.length < 8000) :
    ∀ j, j ≤ L.length → CpInv g at_.length (cpRun n L is (g, at_) j) j := by
  intro j
  induction j with
  | zero => intro _; exact ⟨Up.refl hm, rfl, ha⟩
  | succ j ih =>
    intro hj
    obtain ⟨h1, h2, h3⟩ := ih (by omega)
    rw [cpRun_succ]
    generalize cpRun n L is (g, at_) j = s at *
    have hh := h1.high
    unfold cpStep
    split
    · have a1 := asL_isL (l := (L.getD j (0, 0)).1) h3
      have a2 := asL_isL (l := (L.getD j (0, 0)).2) h3
      have hu := and_up h1.made a1 a2 (by omega)
      have hx := and_isL h1.made a1 a2 (by omega)
      refine ⟨h1.trans hu, by simpa using h2, ?_⟩
      intro x hxm
      rcases List.mem_or_eq_of_mem_set hxm with h | rfl
      · exact hu.isL (h3 x h)
      · exact hx
    · exact ⟨h1.mono (by omega), h2, h3⟩

/-- what the nodes' literals are worth -/
theorem cp_val {g : Gr} (hm : Made g.n g.ands) {n : Nat} {L : List (Int × Int)} (hr : Right n L) {l : Int} {by_ : List Int} (hb : ∀ x ∈ by_, isL x g.len = true) (hl : g.len + L.length < 8000) (inp vals : List Bool)
    (hv : ∀ i, i < n → vals.getD i false = worth (g.nod inp) (by_.getD i 0)) :
    ∀ j, j ≤ L.length → ∀ y, y < n + 1 + j → Hangs n L l y →
      worth ((cpRun n L (marksL n L l) (g, at0 n L.length by_) j).1.nod inp) ((cpRun n L (marksL n L l) (g, at0 n L.length by_) j).2.getD y 0) = (nodes n L vals).getD y false := by
  have hw0 : ∀ (g : Gr), worth (g.nod inp) 0 = false := by
    intro g
    have : (g.nod inp).getD 0 false = false := by
      obtain ⟨u, hu⟩ := more_prefix (valsN g.n inp) g.ands
      unfold Gr.nod nodes; rw [hu]; rfl
    show ((g.nod inp).getD 0 false != decide ((0 : Int) % 2 = 1)) = false
    rw [this]; rfl
  have hlen : (at0 n L.length by_).length = n + 1 + L.length := at0_length _ _ _
  intro j
  induction j with
  | zero =>
    intro _ y hy _
    have hnod : (nodes n L vals).getD y false = (valsN n vals).getD y false := by
      obtain ⟨u, hu⟩ := more_prefix (valsN n vals) L
      unfold nodes
      rw [hu, List.getD, List.getElem?_append_left (by rw [valsN_length]; omega)]; rfl
    rw [hnod]
    show worth (g.nod inp) ((at0 n L.length by_).getD y 0) = _
    cases y with
    | zero => rw [show (at0 n L.length by_).getD 0 0 = 0 from rfl, hw0]; rfl
    | succ k =>
      have hk : k < n := by omega
      have e1 : (at0 n L.length by_).getD (k + 1) 0 = by_.getD k 0 := by
        unfold at0
        rw [List.getD, List.getElem?_append_left (by simp; omega)]
        simp [hk]
      rw [e1, ← hv k hk]
      simp [valsN, List.getD, hk]
  | succ j ih =>
    intro hj y hy hh
    have hjl : j < L.length := by omega
    have ih' := ih (by omega)
    obtain ⟨i1, i2, i3⟩ := cp_inv hm (n := n) (L := L) (marksL n L l) (at0_isL (n := n) (m := L.length) hb) hl j (by omega)
    rw [cpRun_succ]
    have hhi := i1.high
    have hmade := i1.made
    generalize cpRun n L (marksL n L l) (g, at0 n L.length by_) j = s at *
    have hri := hr j (L.getD j (0, 0)) (by simp [List.getD, hjl])
    unfold cpStep
    by_cases hc : (marksL n L l).getD (n + 1 + j) false = true
    · rw [if_pos hc]
      have hg := hangs_gate hr hjl hc
      have a1 := asL_isL (l := (L.getD j (0, 0)).1) i3
      have a2 := asL_isL (l := (L.getD j (0, 0)).2) i3
      have hu := and_up hmade a1 a2 (by omega)
      have asw : ∀ x : Int, (x / 2).toNat < n + 1 + j → Hangs n L l (x / 2).toNat → worth (s.1.nod inp) (asL s.2 x) = worth (nodes n L vals) x := by
        intro x hx hxh
        have h := ih' _ hx hxh
        unfold asL
        by_cases hp : x % 2 = 1
        · rw [if_pos hp, worth_not, h]
          unfold worth; rw [decide_eq_true hp]
          cases (nodes n L vals).getD (x / 2).toNat false <;> rfl
        · rw [if_neg hp, h]
          unfold worth; rw [decide_eq_false hp]
          cases (nodes n L vals).getD (x / 2).toNat false <;> rfl
      simp only
      by_cases hyj : y = n + 1 + j
      · subst hyj
        have e1 : (s.2.set (n + 1 + j) (s.1.and (asL s.2 (L.getD j (0, 0)).1) (asL s.2 (L.getD j (0, 0)).2)).1).getD (n + 1 + j) 0 = (s.1.and (asL s.2 (L.getD j (0, 0)).1) (asL s.2 (L.getD j (0, 0)).2)).1 := by
          simp [List.getD, show n + 1 + j < s.2.length by omega]
        rw [e1]
        have hlv := and_lv (inp := inp) hmade ⟨a1, asw _ (by omega) hg.1⟩ ⟨a2, asw _ (by omega) hg.2⟩ (by omega)
        rw [hlv.val]
        exact (nodes_at hr vals (i := j) (p := L.getD j (0, 0)) (by simp [List.getD, hjl])).symm
      · have e1 : (s.2.set (n + 1 + j) (s.1.and (asL s.2 (L.getD j (0, 0)).1) (asL s.2 (L.getD j (0, 0)).2)).1).getD y 0 = s.2.getD y 0 := by
          simp [List.getD, show ¬ n + 1 + j = y by omega]
        rw [e1]
        have hly : isL (s.2.getD y 0) s.1.len = true := by
          rw [List.getD]
          cases hg : s.2[y]? with
          | none => rw [isL_iff]; simp; omega
          | some z => exact i3 z (List.mem_of_getElem? hg)
        rw [(hu.lv (inp := inp) ⟨hly, rfl⟩).val]
        exact ih' y (by omega) hh
    · rw [if_neg hc]
      have : y ≠ n + 1 + j := fun e => hc (by subst e; exact hh)
      exact ih' y (by omega) hh

theorem copy_up {g : Gr} (hm : Made g.n g.ands) {n : Nat} {L : List (Int × Int)} {l : Int} {by_ : List Int} (hb : ∀ x ∈ by_, isL x g.len = true) (hl : g.len + L.length < 8000) :
    Up g (copyG g n L l by_).2 L.length ∧ isL (copyG g n L l by_).1 (copyG g n L l by_).2.len = true := by
  obtain ⟨i1, i2, i3⟩ := cp_inv hm (n := n) (L := L) (marksL n L l) (at0_isL (n := n) (m := L.length) hb) hl L.length (Nat.le_refl _)
  exact ⟨i1, asL_isL i3⟩
theorem copy_worth {g : Gr} (hm : Made g.n g.ands) {n : Nat} {L : List (Int × Int)} (hr : Right n L) {l : Int} (hll : isL l (n + L.length) = true) {by_ : List Int} (hb : ∀ x ∈ by_, isL x g.len = true) (hl : g.len + L.length < 8000) (inp vals : List Bool)
    (hv : ∀ i, i < n → vals.getD i false = worth (g.nod inp) (by_.getD i 0)) : worth ((copyG g n L l by_).2.nod inp) (copyG g n L l by_).1 = worth (nodes n L vals) l := by
  have hx := isL_iff.1 hll
  have h := cp_val hm hr hb hl inp vals hv (l := l) L.length (Nat.le_refl _) (l / 2).toNat (by omega) (hangs_self hll)
  unfold copyG
  simp only
  unfold asL
  by_cases hp : l % 2 = 1
  · rw [if_pos hp, worth_not, h]
    unfold worth; rw [decide_eq_true hp]
    cases (nodes n L vals).getD (l / 2).toNat false <;> rfl
  · rw [if_neg hp, h]
    unfold worth; rw [decide_eq_false hp]
    cases (nodes n L vals).getD (l / 2).toNat false <;> rfl
end Go.Proofs.YtkjlgamggkencaaDoor

namespace Go.Proofs.YtkjlgamggkencaaDoor

/-- a literal of few variables -/
def mkLit (x : Int) (vars : Nat) : Int := if x % (2 * (vars : Int)) < vars then x % (2 * (vars : Int)) + 1 else vars - x % (2 * (vars : Int)) - 1
def mkcCut (s : List (List Int) × List Int) (x : Int) : List (List Int) × List Int := if (x % 7 = 0 ∧ 0 < s.2.length) ∨ 5 ≤ s.2.length then (s.1 ++ [s.2], []) else s
def mkcStep (vars : Nat) (s : List (List Int) × List Int) (x : Int) : List (List Int) × List Int := ((mkcCut s x).1, (mkcCut s x).2 ++ [mkLit (x % 1099511627776 / 7) vars])
def mkcRun (vars : Nat) (l : List Int) : List (List Int) × List Int := l.foldl (mkcStep vars) ([], [])
def mkClauses (l : List Int) (vars : Nat) : List (List Int) := if 0 < (mkcRun vars l).2.length then (mkcRun vars l).1 ++ [(mkcRun vars l).2] else (mkcRun vars l).1

theorem mkcRun_snoc (vars : Nat) (l : List Int) (x : Int) : mkcRun vars (l ++ [x]) = mkcStep vars (mkcRun vars l) x := by simp [mkcRun, List.foldl_append]
theorem mkcRun_take (vars : Nat) (l : List Int) {k : Nat} (hk : k < l.length) : mkcRun vars (l.take (k + 1)) = mkcStep vars (mkcRun vars (l.take k)) (l.getD k 0) := by
  rw [List.take_succ_eq_append_getElem hk, mkcRun_snoc]; simp [List.getD, hk]

/-- a literal of so many variables -/
def OkLit (vars : Nat) (x : Int) : Prop := x ≠ 0 ∧ -(vars : Int) ≤ x ∧ x ≤ vars
theorem mkLit_ok (x : Int) (vars : Nat) (h : 0 < vars) : OkLit vars (mkLit x vars) := by
  have h1 := Int.emod_nonneg x (b := 2 * (vars : Int)) (by omega)
  have h2 := Int.emod_lt_of_pos x (b := 2 * (vars : Int)) (by omega)
  unfold OkLit mkLit
  split <;> omega

structure MkcOk (vars : Nat) (s : List (List Int) × List Int) (k : Nat) : Prop where
  outs : ∀ c ∈ s.1, c.length ≤ 5 ∧ 0 < c.length ∧ ∀ x ∈ c, OkLit vars x
  cur : s.2.length ≤ 5 ∧ ∀ x ∈ s.2, OkLit vars x
  many : (s.1.map List.length).sum + s.2.length = k

theorem mkcRun_ok {vars : Nat} (h : 0 < vars) (l : List Int) : MkcOk vars (mkcRun vars l) l.length := by
  refine snocRec (C := fun l => MkcOk vars (mkcRun vars l) l.length) ⟨by simp [mkcRun], by simp [mkcRun], rfl⟩ ?_ l
  intro l x ih
  rw [mkcRun_snoc]
  have hx := mkLit_ok (x % 1099511627776 / 7) vars h
  obtain ⟨i1, i2, i3⟩ := ih
  generalize mkcRun vars l = s at *
  unfold mkcStep mkcCut
  split
  · rename_i hc
    refine ⟨?_, ⟨by simp, by intro y hy; simp at hy; subst hy; exact hx⟩, by simp at i3 ⊢; omega⟩
    intro c hcm
    rcases List.mem_append.1 hcm with h1 | h1
    · exact i1 c h1
    · simp at h1
      subst h1
      exact ⟨i2.1, by omega, i2.2⟩
  · rename_i hc
    refine ⟨i1, ⟨by simp; omega, ?_⟩, by simp at i3 ⊢; omega⟩
    intro y hy
    rcases List.mem_append.1 hy with h1 | h1
    · exact i2.2 y h1
    · simp at h1; subst h1; exact hx

theorem mkClauses_ok {vars : Nat} (h : 0 < vars) (l : List Int) : (∀ c ∈ mkClauses l vars, c.length ≤ 5 ∧ 0 < c.length ∧ ∀ x ∈ c, OkLit vars x) ∧ ((mkClauses l vars).map List.length).sum = l.length := by
  obtain ⟨i1, i2, i3⟩ := mkcRun_ok h l
  unfold mkClauses
  split
  · rename_i hp
    refine ⟨?_, by simp at i3 ⊢; omega⟩
    intro c hc
    rcases List.mem_append.1 hc with h1 | h1
    · exact i1 c h1
    · simp at h1; subst h1; exact ⟨i2.1, hp, i2.2⟩
  · rename_i hp
    refine ⟨i1, by omega⟩
theorem sum_ge_length {l : List Nat} (h : ∀ x ∈ l, 0 < x) : l.length ≤ l.sum := by
  induction l with
  | nil => simp
  | cons x r ih =>
    have h1 := h x (by simp)
    have h2 := ih (fun y hy => h y (by simp [hy]))
    simp; omega
theorem mkClauses_few {vars : Nat} (h : 0 < vars) (l : List Int) : (mkClauses l vars).length ≤ l.length := by
  obtain ⟨h1, h2⟩ := mkClauses_ok h l
  have := sum_ge_length (l := (mkClauses l vars).map List.length) (by intro x hx; obtain ⟨c, hc, rfl⟩ := List.mem_map.1 hx; exact (h1 c hc).2.1)
  simp at this; omega

/-! ### as gates -/
/-- a clause's literal as a graph's -/
def inG (l : Int) : Int := if l < 0 then 2 * -l + 1 else 2 * l
def clStep (s : List Int × Gr) (c : List Int) : List Int × Gr := (s.1 ++ [(anyG s.2 (c.map inG)).1], (anyG s.2 (c.map inG)).2)
def clRun (g : Gr) (cs : List (List Int)) : List Int × Gr := cs.foldl clStep ([], g)
def clG (g : Gr) (cs : List (List Int)) : Int × Gr := allG (clRun g cs).2 (clRun g cs).1
/-- is a literal true of the inputs? -/
def litV (inp : List Bool) (l : Int) : Bool := if 0 < l then inp.getD (l - 1).toNat false else !inp.getD (-l - 1).toNat false

theorem clRun_snoc (g : Gr) (cs : List (List Int)) (c : List Int) : clRun g (cs ++ [c]) = clStep (clRun g cs) c := by simp [clRun, List.foldl_append]
theorem clRun_take (g : Gr) (cs : List (List Int)) {k : Nat} (hk : k < cs.length) : clRun g (cs.take (k + 1)) = clStep (clRun g (cs.take k)) (cs.getD k []) := by
  rw [List.take_succ_eq_append_getElem hk, clRun_snoc]; simp [List.getD, hk]

theorem inG_isL {vars : Nat} {x : Int} (h : OkLit vars x) : isL (inG x) vars = true := by
  obtain ⟨h0, h1, h2⟩ := h
  rw [isL_iff]; unfold inG; split <;> omega
theorem vals_succ {n k : Nat} {inp : List Bool} (h : k < n) : (valsN n inp).getD (k + 1) false = inp.getD k false := by simp [valsN, List.getD, h]
theorem inG_lv {g : Gr} {inp : List Bool} {x : Int} (h : OkLit g.n x) : Lv g inp (inG x) (litV inp x) := by
  have hl := inG_isL h
  obtain ⟨h0, h1, h2⟩ := h
  refine ⟨?_, ?_⟩
  · rw [isL_iff] at hl ⊢; unfold Gr.len; omega
  · obtain ⟨u, hu⟩ := more_prefix (valsN g.n inp) g.ands
    unfold Gr.nod nodes
    rw [hu, worth_append (by rw [valsN_length]; have := isL_iff.1 hl; omega)]
    unfold worth inG litV
    by_cases hx : x < 0
    · rw [if_pos hx, if_neg (by omega), show ((2 * -x + 1) / 2).toNat = (-x - 1).toNat + 1 from by omega, decide_eq_true (by omega)]
      rw [vals_succ (by omega)]; simp
    · rw [if_neg hx, if_pos (by omega), show (2 * x / 2).toNat = (x - 1).toNat + 1 from by omega, decide_eq_false (by omega)]
      rw [vals_succ (by omega)]; simp

structure ClInv (g g' : Gr) (zs : List Int) (cs : List (List Int)) (k : Nat) : Prop where
  up : Up g g' k
  lits : ∀ x ∈ zs, isL x g'.len = true
  many : zs.length = cs.length
  val : ∀ inp, zs.map (worth (g'.nod inp)) = cs.map fun c => c.any (litV inp)

theorem any_up_len {g : Gr} (hm : Made g.n g.ands) {c : List Int} (hc : ∀ x ∈ c, OkLit g.n x) (hl : g.len + c.length ≤ 8000) : Up g (anyG g (c.map inG)).2 c.length ∧ isL (anyG g (c.map inG)).1 (anyG g (c.map inG)).2.len = true := by
  have := any_up hm (l := c.map inG) (by
    intro x hx
    obtain ⟨y, hy, rfl⟩ := List.mem_map.1 hx
    have := inG_isL (hc y hy)
    rw [isL_iff] at this ⊢; unfold Gr.len; omega) (by simpa using hl)
  simpa using this

theorem clRun_inv {g : Gr} (hm : Made g.n g.ands) : ∀ {cs : List (List Int)}, (∀ c ∈ cs, ∀ x ∈ c, OkLit g.n x) → g.len + (cs.map List.length).sum ≤ 8000 → ClInv g (clRun g cs).2 (clRun g cs).1 cs (cs.map List.length).sum := by
  intro cs
  refine snocRec (C := fun cs => (∀ c ∈ cs, ∀ x ∈ c, OkLit g.n x) → g.len + (cs.map List.length).sum ≤ 8000 → ClInv g (clRun g cs).2 (clRun g cs).1 cs (cs.map List.length).sum) ?_ ?_ cs
  · intro _ _; exact ⟨Up.refl hm, by simp [clRun], rfl, fun _ => rfl⟩
  · intro cs c ih hx hl
    simp only [List.map_append, List.map_cons, List.map_nil, List.sum_append, List.sum_cons, List.sum_nil, Nat.add_zero] at hl ⊢
    have hi := ih (fun d hd => hx d (by simp [hd])) (by omega)
    rw [clRun_snoc]
    obtain ⟨i1, i2, i3, i4⟩ := hi
    have hcx : ∀ x ∈ c, OkLit (clRun g cs).2.n x := by rw [i1.num]; exact hx c (by simp)
    have hh := i1.high
    have hm' : Made (clRun g cs).2.n (clRun g cs).2.ands := i1.made
    generalize clRun g cs = s at *
    have ha := any_up_len hm' hcx (by omega)
    refine ⟨i1.trans ha.1, ?_, by simp [clStep, i3], ?_⟩
    · intro x hxm
      rcases List.mem_append.1 hxm with h | h
      · exact ha.1.isL (i2 x h)
      · simp at h; subst h; exact ha.2
    · intro inp
      have hv := any_lv (inp := inp) (f := fun y => worth (s.2.nod inp) y) hm' (l := c.map inG) (by
        intro y hy
        obtain ⟨x, hxc, rfl⟩ := List.mem_map.1 hy
        exact ⟨(inG_lv (inp := inp) (hcx x hxc)).lit, rfl⟩) (by simp; omega)
      have hval := hv.val
      show (s.1 ++ [(anyG s.2 (c.map inG)).1]).map (worth ((anyG s.2 (c.map inG)).2.nod inp)) = _
      rw [List.map_append, List.map_append, List.map_cons, List.map_nil, hval, List.any_map]
      congr 1
      · rw [← i4 inp]
        apply List.map_congr_left
        intro x hxm
        exact (ha.1.lv (inp := inp) ⟨i2 x hxm, rfl⟩).val
      · simp only [List.map_cons, List.map_nil]
        congr 1
        rw [Bool.eq_iff_iff, List.any_eq_true, List.any_eq_true]
        constructor
        · rintro ⟨x, hxc, h⟩; exact ⟨x, hxc, by rw [← (inG_lv (inp := inp) (hcx x hxc)).val]; exact h⟩
        · rintro ⟨x, hxc, h⟩; exact ⟨x, hxc, by show worth (s.2.nod inp) (inG x) = true; rw [(inG_lv (inp := inp) (hcx x hxc)).val]; exact h⟩

theorem clG_up {g : Gr} (hm : Made g.n g.ands) {cs : List (List Int)} (hx : ∀ c ∈ cs, ∀ x ∈ c, OkLit g.n x) (hl : g.len + (cs.map List.length).sum + cs.length ≤ 8000) :
    Up g (clG g cs).2 ((cs.map List.length).sum + cs.length) ∧ isL (clG g cs).1 (clG g cs).2.len = true ∧ ∀ inp, worth ((clG g cs).2.nod inp) (clG g cs).1 = cs.all fun c => c.any (litV inp) := by
  obtain ⟨i1, i2, i3, i4⟩ := clRun_inv hm hx (by omega)
  have hh := i1.high
  have hm' : Made (clRun g cs).2.n (clRun g cs).2.ands := i1.made
  unfold clG
  generalize clRun g cs = s at *
  have ha := all_up hm' i2 (by omega)
  rw [i3] at ha
  refine ⟨i1.trans ha.1, ha.2, fun inp => ?_⟩
  have hv := all_lv (inp := inp) (f := worth (s.2.nod inp)) hm' (l := s.1) (fun x hx => ⟨i2 x hx, rfl⟩) (by omega)
  rw [hv.val]
  have := i4 inp
  rw [show s.1.all (worth (s.2.nod inp)) = (s.1.map (worth (s.2.nod inp))).all id from by rw [List.all_map]; rfl, this, List.all_map]
  rfl
end Go.Proofs.YtkjlgamggkencaaDoor

namespace Go.Proofs.YtkjlgamggkencaaDoor

def bitI (b : Bool) : Int := if b then 1 else 0
/-- the outer inputs' literals, a move's values behind them -/
def byL (ou : Nat) (mv : List Bool) : List Int := ((List.range ou).map fun (i : Nat) => 2 * ((i : Int) + 1)) ++ mv.map bitI
def wantI (ex : Bool) (x : Int) : Int := if ex then x else notL x
/-- a match: who begins, how many outer, inner inputs, gates, the output -/
structure Mt where
  ex : Bool
  ou : Nat
  inn : Nat
  L : List (Int × Int)
  o : Int
structure Mt.Ok (M : Mt) : Prop where
  right : Right (M.ou + M.inn) M.L
  out : isL M.o (M.ou + M.inn + M.L.length) = true

def Mt.move (M : Mt) (g : Gr) (mv : List Bool) : Int × Gr := copyG g (M.ou + M.inn) M.L M.o (byL M.ou mv)
def Mt.wanted (M : Mt) (a b : List Bool) : Bool := worth (nodes (M.ou + M.inn) M.L (a ++ b)) M.o == M.ex
def Mt.beatStep (M : Mt) (s : List Int × Gr) (mv : List Bool) : List Int × Gr := (s.1 ++ [notL (wantI M.ex (M.move s.2 mv).1)], (M.move s.2 mv).2)
def Mt.beats (M : Mt) (g : Gr) (mvs : List (List Bool)) : List Int × Gr := mvs.foldl M.beatStep ([], g)
def muxDown (bs : List Int) (mvs : List (List Bool)) (i : Nat) : Nat → Int × Gr → Int × Gr
  | 0, s => s
  | k + 1, s => muxDown bs mvs i k (muxG s.2 (bs.getD k 0) (bitI ((mvs.getD k []).getD i false)) s.1)
def outStep (bs : List Int) (mvs : List (List Bool)) (s : List Int × Gr) (i : Nat) : List Int × Gr :=
  (s.1 ++ [(muxDown bs mvs i (mvs.length - 1) (bitI ((mvs.getD (mvs.length - 1) []).getD i false), s.2)).1], (muxDown bs mvs i (mvs.length - 1) (bitI ((mvs.getD (mvs.length - 1) []).getD i false), s.2)).2)
def outsRun (bs : List Int) (mvs : List (List Bool)) (g : Gr) (j : Nat) : List Int × Gr := (List.range j).foldl (outStep bs mvs) ([], g)
def Mt.fn (M : Mt) (mvs : List (List Bool)) : List Int × Gr :=
  outsRun (M.beats ⟨M.ou, [], 0⟩ (mvs.take (mvs.length - 1))).1 mvs (M.beats ⟨M.ou, [], 0⟩ (mvs.take (mvs.length - 1))).2 M.inn

theorem beats_snoc (M : Mt) (g : Gr) (mvs : List (List Bool)) (mv : List Bool) : M.beats g (mvs ++ [mv]) = M.beatStep (M.beats g mvs) mv := by simp [Mt.beats, List.foldl_append]
theorem beats_take (M : Mt) (g : Gr) (mvs : List (List Bool)) {k : Nat} (hk : k < mvs.length) : M.beats g (mvs.take (k + 1)) = M.beatStep (M.beats g (mvs.take k)) (mvs.getD k []) := by
  rw [List.take_succ_eq_append_getElem hk, beats_snoc]; simp [List.getD, hk]
theorem outs_succ (bs : List Int) (mvs : List (List Bool)) (g : Gr) (j : Nat) : outsRun bs mvs g (j + 1) = outStep bs mvs (outsRun bs mvs g j) j := by simp [outsRun, List.range_succ, List.foldl_append]

theorem bit_lv (g : Gr) (inp : List Bool) (b : Bool) : Lv g inp (bitI b) b := by
  cases b
  · have h := not_lv (one_lv g inp)
    rwa [show notL 1 = bitI false from by decide] at h
  · exact one_lv g inp
theorem bit_isL (b : Bool) (n : Nat) : isL (bitI b) n = true := by rw [isL_iff]; unfold bitI; split <;> omega
theorem in_lv {g : Gr} {inp : List Bool} {i : Nat} (h : i < g.n) : Lv g inp (2 * ((i : Int) + 1)) (inp.getD i false) := by
  have h1 := inG_lv (g := g) (inp := inp) (x := (i : Int) + 1) ⟨by omega, by omega, by omega⟩
  have e1 : inG ((i : Int) + 1) = 2 * ((i : Int) + 1) := by unfold inG; rw [if_neg (by omega)]
  have e2 : litV inp ((i : Int) + 1) = inp.getD i false := by unfold litV; rw [if_pos (by omega), show ((i : Int) + 1 - 1).toNat = i from by omega]
  rwa [e1, e2] at h1
theorem want_lv {g : Gr} {inp : List Bool} {l : Int} {b : Bool} (ex : Bool) (h : Lv g inp l b) : Lv g inp (notL (wantI ex l)) (!(b == ex)) := by
  cases ex
  · have := not_lv (not_lv h)
    have e : (!!b) = (!(b == false)) := by cases b <;> rfl
    rw [e] at this; exact this
  · have := not_lv h
    have e : (!b) = (!(b == true)) := by cases b <;> rfl
    rw [e] at this; exact this
theorem want_isL {l : Int} {n : Nat} (ex : Bool) (h : isL l n = true) : isL (notL (wantI ex l)) n = true := by
  cases ex
  · exact notL_range (notL_range h)
  · exact notL_range h

theorem byL_length (ou : Nat) (mv : List Bool) : (byL ou mv).length = ou + mv.length := by simp [byL]
theorem byL_at {ou : Nat} {mv : List Bool} {i : Nat} (h : i < ou + mv.length) : (byL ou mv)[i]? = some (if i < ou then 2 * ((i : Int) + 1) else bitI (mv.getD (i - ou) false)) := by
  unfold byL
  by_cases hi : i < ou
  · rw [if_pos hi, List.getElem?_append_left (by simpa using hi), List.getElem?_map, List.getElem?_range hi]; rfl
  · rw [if_neg hi, List.getElem?_append_right (by simp; omega), List.getElem?_map]
    simp only [List.length_map, List.length_range, List.getD]
    rw [List.getElem?_eq_getElem (by omega)]
    rfl
theorem byL_isL {ou N : Nat} {mv : List Bool} (h : ou ≤ N) : ∀ x ∈ byL ou mv, isL x N = true := by
  intro x hx
  unfold byL at hx
  rcases List.mem_append.1 hx with h1 | h1
  · obtain ⟨i, hi, rfl⟩ := List.mem_map.1 h1
    have := List.mem_range.1 hi
    rw [isL_iff]; omega
  · obtain ⟨b, _, rfl⟩ := List.mem_map.1 h1
    exact bit_isL b N

section
variable {M : Mt} {g : Gr} {mv : List Bool}
theorem move_up (hm : Made g.n g.ands) (hn : g.n = M.ou) (hl : g.len + M.L.length < 8000) : Up g (M.move g mv).2 M.L.length ∧ isL (M.move g mv).1 (M.move g mv).2.len = true :=
  copy_up hm (byL_isL (by unfold Gr.len; omega)) hl
theorem move_val (hM : M.Ok) (hm : Made g.n g.ands) (hn : g.n = M.ou) (hmv : mv.length = M.inn) (hl : g.len + M.L.length < 8000) (inp : List Bool) (hi : inp.length = M.ou) :
    Lv (M.move g mv).2 inp (M.move g mv).1 (worth (nodes (M.ou + M.inn) M.L (inp ++ mv)) M.o) := by
  refine ⟨(move_up hm hn hl).2, ?_⟩
  refine copy_worth hm hM.right hM.out (byL_isL (by unfold Gr.len; omega)) hl inp (inp ++ mv) fun i hlt => ?_
  rw [show (byL M.ou mv).getD i 0 = if i < M.ou then 2 * ((i : Int) + 1) else bitI (mv.getD (i - M.ou) false) from by rw [List.getD, byL_at (by omega)]; rfl]
  by_cases h : i < M.ou
  · rw [if_pos h, (in_lv (by omega)).val, List.getD, List.getElem?_append_left (by omega)]; rfl
  · rw [if_neg h, (bit_lv g inp _).val, List.getD, List.getElem?_append_right (by omega), hi]; rfl
end

structure BtInv (M : Mt) (g : Gr) (s : List Int × Gr) (mvs : List (List Bool)) : Prop where
  up : Up g s.2 (mvs.length * M.L.length)
  lits : ∀ x ∈ s.1, isL x s.2.len = true
  many : s.1.length = mvs.length
  val : M.Ok → (∀ mv ∈ mvs, mv.length = M.inn) → ∀ inp, inp.length = M.ou → s.1.map (worth (s.2.nod inp)) = mvs.map fun mv => !(M.wanted inp mv)
theorem beats_inv {M : Mt} {g : Gr} (hm : Made g.n g.ands) (hn : g.n = M.ou) : ∀ {mvs : List (List Bool)}, g.len + mvs.length * M.L.length < 8000 → BtInv M g (M.beats g mvs) mvs := by
  intro mvs
  refine snocRec (C := fun mvs => g.len + mvs.length * M.L.length < 8000 → BtInv M g (M.beats g mvs) mvs) ?_ ?_ mvs
  · intro _
    exact ⟨by simpa [Mt.beats] using Up.refl hm, by simp [Mt.beats], rfl, fun _ _ _ _ => rfl⟩
  · intro mvs mv ih hl
    rw [List.length_append, List.length_singleton, Nat.succ_mul] at hl
    obtain ⟨i1, i2, i3, i4⟩ := ih (by omega)
    rw [beats_snoc]
    have hh := i1.high
    have hm' := i1.made
    have hn' : (M.beats g mvs).2.n = M.ou := i1.num.trans hn
    generalize M.beats g mvs = s at *
    have hu := move_up (M := M) (mv := mv) hm' hn' (by omega)
    refine ⟨?_, ?_, by simp [Mt.beatStep, i3], ?_⟩
    · have := i1.trans hu.1
      rw [List.length_append, List.length_singleton, Nat.succ_mul]
      exact this
    · intro x hx
      rcases List.mem_append.1 hx with h | h
      · exact hu.1.isL (i2 x h)
      · simp at h; subst h; exact want_isL _ hu.2
    · intro hM hmv inp hi
      have hv := move_val hM hm' hn' (hmv mv (by simp)) (by omega) inp hi
      have hw := want_lv M.ex hv
      show (s.1 ++ [notL (wantI M.ex (M.move s.2 mv).1)]).map (worth ((M.move s.2 mv).2.nod inp)) = _
      rw [List.map_append, List.map_append, List.map_cons, List.map_nil, hw.val]
      congr 1
      rw [← i4 hM (fun m h => hmv m (by simp [h])) inp hi]
      apply List.map_congr_left
      intro x hx
      exact (hu.1.lv (inp := inp) ⟨i2 x hx, rfl⟩).val

/-- the first of so many for which B holds -/
def muxV (B V : Nat → Bool) : Nat → Bool → Bool
  | 0, x => x
  | k + 1, x => muxV B V k (if B k then V k else x)
theorem muxV_none {B V : Nat → Bool} : ∀ {K : Nat} {x : Bool}, (∀ j, j < K → B j = false) → muxV B V K x = x
  | 0, _, _ => rfl
  | K + 1, x, h => by
    rw [muxV, h K (by omega)]
    exact muxV_none (fun j hj => h j (by omega))
theorem muxV_first {B V : Nat → Bool} : ∀ {K k : Nat} {x : Bool}, k < K → B k = true → (∀ j, j < k → B j = false) → muxV B V K x = V k
  | 0, _, _, h, _, _ => absurd h (Nat.not_lt_zero _)
  | K + 1, k, x, h, hb, hn => by
    rw [muxV]
    by_cases e : k = K
    · subst e
      rw [hb]
      exact muxV_none hn
    · exact muxV_first (by omega) hb hn

theorem getD_isL {bs : List Int} {n : Nat} (h : ∀ b ∈ bs, isL b n = true) (k : Nat) : isL (bs.getD k 0) n = true := by
  rw [List.getD]
  cases hg : bs[k]? with
  | none => rw [isL_iff]; simp; omega
  | some y => exact h y (List.mem_of_getElem? hg)
theorem muxDown_up {bs : List Int} {mvs : List (List Bool)} {i : Nat} : ∀ (k : Nat) (s : Int × Gr), Made s.2.n s.2.ands → (∀ b ∈ bs, isL b s.2.len = true) → isL s.1 s.2.len = true → s.2.len + 3 * k < 8000 →
    Up s.2 (muxDown bs mvs i k s).2 (3 * k) ∧ isL (muxDown bs mvs i k s).1 (muxDown bs mvs i k s).2.len = true
  | 0, s, hm, _, h2, _ => ⟨Up.refl hm, h2⟩
  | k + 1, s, hm, h1, h2, hl => by
    have u := mux_up hm (getD_isL h1 k) (bit_isL ((mvs.getD k []).getD i false) s.2.len) h2 (by omega)
    have hh := u.1.high
    have r := muxDown_up (bs := bs) (mvs := mvs) (i := i) k (muxG s.2 (bs.getD k 0) (bitI ((mvs.getD k []).getD i false)) s.1) u.1.made (fun b hb => u.1.isL (h1 b hb)) u.2 (by omega)
    exact ⟨(u.1.trans r.1).mono (by omega), r.2⟩
theorem muxDown_lv {bs : List Int} {mvs : List (List Bool)} {i : Nat} {inp : List Bool} {B : Nat → Bool} : ∀ (k : Nat) (s : Int × Gr) (x : Bool), Made s.2.n s.2.ands → (∀ j, j < k → Lv s.2 inp (bs.getD j 0) (B j)) → Lv s.2 inp s.1 x → s.2.len + 3 * k < 8000 →
    Lv (muxDown bs mvs i k s).2 inp (muxDown bs mvs i k s).1 (muxV B (fun j => (mvs.getD j []).getD i false) k x)
  | 0, s, x, _, _, h2, _ => h2
  | k + 1, s, x, hm, h1, h2, hl => by
    have u := mux_up hm (h1 k (by omega)).lit (bit_isL ((mvs.getD k []).getD i false) s.2.len) h2.lit (by omega)
    have v := mux_lv hm (h1 k (by omega)) (bit_lv s.2 inp ((mvs.getD k []).getD i false)) h2 (by omega)
    have hh := u.1.high
    exact muxDown_lv k (muxG s.2 (bs.getD k 0) (bitI ((mvs.getD k []).getD i false)) s.1) _ u.1.made (fun j hj => u.1.lv (h1 j (by omega))) v (by omega)

structure OutInv (bs : List Int) (mvs : List (List Bool)) (g : Gr) (s : List Int × Gr) (j : Nat) : Prop where
  up : Up g s.2 (j * (3 * (mvs.length - 1)))
  lits : ∀ x ∈ s.1, isL x s.2.len = true
  many : s.1.length = j
  val : ∀ inp (B : Nat → Bool), (∀ k, k < mvs.length - 1 → Lv g inp (bs.getD k 0) (B k)) → s.1.map (worth (s.2.nod inp)) = (List.range j).map fun i => muxV B (fun k => (mvs.getD k []).getD i false) (mvs.length - 1) ((mvs.getD (mvs.length - 1) []).getD i false)
theorem outs_inv {bs : List Int} {mvs : List (List Bool)} {g : Gr} (hm : Made g.n g.ands) (hb : ∀ b ∈ bs, isL b g.len = true) : ∀ j, g.len + j * (3 * (mvs.length - 1)) < 8000 → OutInv bs mvs g (outsRun bs mvs g j) j := by
  intro j
  induction j with
  | zero => intro _; exact ⟨by simpa [outsRun] using Up.refl hm, by simp [outsRun], rfl, fun _ _ _ => rfl⟩
  | succ j ih =>
    intro hl
    rw [Nat.succ_mul] at hl
    obtain ⟨i1, i2, i3, i4⟩ := ih (by omega)
    rw [outs_succ]
    have hh := i1.high
    have hm' := i1.made
    generalize outsRun bs mvs g j = s at *
    have hu := muxDown_up (bs := bs) (mvs := mvs) (i := j) (mvs.length - 1) (bitI ((mvs.getD (mvs.length - 1) []).getD j false), s.2) hm' (fun b h => i1.isL (hb b h)) (bit_isL _ _) (by show s.2.len + _ < _; omega)
    refine ⟨?_, ?_, by simp [outStep, i3], ?_⟩
    · have := i1.trans hu.1
      rw [Nat.succ_mul]
      exact this
    · intro x hx
      rcases List.mem_append.1 hx with h | h
      · exact hu.1.isL (i2 x h)
      · simp only [List.mem_singleton] at h; rw [h]; exact hu.2
    · intro inp B hB
      have hv := muxDown_lv (bs := bs) (mvs := mvs) (i := j) (inp := inp) (B := B) (mvs.length - 1) (bitI ((mvs.getD (mvs.length - 1) []).getD j false), s.2) _ hm' (fun k hk => i1.lv (hB k hk)) (bit_lv s.2 inp _) (by show s.2.len + _ < _; omega)
      unfold outStep
      simp only
      rw [List.range_succ, List.map_append, List.map_append, List.map_cons, List.map_nil, hv.val]
      simp only [List.map_cons, List.map_nil]
      congr 1
      rw [← i4 inp B hB]
      apply List.map_congr_left
      intro x hx
      exact (hu.1.lv (inp := inp) ⟨i2 x hx, rfl⟩).val

/-! ### which move is chosen -/
def Mt.choose (M : Mt) (a : List Bool) (mvs : List (List Bool)) : Int := match mvs.findIdx? (fun mv => !(M.wanted a mv)) with | some i => (i : Int) | none => -1
theorem choose_none {M : Mt} {a : List Bool} {mvs : List (List Bool)} (h : ∀ j, j < mvs.length → M.wanted a (mvs.getD j []) = true) : M.choose a mvs = -1 := by
  unfold Mt.choose
  have : mvs.findIdx? (fun mv => !(M.wanted a mv)) = none := by
    rw [List.findIdx?_eq_none_iff]
    intro x hx
    obtain ⟨i, hi, rfl⟩ := List.mem_iff_getElem.1 hx
    have := h i hi
    rw [show mvs.getD i [] = mvs[i] from by simp [List.getD, hi]] at this
    rw [this]; rfl
  rw [this]
theorem choose_at {M : Mt} {a : List Bool} {mvs : List (List Bool)} {k : Nat} (hk : k < mvs.length) (hw : M.wanted a (mvs.getD k []) = false) (h : ∀ j, j < k → M.wanted a (mvs.getD j []) = true) : M.choose a mvs = k := by
  unfold Mt.choose
  have : mvs.findIdx? (fun mv => !(M.wanted a mv)) = some k := by
    rw [List.findIdx?_eq_some_iff_getElem]
    refine ⟨hk, ?_, fun j hj => ?_⟩
    · rw [show mvs.getD k [] = mvs[k] from by simp [List.getD, hk]] at hw
      rw [hw]; rfl
    · have := h j hj
      rw [show mvs.getD j [] = mvs[j] from by simp [List.getD, show j < mvs.length by omega]] at this
      rw [this]; simp
  rw [this]
theorem choose_spec (M : Mt) (a : List Bool) (mvs : List (List Bool)) : (M.choose a mvs = -1 ∧ ∀ j, j < mvs.length → M.wanted a (mvs.getD j []) = true) ∨
    ∃ k, k < mvs.length ∧ M.choose a mvs = (k : Int) ∧ M.wanted a (mvs.getD k []) = false ∧ ∀ j, j < k → M.wanted a (mvs.getD j []) = true := by
  rcases Classical.em (∀ j, j < mvs.length → M.wanted a (mvs.getD j []) = true) with h | h
  · exact .inl ⟨choose_none h, h⟩
  · right
    have key : ∀ n, n ≤ mvs.length → (∀ j, j < n → M.wanted a (mvs.getD j []) = true) ∨ ∃ k, k < n ∧ M.wanted a (mvs.getD k []) = false ∧ ∀ j, j < k → M.wanted a (mvs.getD j []) = true := by
      intro n
      induction n with
      | zero => intro _; exact .inl fun j hj => absurd hj (Nat.not_lt_zero _)
      | succ n ih =>
        intro hn
        rcases ih (by omega) with h1 | ⟨k, h1, h2, h3⟩
        · cases hw : M.wanted a (mvs.getD n []) with
          | false => exact .inr ⟨n, by omega, hw, h1⟩
          | true =>
            left
            intro j hj
            rcases Nat.lt_or_ge j n with h2 | h2
            · exact h1 j h2
            · obtain rfl : j = n := by omega
              exact hw
        · exact .inr ⟨k, by omega, h2, h3⟩
    rcases key mvs.length (Nat.le_refl _) with h1 | ⟨k, h1, h2, h3⟩
    · exact absurd h1 h
    · exact ⟨k, h1, choose_at h1 h2 h3, h2, h3⟩

/-- the functions: their size, their literals, their worth -/
structure FnOk (M : Mt) (mvs : List (List Bool)) (r : List Int × Gr) : Prop where
  num : r.2.n = M.ou
  bad : r.2.bad = 0
  made : Made r.2.n r.2.ands
  high : r.2.len ≤ M.ou + mvs.length * M.L.length + M.inn * (3 * mvs.length)
  lits : ∀ x ∈ r.1, isL x r.2.len = true
  many : r.1.length = M.inn
  val : M.Ok → (∀ mv ∈ mvs, mv.length = M.inn) → ∀ inp, inp.length = M.ou → ∀ k, k < mvs.length → (∀ j, j < k → M.wanted inp (mvs.getD j []) = true) → (k + 1 = mvs.length ∨ M.wanted inp (mvs.getD k []) = false) →
    r.1.map (worth (r.2.nod inp)) = mvs.getD k []
theorem fn_ok {M : Mt} {mvs : List (List Bool)} (h0 : 0 < mvs.length) (hl : M.ou + mvs.length * M.L.length + M.inn * (3 * mvs.length) < 8000) : FnOk M mvs (M.fn mvs) := by
  have hlt : (mvs.take (mvs.length - 1)).length = mvs.length - 1 := by rw [List.length_take]; omega
  have hmul : (mvs.length - 1) * M.L.length ≤ mvs.length * M.L.length := Nat.mul_le_mul_right _ (by omega)
  have hmul2 : M.inn * (3 * (mvs.length - 1)) ≤ M.inn * (3 * mvs.length) := Nat.mul_le_mul_left _ (by omega)
  have hb := beats_inv (M := M) (g := ⟨M.ou, [], 0⟩) (Made.nil M.ou) rfl (mvs := mvs.take (mvs.length - 1)) (by rw [hlt]; show M.ou + 0 + _ < 8000; omega)
  have hbh := hb.up.high
  rw [hlt] at hbh
  have hbh2 : (M.beats ⟨M.ou, [], 0⟩ (mvs.take (mvs.length - 1))).2.len ≤ M.ou + (mvs.length - 1) * M.L.length := hbh
  have ho := outs_inv (bs := (M.beats ⟨M.ou, [], 0⟩ (mvs.take (mvs.length - 1))).1) (mvs := mvs) hb.up.made hb.lits M.inn (by omega)
  have hoh := ho.up.high
  refine ⟨ho.up.num.trans hb.up.num, ho.up.bad.trans hb.up.bad, ho.up.made, ?_, ho.lits, ho.many, ?_⟩
  · show (M.fn mvs).2.len ≤ _
    have : (M.fn mvs).2.len ≤ (M.beats ⟨M.ou, [], 0⟩ (mvs.take (mvs.length - 1))).2.len + M.inn * (3 * (mvs.length - 1)) := hoh
    omega
  · intro hM hmv inp hi k hk hbef hat
    have hbv := hb.val hM (fun mv h => hmv mv (List.mem_of_mem_take h)) inp hi
    have hB : ∀ j, j < mvs.length - 1 → Lv (M.beats ⟨M.ou, [], 0⟩ (mvs.take (mvs.length - 1))).2 inp ((M.beats ⟨M.ou, [], 0⟩ (mvs.take (mvs.length - 1))).1.getD j 0) (!(M.wanted inp (mvs.getD j []))) := by
      intro j hj
      refine ⟨getD_isL hb.lits j, ?_⟩
      have h1 := congrArg (fun l : List Bool => l[j]?) hbv
      simp only [List.getElem?_map] at h1
      have hj2 : j < (M.beats ⟨M.ou, [], 0⟩ (mvs.take (mvs.length - 1))).1.length := by rw [hb.many, hlt]; exact hj
      rw [List.getElem?_eq_getElem hj2, List.getElem?_take_of_lt hj, List.getElem?_eq_getElem (by omega)] at h1
      simp only [Option.map_some, Option.some.injEq] at h1
      rw [show (M.beats ⟨M.ou, [], 0⟩ (mvs.take (mvs.length - 1))).1.getD j 0 = (M.beats ⟨M.ou, [], 0⟩ (mvs.take (mvs.length - 1))).1[j] from by simp [List.getD, hj2], h1, show mvs.getD j [] = mvs[j] from by simp [List.getD, show j < mvs.length by omega]]
    have hv := ho.val inp _ hB
    show (M.fn mvs).1.map (worth ((M.fn mvs).2.nod inp)) = _
    refine hv.trans ?_
    have hlen : (mvs.getD k []).length = M.inn := by
      refine hmv _ ?_
      rw [show mvs.getD k [] = mvs[k] from by simp [List.getD, hk]]; exact List.getElem_mem _
    apply List.ext_getElem?
    intro i
    rw [List.getElem?_map]
    by_cases hin : i < M.inn
    · rw [List.getElem?_range hin, List.getElem?_eq_getElem (by omega)]
      simp only [Option.map_some, Option.some.injEq]
      have hgi : (mvs.getD k []).getD i false = (mvs.getD k [])[i] := by rw [List.getD, List.getElem?_eq_getElem (by omega)]; rfl
      rw [← hgi]
      by_cases hkl : k + 1 = mvs.length
      · rw [muxV_none (fun j hj => by rw [hbef j (by omega)]; rfl), show mvs.length - 1 = k from by omega]
      · have hwk : M.wanted inp (mvs.getD k []) = false := by rcases hat with h | h; exact absurd h hkl; exact h
        rw [muxV_first (k := k) (by omega) (by rw [hwk]; rfl) (fun j hj => by rw [hbef j hj]; rfl)]
    · rw [List.getElem?_eq_none (by simp; omega), List.getElem?_eq_none (by omega)]; rfl
end Go.Proofs.YtkjlgamggkencaaDoor

namespace Go.Proofs.YtkjlgamggkencaaDoor

/-- gate k of the made circuit -/
def mkGate (n : Nat) (z : List Int) (k : Nat) : Int × Int :=
  (max (z.getD (2 * k) 0 % (2 * ((n : Int) + k + 1))) (z.getD (2 * k + 1) 0 % (2 * ((n : Int) + k + 1))), min (z.getD (2 * k) 0 % (2 * ((n : Int) + k + 1))) (z.getD (2 * k + 1) 0 % (2 * ((n : Int) + k + 1))))
def mkAnds (n : Nat) (z : List Int) : List (Int × Int) := (List.range (z.length / 2)).map (mkGate n z)
/-- so many of them -/
def mkFew (n : Nat) (z : List Int) (k : Nat) : List (Int × Int) := (List.range k).map (mkGate n z)
def mkOuts (n : Nat) (z outs : List Int) : List Int := outs.map (· % (2 * ((n : Int) + (z.length / 2 : Nat) + 1)))

theorem mkAnds_length (n : Nat) (z : List Int) : (mkAnds n z).length = z.length / 2 := by simp [mkAnds]
theorem mkFew_length (n : Nat) (z : List Int) (k : Nat) : (mkFew n z k).length = k := by simp [mkFew]
theorem mkFew_succ (n : Nat) (z : List Int) (k : Nat) : mkFew n z (k + 1) = mkFew n z k ++ [mkGate n z k] := by simp [mkFew, List.range_succ]
theorem mkFew_all (n : Nat) (z : List Int) : mkFew n z (z.length / 2) = mkAnds n z := rfl
theorem mkGate_range (n : Nat) (z : List Int) (k : Nat) : 0 ≤ (mkGate n z k).2 ∧ (mkGate n z k).2 ≤ (mkGate n z k).1 ∧ (mkGate n z k).1 ≤ 2 * ((n : Int) + k) + 1 := by
  unfold mkGate
  have hN : 0 < 2 * ((n : Int) + k + 1) := by omega
  have a1 := Int.emod_nonneg (z.getD (2 * k) 0) (Int.ne_of_gt hN)
  have a2 := Int.emod_lt_of_pos (z.getD (2 * k) 0) hN
  have b1 := Int.emod_nonneg (z.getD (2 * k + 1) 0) (Int.ne_of_gt hN)
  have b2 := Int.emod_lt_of_pos (z.getD (2 * k + 1) 0) hN
  generalize z.getD (2 * k) 0 % (2 * ((n : Int) + k + 1)) = x at *
  generalize z.getD (2 * k + 1) 0 % (2 * ((n : Int) + k + 1)) = y at *
  simp only
  omega
theorem mkAnds_right (n : Nat) (z : List Int) : Right n (mkAnds n z) := by
  intro i p hp
  unfold mkAnds at hp
  rw [List.getElem?_map] at hp
  by_cases hi : i < z.length / 2
  · rw [List.getElem?_range hi] at hp
    simp at hp
    subst hp
    exact mkGate_range n z i
  · rw [List.getElem?_eq_none (by simp; omega)] at hp
    cases hp
theorem mkFew_right (n : Nat) (z : List Int) (k : Nat) : Right n (mkFew n z k) := by
  intro i p hp
  unfold mkFew at hp
  rw [List.getElem?_map] at hp
  by_cases hi : i < k
  · rw [List.getElem?_range hi] at hp
    simp at hp
    subst hp
    exact mkGate_range n z i
  · rw [List.getElem?_eq_none (by simp; omega)] at hp
    cases hp
theorem mkOuts_isL (n : Nat) (z outs : List Int) : ∀ l ∈ mkOuts n z outs, isL l (n + z.length / 2) = true := by
  intro l hl
  obtain ⟨x, _, rfl⟩ := List.mem_map.1 hl
  have := isL_emod x (n + z.length / 2)
  rwa [show 2 * (((n + z.length / 2 : Nat) : Int)) + 2 = 2 * ((n : Int) + (z.length / 2 : Nat) + 1) from by omega] at this

/-- a number's bits -/
def vbit (n : Int) (i : Nat) : Bool := Go.bits .and .i64 (n / 2 ^ (i % 60)) 1 == 1
def mkVals (n : Int) (many : Nat) : List Bool := (List.range many).map (vbit n)
theorem mkVals_length (n : Int) (many : Nat) : (mkVals n many).length = many := by simp [mkVals]

/-- what the outputs are worth -/
def evalOuts (v : List Bool) (outs : List Int) : List Bool := outs.map (worth v)

end Go.Proofs.YtkjlgamggkencaaDoor

