/-
  What the gates come to, over lists alone: their literals, their worth.
-/
import Derived.Test.YtkjlgamggkencaaDoorEval
namespace Go.Proofs.YtkjlgamggkencaaDoor

def Gr.nod (g : Gr) (inp : List Bool) : List Bool := nodes g.n g.ands inp
theorem nod_length (g : Gr) (inp : List Bool) : (g.nod inp).length = g.len + 1 := by unfold Gr.nod; rw [nodes_length]; unfold Gr.len; omega

/-- g' is g with k gates more at most -/
structure Up (g g' : Gr) (k : Nat) : Prop where
  num : g'.n = g.n
  bad : g'.bad = g.bad
  made : Made g'.n g'.ands
  low : g.len ≤ g'.len
  high : g'.len ≤ g.len + k
  ext : ∀ inp, ∃ u, g'.nod inp = g.nod inp ++ u
/-- literal l of g is worth b -/
structure Lv (g : Gr) (inp : List Bool) (l : Int) (b : Bool) : Prop where
  lit : isL l g.len = true
  val : worth (g.nod inp) l = b

theorem Up.refl {g : Gr} (h : Made g.n g.ands) : Up g g 0 := ⟨rfl, rfl, h, Nat.le_refl _, Nat.le_refl _, fun _ => ⟨[], by simp⟩⟩
theorem Up.trans {g g1 g2 : Gr} {k1 k2 : Nat} (h1 : Up g g1 k1) (h2 : Up g1 g2 k2) : Up g g2 (k1 + k2) := by
  refine ⟨h2.num.trans h1.num, h2.bad.trans h1.bad, h2.made, Nat.le_trans h1.low h2.low, ?_, fun inp => ?_⟩
  · have := h1.high; have := h2.high; omega
  · obtain ⟨u, hu⟩ := h1.ext inp
    obtain ⟨t, ht⟩ := h2.ext inp
    exact ⟨u ++ t, by rw [ht, hu, List.append_assoc]⟩
theorem Up.mono {g g' : Gr} {k k' : Nat} (h : Up g g' k) (hk : k ≤ k') : Up g g' k' := ⟨h.num, h.bad, h.made, h.low, Nat.le_trans h.high (by omega), h.ext⟩
theorem Up.isL {g g' : Gr} {k : Nat} (h : Up g g' k) {l : Int} (hl : isL l g.len = true) : isL l g'.len = true := by
  have := h.low; rw [isL_iff] at hl ⊢; omega
theorem Up.lv {g g' : Gr} {k : Nat} (h : Up g g' k) {inp : List Bool} {l : Int} {b : Bool} (hl : Lv g inp l b) : Lv g' inp l b := by
  refine ⟨h.isL hl.lit, ?_⟩
  obtain ⟨u, hu⟩ := h.ext inp
  rw [hu, worth_kept hl.lit (nod_length g inp)]
  exact hl.val

theorem and_up {g : Gr} {a b : Int} (hm : Made g.n g.ands) (h1 : isL a g.len = true) (h2 : isL b g.len = true) (hl : g.len < 8000) : Up g (g.and a b).2 1 := by
  obtain ⟨q1, q2, q3, q4⟩ := and_snd h1 h2 hl
  exact ⟨q1, q2, (and_made hm h1 h2 hl).1, q3, q4, fun inp => (and_worth hm.right h1 h2 hl inp).1⟩
theorem and_isL {g : Gr} {a b : Int} (hm : Made g.n g.ands) (h1 : isL a g.len = true) (h2 : isL b g.len = true) (hl : g.len < 8000) : isL (g.and a b).1 (g.and a b).2.len = true := (and_made hm h1 h2 hl).2.1
theorem and_lv {g : Gr} {a b : Int} {inp : List Bool} {x y : Bool} (hm : Made g.n g.ands) (h1 : Lv g inp a x) (h2 : Lv g inp b y) (hl : g.len < 8000) : Lv (g.and a b).2 inp (g.and a b).1 (x && y) :=
  ⟨and_isL hm h1.lit h2.lit hl, by rw [← h1.val, ← h2.val]; exact (and_worth hm.right h1.lit h2.lit hl inp).2⟩
theorem not_lv {g : Gr} {a : Int} {inp : List Bool} {x : Bool} (h : Lv g inp a x) : Lv g inp (notL a) (!x) := ⟨notL_range h.lit, by rw [worth_not, h.val]⟩
theorem one_lv (g : Gr) (inp : List Bool) : Lv g inp 1 true := by
  refine ⟨by rw [isL_iff]; omega, ?_⟩
  obtain ⟨u, hu⟩ := more_prefix (valsN g.n inp) g.ands
  show ((g.nod inp).getD 0 false != decide ((1 : Int) % 2 = 1)) = true
  unfold Gr.nod nodes
  rw [hu]; simp [valsN]

def orG (g : Gr) (a b : Int) : Int × Gr := (notL (g.and (notL a) (notL b)).1, (g.and (notL a) (notL b)).2)
def xorG (g : Gr) (a b : Int) : Int × Gr :=
  let r1 := g.and a b
  let r2 := r1.2.and (notL a) (notL b)
  r2.2.and (notL r1.1) (notL r2.1)
def muxG (g : Gr) (c a b : Int) : Int × Gr :=
  let r1 := g.and c a
  let r2 := r1.2.and (notL c) b
  orG r2.2 r1.1 r2.1
def allStep (s : Int × Gr) (x : Int) : Int × Gr := s.2.and s.1 x
def allG (g : Gr) (l : List Int) : Int × Gr := l.foldl allStep (1, g)
def anyG (g : Gr) (l : List Int) : Int × Gr := let r := allG g (l.map notL); (notL r.1, r.2)

section
variable {g : Gr} {a b c : Int} {inp : List Bool} {x y z : Bool}
theorem or_up (hm : Made g.n g.ands) (h1 : isL a g.len = true) (h2 : isL b g.len = true) (hl : g.len < 8000) : Up g (orG g a b).2 1 ∧ isL (orG g a b).1 (orG g a b).2.len = true :=
  ⟨and_up hm (notL_range h1) (notL_range h2) hl, notL_range (and_isL hm (notL_range h1) (notL_range h2) hl)⟩
theorem or_lv (hm : Made g.n g.ands) (h1 : Lv g inp a x) (h2 : Lv g inp b y) (hl : g.len < 8000) : Lv (orG g a b).2 inp (orG g a b).1 (x || y) := by
  have := not_lv (and_lv hm (not_lv h1) (not_lv h2) hl)
  have e : (!(!x && !y)) = (x || y) := by cases x <;> cases y <;> rfl
  rwa [e] at this
theorem xor_up (hm : Made g.n g.ands) (h1 : isL a g.len = true) (h2 : isL b g.len = true) (hl : g.len + 2 < 8000) : Up g (xorG g a b).2 3 ∧ isL (xorG g a b).1 (xorG g a b).2.len = true := by
  have u1 := and_up hm h1 h2 (by omega)
  have u2 := and_up u1.made (u1.isL (notL_range h1)) (u1.isL (notL_range h2)) (by have := u1.high; omega)
  have l1 := u2.isL (and_isL hm h1 h2 (by omega))
  have l2 := and_isL u1.made (u1.isL (notL_range h1)) (u1.isL (notL_range h2)) (by have := u1.high; omega)
  have hl2 : ((g.and a b).2.and (notL a) (notL b)).2.len < 8000 := by have := u1.high; have := u2.high; omega
  have u3 := and_up u2.made (notL_range l1) (notL_range l2) hl2
  exact ⟨((u1.trans u2).trans u3), and_isL u2.made (notL_range l1) (notL_range l2) hl2⟩
theorem xor_lv (hm : Made g.n g.ands) (h1 : Lv g inp a x) (h2 : Lv g inp b y) (hl : g.len + 2 < 8000) : Lv (xorG g a b).2 inp (xorG g a b).1 (x != y) := by
  have u1 := and_up hm h1.lit h2.lit (by omega)
  have v1 := and_lv hm h1 h2 (by omega)
  have hl1 : (g.and a b).2.len < 8000 := by have := u1.high; omega
  have n1 := u1.lv (not_lv h1)
  have n2 := u1.lv (not_lv h2)
  have u2 := and_up u1.made n1.lit n2.lit hl1
  have v2 := and_lv u1.made n1 n2 hl1
  have hl2 : ((g.and a b).2.and (notL a) (notL b)).2.len < 8000 := by have := u1.high; have := u2.high; omega
  have := and_lv u2.made (not_lv (u2.lv v1)) (not_lv v2) hl2
  have e : (!(x && y) && !(!x && !y)) = (x != y) := by cases x <;> cases y <;> rfl
  rwa [e] at this
theorem mux_up (hm : Made g.n g.ands) (h0 : isL c g.len = true) (h1 : isL a g.len = true) (h2 : isL b g.len = true) (hl : g.len + 2 < 8000) : Up g (muxG g c a b).2 3 ∧ isL (muxG g c a b).1 (muxG g c a b).2.len = true := by
  have u1 := and_up hm h0 h1 (by omega)
  have hl1 : (g.and c a).2.len < 8000 := by have := u1.high; omega
  have u2 := and_up u1.made (u1.isL (notL_range h0)) (u1.isL h2) hl1
  have l1 := u2.isL (and_isL hm h0 h1 (by omega))
  have l2 := and_isL u1.made (u1.isL (notL_range h0)) (u1.isL h2) hl1
  have hl2 : ((g.and c a).2.and (notL c) b).2.len < 8000 := by have := u1.high; have := u2.high; omega
  have u3 := or_up u2.made l1 l2 hl2
  exact ⟨((u1.trans u2).trans u3.1), u3.2⟩
theorem mux_lv (hm : Made g.n g.ands) (h0 : Lv g inp c z) (h1 : Lv g inp a x) (h2 : Lv g inp b y) (hl : g.len + 2 < 8000) : Lv (muxG g c a b).2 inp (muxG g c a b).1 (if z then x else y) := by
  have u1 := and_up hm h0.lit h1.lit (by omega)
  have v1 := and_lv hm h0 h1 (by omega)
  have hl1 : (g.and c a).2.len < 8000 := by have := u1.high; omega
  have n0 := u1.lv (not_lv h0)
  have n2 := u1.lv h2
  have u2 := and_up u1.made n0.lit n2.lit hl1
  have v2 := and_lv u1.made n0 n2 hl1
  have hl2 : ((g.and c a).2.and (notL c) b).2.len < 8000 := by have := u1.high; have := u2.high; omega
  have := or_lv u2.made (u2.lv v1) v2 hl2
  have e : ((z && x) || (!z && y)) = (if z then x else y) := by cases z <;> cases x <;> cases y <;> rfl
  rwa [e] at this
end

theorem allG_snoc (g : Gr) (l : List Int) (x : Int) : allG g (l ++ [x]) = allStep (allG g l) x := by simp [allG, List.foldl_append]
theorem all_up {g : Gr} (hm : Made g.n g.ands) : ∀ {l : List Int}, (∀ x ∈ l, isL x g.len = true) → g.len + l.length ≤ 8000 → Up g (allG g l).2 l.length ∧ isL (allG g l).1 (allG g l).2.len = true := by
  intro l
  induction l using snocRec with
  | nil => intro _ _; exact ⟨Up.refl hm, by rw [isL_iff]; show (0 : Int) ≤ 1 ∧ (1 : Int) ≤ _; omega⟩
  | more l x ih =>
    intro hx hl
    simp at hl
    obtain ⟨u, lit⟩ := ih (fun y hy => hx y (List.mem_append_left _ hy)) (by omega)
    rw [allG_snoc]
    have hl1 : (allG g l).2.len < 8000 := by have := u.high; omega
    have hx1 := u.isL (hx x (by simp))
    have := u.trans (and_up u.made lit hx1 hl1)
    exact ⟨by rw [List.length_append]; exact this, and_isL u.made lit hx1 hl1⟩
theorem all_lv {g : Gr} {inp : List Bool} {f : Int → Bool} (hm : Made g.n g.ands) : ∀ {l : List Int}, (∀ x ∈ l, Lv g inp x (f x)) → g.len + l.length ≤ 8000 → Lv (allG g l).2 inp (allG g l).1 (l.all f) := by
  intro l
  induction l using snocRec with
  | nil => intro _ _; exact one_lv g inp
  | more l x ih =>
    intro hx hl
    simp at hl
    have u := (all_up hm (l := l) (fun y hy => (hx y (List.mem_append_left _ hy)).lit) (by omega)).1
    have v := ih (fun y hy => hx y (List.mem_append_left _ hy)) (by omega)
    rw [allG_snoc]
    have := and_lv u.made v (u.lv (hx x (by simp))) (by have := u.high; omega)
    rw [List.all_append, show [x].all f = f x from by simp]
    exact this
theorem any_up {g : Gr} (hm : Made g.n g.ands) {l : List Int} (hx : ∀ x ∈ l, isL x g.len = true) (hl : g.len + l.length ≤ 8000) : Up g (anyG g l).2 l.length ∧ isL (anyG g l).1 (anyG g l).2.len = true := by
  have := all_up hm (l := l.map notL) (by intro x h; obtain ⟨y, hy, rfl⟩ := List.mem_map.1 h; exact notL_range (hx y hy)) (by simpa using hl)
  exact ⟨by have h := this.1; rw [List.length_map] at h; exact h, notL_range this.2⟩
theorem any_lv {g : Gr} {inp : List Bool} {f : Int → Bool} (hm : Made g.n g.ands) {l : List Int} (hx : ∀ x ∈ l, Lv g inp x (f x)) (hl : g.len + l.length ≤ 8000) : Lv (anyG g l).2 inp (anyG g l).1 (l.any f) := by
  have h := not_lv (all_lv hm (l := l.map notL) (f := fun y => !(f (notL y))) (inp := inp) (by
    intro x h
    obtain ⟨y, hy, rfl⟩ := List.mem_map.1 h
    have := not_lv (hx y hy)
    rwa [notL_notL]) (by simpa using hl))
  have e : (!((l.map notL).all fun y => !(f (notL y)))) = l.any f := by
    have key : ∀ r : List Int, (!((r.map notL).all fun y => !(f (notL y)))) = r.any f := by
      intro r
      induction r with
      | nil => rfl
      | cons x r ih => simp only [List.map_cons, List.all_cons, List.any_cons, notL_notL, Bool.not_and, Bool.not_not, ih]
    exact key l
  rwa [e] at h

end Go.Proofs.YtkjlgamggkencaaDoor
