/-
  Clauses out of few numbers, clauses as gates: over lists alone.
-/
import Derived.Test.YtkjlgamggkencaaDoorGateP
namespace Go.Proofs.YtkjlgamggkencaaDoor

/-- a literal of few variables -/
def mkLit (x : Int) (vars : Nat) : Int := if x % (2 * (vars : Int)) < vars then x % (2 * (vars : Int)) + 1 else vars - x % (2 * (vars : Int)) - 1
def mkcCut (s : List (List Int) × List Int) (x : Int) : List (List Int) × List Int := if (x % 7 = 0 ∧ 0 < s.2.length) ∨ 5 ≤ s.2.length then (s.1 ++ [s.2], []) else s
def mkcStep (vars : Nat) (s : List (List Int) × List Int) (x : Int) : List (List Int) × List Int := ((mkcCut s x).1, (mkcCut s x).2 ++ [mkLit (x % 1099511627776 / 7) vars])
def mkcRun (vars : Nat) (l : List Int) : List (List Int) × List Int := l.foldl (mkcStep vars) ([], [])
def mkClauses (l : List Int) (vars : Nat) : List (List Int) := if 0 < (mkcRun vars l).2.length then (mkcRun vars l).1 ++ [(mkcRun vars l).2] else (mkcRun vars l).1

theorem mkcRun_snoc (vars : Nat) (l : List Int) (x : Int) : mkcRun vars (l ++ [x]) = mkcStep vars (mkcRun vars l) x := by simp [mkcRun, List.foldl_append]
theorem mkcRun_take (vars : Nat) (l : List Int) {k : Nat} (hk : k < l.length) : mkcRun vars (l.take (k + 1)) = mkcStep vars (mkcRun vars (l.take k)) (l.getD k 0) := by
  rw [List.take_succ_eq_append_getElem hk, mkcRun_snoc]; simp [List.getD, hk]

/-- a literal of so many variables -/
def OkLit (vars : Nat) (x : Int) : Prop := x ≠ 0 ∧ -(vars : Int) ≤ x ∧ x ≤ vars
theorem mkLit_ok (x : Int) (vars : Nat) (h : 0 < vars) : OkLit vars (mkLit x vars) := by
  have h1 := Int.emod_nonneg x (b := 2 * (vars : Int)) (by omega)
  have h2 := Int.emod_lt_of_pos x (b := 2 * (vars : Int)) (by omega)
  unfold OkLit mkLit
  split <;> omega

structure MkcOk (vars : Nat) (s : List (List Int) × List Int) (k : Nat) : Prop where
  outs : ∀ c ∈ s.1, c.length ≤ 5 ∧ 0 < c.length ∧ ∀ x ∈ c, OkLit vars x
  cur : s.2.length ≤ 5 ∧ ∀ x ∈ s.2, OkLit vars x
  many : (s.1.map List.length).sum + s.2.length = k

theorem mkcRun_ok {vars : Nat} (h : 0 < vars) (l : List Int) : MkcOk vars (mkcRun vars l) l.length := by
  refine snocRec (C := fun l => MkcOk vars (mkcRun vars l) l.length) ⟨by simp [mkcRun], by simp [mkcRun], rfl⟩ ?_ l
  intro l x ih
  rw [mkcRun_snoc]
  have hx := mkLit_ok (x % 1099511627776 / 7) vars h
  obtain ⟨i1, i2, i3⟩ := ih
  generalize mkcRun vars l = s at *
  unfold mkcStep mkcCut
  split
  · rename_i hc
    refine ⟨?_, ⟨by simp, by intro y hy; simp at hy; subst hy; exact hx⟩, by simp at i3 ⊢; omega⟩
    intro c hcm
    rcases List.mem_append.1 hcm with h1 | h1
    · exact i1 c h1
    · simp at h1
      subst h1
      exact ⟨i2.1, by omega, i2.2⟩
  · rename_i hc
    refine ⟨i1, ⟨by simp; omega, ?_⟩, by simp at i3 ⊢; omega⟩
    intro y hy
    rcases List.mem_append.1 hy with h1 | h1
    · exact i2.2 y h1
    · simp at h1; subst h1; exact hx

theorem mkClauses_ok {vars : Nat} (h : 0 < vars) (l : List Int) : (∀ c ∈ mkClauses l vars, c.length ≤ 5 ∧ 0 < c.length ∧ ∀ x ∈ c, OkLit vars x) ∧ ((mkClauses l vars).map List.length).sum = l.length := by
  obtain ⟨i1, i2, i3⟩ := mkcRun_ok h l
  unfold mkClauses
  split
  · rename_i hp
    refine ⟨?_, by simp at i3 ⊢; omega⟩
    intro c hc
    rcases List.mem_append.1 hc with h1 | h1
    · exact i1 c h1
    · simp at h1; subst h1; exact ⟨i2.1, hp, i2.2⟩
  · rename_i hp
    refine ⟨i1, by omega⟩
theorem sum_ge_length {l : List Nat} (h : ∀ x ∈ l, 0 < x) : l.length ≤ l.sum := by
  induction l with
  | nil => simp
  | cons x r ih =>
    have h1 := h x (by simp)
    have h2 := ih (fun y hy => h y (by simp [hy]))
    simp; omega
theorem mkClauses_few {vars : Nat} (h : 0 < vars) (l : List Int) : (mkClauses l vars).length ≤ l.length := by
  obtain ⟨h1, h2⟩ := mkClauses_ok h l
  have := sum_ge_length (l := (mkClauses l vars).map List.length) (by intro x hx; obtain ⟨c, hc, rfl⟩ := List.mem_map.1 hx; exact (h1 c hc).2.1)
  simp at this; omega

/-! ### as gates -/
/-- a clause's literal as a graph's -/
def inG (l : Int) : Int := if l < 0 then 2 * -l + 1 else 2 * l
def clStep (s : List Int × Gr) (c : List Int) : List Int × Gr := (s.1 ++ [(anyG s.2 (c.map inG)).1], (anyG s.2 (c.map inG)).2)
def clRun (g : Gr) (cs : List (List Int)) : List Int × Gr := cs.foldl clStep ([], g)
def clG (g : Gr) (cs : List (List Int)) : Int × Gr := allG (clRun g cs).2 (clRun g cs).1
/-- is a literal true of the inputs? -/
def litV (inp : List Bool) (l : Int) : Bool := if 0 < l then inp.getD (l - 1).toNat false else !inp.getD (-l - 1).toNat false

theorem clRun_snoc (g : Gr) (cs : List (List Int)) (c : List Int) : clRun g (cs ++ [c]) = clStep (clRun g cs) c := by simp [clRun, List.foldl_append]
theorem clRun_take (g : Gr) (cs : List (List Int)) {k : Nat} (hk : k < cs.length) : clRun g (cs.take (k + 1)) = clStep (clRun g (cs.take k)) (cs.getD k []) := by
  rw [List.take_succ_eq_append_getElem hk, clRun_snoc]; simp [List.getD, hk]

theorem inG_isL {vars : Nat} {x : Int} (h : OkLit vars x) : isL (inG x) vars = true := by
  obtain ⟨h0, h1, h2⟩ := h
  rw [isL_iff]; unfold inG; split <;> omega
theorem vals_succ {n k : Nat} {inp : List Bool} (h : k < n) : (valsN n inp).getD (k + 1) false = inp.getD k false := by simp [valsN, List.getD, h]
theorem inG_lv {g : Gr} {inp : List Bool} {x : Int} (h : OkLit g.n x) : Lv g inp (inG x) (litV inp x) := by
  have hl := inG_isL h
  obtain ⟨h0, h1, h2⟩ := h
  refine ⟨?_, ?_⟩
  · rw [isL_iff] at hl ⊢; unfold Gr.len; omega
  · obtain ⟨u, hu⟩ := more_prefix (valsN g.n inp) g.ands
    unfold Gr.nod nodes
    rw [hu, worth_append (by rw [valsN_length]; have := isL_iff.1 hl; omega)]
    unfold worth inG litV
    by_cases hx : x < 0
    · rw [if_pos hx, if_neg (by omega), show ((2 * -x + 1) / 2).toNat = (-x - 1).toNat + 1 from by omega, decide_eq_true (by omega)]
      rw [vals_succ (by omega)]; simp
    · rw [if_neg hx, if_pos (by omega), show (2 * x / 2).toNat = (x - 1).toNat + 1 from by omega, decide_eq_false (by omega)]
      rw [vals_succ (by omega)]; simp

structure ClInv (g g' : Gr) (zs : List Int) (cs : List (List Int)) (k : Nat) : Prop where
  up : Up g g' k
  lits : ∀ x ∈ zs, isL x g'.len = true
  many : zs.length = cs.length
  val : ∀ inp, zs.map (worth (g'.nod inp)) = cs.map fun c => c.any (litV inp)

theorem any_up_len {g : Gr} (hm : Made g.n g.ands) {c : List Int} (hc : ∀ x ∈ c, OkLit g.n x) (hl : g.len + c.length ≤ 8000) : Up g (anyG g (c.map inG)).2 c.length ∧ isL (anyG g (c.map inG)).1 (anyG g (c.map inG)).2.len = true := by
  have := any_up hm (l := c.map inG) (by
    intro x hx
    obtain ⟨y, hy, rfl⟩ := List.mem_map.1 hx
    have := inG_isL (hc y hy)
    rw [isL_iff] at this ⊢; unfold Gr.len; omega) (by simpa using hl)
  simpa using this

theorem clRun_inv {g : Gr} (hm : Made g.n g.ands) : ∀ {cs : List (List Int)}, (∀ c ∈ cs, ∀ x ∈ c, OkLit g.n x) → g.len + (cs.map List.length).sum ≤ 8000 → ClInv g (clRun g cs).2 (clRun g cs).1 cs (cs.map List.length).sum := by
  intro cs
  refine snocRec (C := fun cs => (∀ c ∈ cs, ∀ x ∈ c, OkLit g.n x) → g.len + (cs.map List.length).sum ≤ 8000 → ClInv g (clRun g cs).2 (clRun g cs).1 cs (cs.map List.length).sum) ?_ ?_ cs
  · intro _ _; exact ⟨Up.refl hm, by simp [clRun], rfl, fun _ => rfl⟩
  · intro cs c ih hx hl
    simp only [List.map_append, List.map_cons, List.map_nil, List.sum_append, List.sum_cons, List.sum_nil, Nat.add_zero] at hl ⊢
    have hi := ih (fun d hd => hx d (by simp [hd])) (by omega)
    rw [clRun_snoc]
    obtain ⟨i1, i2, i3, i4⟩ := hi
    have hcx : ∀ x ∈ c, OkLit (clRun g cs).2.n x := by rw [i1.num]; exact hx c (by simp)
    have hh := i1.high
    have hm' : Made (clRun g cs).2.n (clRun g cs).2.ands := i1.made
    generalize clRun g cs = s at *
    have ha := any_up_len hm' hcx (by omega)
    refine ⟨i1.trans ha.1, ?_, by simp [clStep, i3], ?_⟩
    · intro x hxm
      rcases List.mem_append.1 hxm with h | h
      · exact ha.1.isL (i2 x h)
      · simp at h; subst h; exact ha.2
    · intro inp
      have hv := any_lv (inp := inp) (f := fun y => worth (s.2.nod inp) y) hm' (l := c.map inG) (by
        intro y hy
        obtain ⟨x, hxc, rfl⟩ := List.mem_map.1 hy
        exact ⟨(inG_lv (inp := inp) (hcx x hxc)).lit, rfl⟩) (by simp; omega)
      have hval := hv.val
      show (s.1 ++ [(anyG s.2 (c.map inG)).1]).map (worth ((anyG s.2 (c.map inG)).2.nod inp)) = _
      rw [List.map_append, List.map_append, List.map_cons, List.map_nil, hval, List.any_map]
      congr 1
      · rw [← i4 inp]
        apply List.map_congr_left
        intro x hxm
        exact (ha.1.lv (inp := inp) ⟨i2 x hxm, rfl⟩).val
      · simp only [List.map_cons, List.map_nil]
        congr 1
        rw [Bool.eq_iff_iff, List.any_eq_true, List.any_eq_true]
        constructor
        · rintro ⟨x, hxc, h⟩; exact ⟨x, hxc, by rw [← (inG_lv (inp := inp) (hcx x hxc)).val]; exact h⟩
        · rintro ⟨x, hxc, h⟩; exact ⟨x, hxc, by show worth (s.2.nod inp) (inG x) = true; rw [(inG_lv (inp := inp) (hcx x hxc)).val]; exact h⟩

theorem clG_up {g : Gr} (hm : Made g.n g.ands) {cs : List (List Int)} (hx : ∀ c ∈ cs, ∀ x ∈ c, OkLit g.n x) (hl : g.len + (cs.map List.length).sum + cs.length ≤ 8000) :
    Up g (clG g cs).2 ((cs.map List.length).sum + cs.length) ∧ isL (clG g cs).1 (clG g cs).2.len = true ∧ ∀ inp, worth ((clG g cs).2.nod inp) (clG g cs).1 = cs.all fun c => c.any (litV inp) := by
  obtain ⟨i1, i2, i3, i4⟩ := clRun_inv hm hx (by omega)
  have hh := i1.high
  have hm' : Made (clRun g cs).2.n (clRun g cs).2.ands := i1.made
  unfold clG
  generalize clRun g cs = s at *
  have ha := all_up hm' i2 (by omega)
  rw [i3] at ha
  refine ⟨i1.trans ha.1, ha.2, fun inp => ?_⟩
  have hv := all_lv (inp := inp) (f := worth (s.2.nod inp)) hm' (l := s.1) (fun x hx => ⟨i2 x hx, rfl⟩) (by omega)
  rw [hv.val]
  have := i4 inp
  rw [show s.1.all (worth (s.2.nod inp)) = (s.1.map (worth (s.2.nod inp))).all id from by rw [List.all_map]; rfl, this, List.all_map]
  rfl
end Go.Proofs.YtkjlgamggkencaaDoor
