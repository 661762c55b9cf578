/-
  The reference's And of two literals: one contract. Steps on a graph, on the reference's, on both.
-/
import Derived.Test.YtkjlgamggkencaaDoorRefNew
namespace Go.Proofs.YtkjlgamggkencaaDoor
open Go.RowKit

/-- a step on a graph whose blocks were fp -/
def GStep (E : Nat → Value) (fp : Nat → Prop) (gb : Nat) (w w' : World) (g : Gr) : Prop := ∃ fp', IsGr E w' fp' gb g ∧ Grows fp fp' w w' ∧ Frm fp w w'
/-- a step on a reference's graph whose blocks were xp -/
def XStep (xp : Nat → Prop) (gx : Nat) (w w' : World) (g : Gr) : Prop := ∃ xp', IsX w' xp' gx g ∧ Grows xp xp' w w' ∧ Frm xp w w'

theorem grow_trans {fp fp1 fp2 : Nat → Prop} {w w1 w2 : World} (g1 : Grows fp fp1 w w1) (f1 : Frm fp w w1) (g2 : Grows fp1 fp2 w1 w2) (f2 : Frm fp1 w1 w2) : Grows fp fp2 w w2 ∧ Frm fp w w2 := by
  have s1 := f1.size
  have s2 := f2.size
  refine ⟨fun k hk => ?_, f1.then' f2 fun k hk h => ?_⟩
  · rcases g2 k hk with h | h
    · rcases g1 k h with h | h
      · exact .inl h
      · exact .inr ⟨h.1, by omega⟩
    · exact .inr ⟨by omega, h.2⟩
  · rcases g1 k h with h | h
    · exact h
    · omega
theorem grow_refl (fp : Nat → Prop) (w w' : World) : Grows fp fp w w' := fun _ h => .inl h

theorem xand_any (xp : Nat → Prop) (gx : Nat) (g : Gr) (w : World) (a b : Int) (hG : IsX w xp gx g) (hx : ∀ k, xp k → k < w.heap.size) (hl : g.len < 8000) :
    Calls Tryd.prog 33 #[.pointer (some ⟨gx, 0, none⟩), .int .i64 a, .int .i64 b] w fun e w' => e = .returned (.int .i64 (g.and a b).1) ∧ XStep xp gx w w' (g.and a b).2 := by
  have own := hG.2.1
  by_cases h : isL a g.len = true ∧ isL b g.len = true
  · obtain ⟨h1, h2⟩ := h
    obtain ⟨hi, lo, he, ho⟩ := and_hi_lo a b
    have h3 : isL hi g.len = true ∧ isL lo g.len = true := by rcases ho with ⟨rfl, rfl, _⟩ | ⟨rfl, rfl, _⟩ <;> exact ⟨by assumption, by assumption⟩
    have hO := ordered_of ho
    rw [he]
    have same : ∀ {r : Int}, (Calls Tryd.prog 33 #[.pointer (some ⟨gx, 0, none⟩), .int .i64 a, .int .i64 b] w fun e w' => e = .returned (.int .i64 r) ∧ ∃ n, w.drewN n = w') → g.put hi lo = (r, g) →
        Calls Tryd.prog 33 #[.pointer (some ⟨gx, 0, none⟩), .int .i64 a, .int .i64 b] w fun e w' => e = .returned (.int .i64 (g.put hi lo).1) ∧ XStep xp gx w w' (g.put hi lo).2 := by
      intro r hc e
      rw [e]
      refine hc.mono ?_
      rintro e w' ⟨rfl, n, rfl⟩
      exact ⟨rfl, xp, hG.drewN n, grow_refl _ _ _, (Frm.refl _ _).drewN n⟩
    have plain : ∀ {r : Int}, (lo = 0 ∨ hi = notL lo ∨ lo = 1 ∨ hi = lo) → r = (if lo = 0 ∨ hi = notL lo then 0 else hi) → g.put hi lo = (r, g) →
        Calls Tryd.prog 33 #[.pointer (some ⟨gx, 0, none⟩), .int .i64 a, .int .i64 b] w fun e w' => e = .returned (.int .i64 (g.put hi lo).1) ∧ XStep xp gx w w' (g.put hi lo).2 := by
      rintro r hp rfl e
      exact same (xand_plain xp gx g w a b hi lo hG hO h3.1 h3.2 hp) e
    rcases put_cases h3.1 h3.2 hl with ⟨a1, e⟩ | ⟨a1, a2, e⟩ | ⟨a1, a2, a3, e⟩ | ⟨a1, a2, a3, a4, e⟩ | ⟨a1, a2, a3, a4, i, hi', e⟩ | ⟨a1, a2, a3, a4, hn, e⟩
    · exact plain (.inl a1) (if_pos (.inl a1)).symm e
    · by_cases h0 : hi = notL lo
      · refine plain (.inr (.inl h0)) ?_ e
        rw [if_pos (.inr h0), h0, a2]; rfl
      · exact plain (.inr (.inr (.inl a2))) (if_neg (by rintro (h | h) <;> contradiction)).symm e
    · exact plain (.inr (.inr (.inr a3))) (if_neg (by rintro (h | h); exact a1 h; exact notL_ne lo (by omega))).symm e
    · exact plain (.inr (.inl a4)) (if_pos (.inr a4)).symm e
    · exact same (xand_found xp gx g w a b hi lo i hG hO h3.1 h3.2 a1 a2 a3 a4 hi') e
    · rw [e]
      refine (xand_new xp gx g w a b hi lo hG hx hO h3.1 h3.2 a1 a2 a3 a4 hn hl).mono ?_
      rintro e w' ⟨rfl, xp', q1, q2, q3⟩
      exact ⟨rfl, xp', q1, q2, q3.mono fun k _ e => by subst e; exact own⟩
  · obtain ⟨hi, lo, he, ho⟩ := and_hi_lo a b
    have hb : (isL hi g.len && isL lo g.len) = false := by
      rcases ho with ⟨rfl, rfl, _⟩ | ⟨rfl, rfl, _⟩ <;> (rw [Bool.eq_false_iff]; intro e; simp only [Bool.and_eq_true] at e; exact h ⟨by simp [e], by simp [e]⟩)
    have hr : g.and a b = (0, g.fail 104) := by rw [he]; unfold Gr.put; rw [if_pos hb]
    rw [hr]
    refine (xand_bad xp gx g w a b hG h).mono ?_
    rintro e w' ⟨rfl, h1, h2⟩
    exact ⟨rfl, xp, h1, grow_refl _ _ _, h2.mono fun k _ e => by subst e; exact own⟩

/-! ### one graph, or both, beside what is kept -/

/-- a graph whose blocks are none of K -/
def On (E : Nat → Value) (K : Nat → Prop) (w : World) (gb : Nat) (g : Gr) : Prop := ∃ fp, IsGr E w fp gb g ∧ (∀ k, fp k → ¬ K k ∧ k < w.heap.size) ∧ ∀ k, K k → k < w.heap.size
/-- a graph, a reference's, whose blocks are none of K -/
def Pr (E : Nat → Value) (K : Nat → Prop) (w : World) (gb : Nat) (g : Gr) (gx : Nat) (x : Gr) : Prop :=
  ∃ fp xp, IsGr E w fp gb g ∧ IsX w xp gx x ∧ (∀ k, fp k → ¬ xp k) ∧ (∀ k, fp k → ¬ K k ∧ k < w.heap.size) ∧ (∀ k, xp k → ¬ K k ∧ k < w.heap.size) ∧ ∀ k, K k → k < w.heap.size

section
variable {E : Nat → Value} {K S : Nat → Prop} {w w' : World} {gb gx : Nat} {g x g' x' : Gr}

theorem On.frm (h : On E K w gb g) (hf : Frm (fun _ => False) w w') : On E K w' gb g := by
  obtain ⟨fp, h1, h2, h3⟩ := h
  have hs := hf.size
  exact ⟨fp, h1.frm hf (fun _ _ => id), fun k hk => ⟨(h2 k hk).1, by have := (h2 k hk).2; omega⟩, fun k hk => by have := h3 k hk; omega⟩
theorem Pr.frm (h : Pr E K w gb g gx x) (hf : Frm (fun _ => False) w w') : Pr E K w' gb g gx x := by
  obtain ⟨fp, xp, h1, h2, h3, h4, h5, h6⟩ := h
  have hs := hf.size
  exact ⟨fp, xp, h1.frm hf (fun _ _ => id), h2.frm hf (fun _ _ => id), h3, fun k hk => ⟨(h4 k hk).1, by have := (h4 k hk).2; omega⟩, fun k hk => ⟨(h5 k hk).1, by have := (h5 k hk).2; omega⟩, fun k hk => by have := h6 k hk; omega⟩
theorem On.drewN (h : On E K w gb g) (n : Nat) : On E K (w.drewN n) gb g := h.frm ((Frm.refl _ w).drewN n)
theorem Pr.drewN (h : Pr E K w gb g gx x) (n : Nat) : Pr E K (w.drewN n) gb g gx x := h.frm ((Frm.refl _ w).drewN n)
/-- more is kept: what is new -/
theorem On.wide {K' : Nat → Prop} (h : On E K w gb g) (hf : Frm (fun _ => False) w w') (hK : ∀ k, K' k → K k ∨ (w.heap.size ≤ k ∧ k < w'.heap.size)) : On E K' w' gb g := by
  obtain ⟨fp, h1, h2, h3⟩ := h
  have hs := hf.size
  refine ⟨fp, h1.frm hf (fun _ _ => id), fun k hk => ⟨fun h => ?_, by have := (h2 k hk).2; omega⟩, fun k hk => ?_⟩
  · rcases hK k h with h | h
    · exact (h2 k hk).1 h
    · have := (h2 k hk).2; omega
  · rcases hK k hk with h | h
    · have := h3 k h; omega
    · exact h.2
theorem Pr.wide {K' : Nat → Prop} (h : Pr E K w gb g gx x) (hf : Frm (fun _ => False) w w') (hK : ∀ k, K' k → K k ∨ (w.heap.size ≤ k ∧ k < w'.heap.size)) : Pr E K' w' gb g gx x := by
  obtain ⟨fp, xp, h1, h2, h3, h4, h5, h6⟩ := h
  have hs := hf.size
  refine ⟨fp, xp, h1.frm hf (fun _ _ => id), h2.frm hf (fun _ _ => id), h3, fun k hk => ⟨fun h => ?_, by have := (h4 k hk).2; omega⟩, fun k hk => ⟨fun h => ?_, by have := (h5 k hk).2; omega⟩, fun k hk => ?_⟩
  · rcases hK k h with h | h
    · exact (h4 k hk).1 h
    · have := (h4 k hk).2; omega
  · rcases hK k h with h | h
    · exact (h5 k hk).1 h
    · have := (h5 k hk).2; omega
  · rcases hK k hk with h | h
    · have := h6 k h; omega
    · exact h.2

theorem On.step (h : On E K w gb g) : ∃ fp, IsGr E w fp gb g ∧ ∀ w' g', GStep E fp gb w w' g' → On E K w' gb g' ∧ Frm (fun k => ¬ K k) w w' := by
  obtain ⟨fp, h1, h2, h3⟩ := h
  refine ⟨fp, h1, fun w' g' ⟨fp', q1, q2, q3⟩ => ?_⟩
  have hs := q3.size
  refine ⟨⟨fp', q1, fun k hk => ?_, fun k hk => by have := h3 k hk; omega⟩, q3.mono fun k _ hk => (h2 k hk).1⟩
  rcases q2 k hk with h | h
  · exact ⟨(h2 k h).1, by have := (h2 k h).2; omega⟩
  · exact ⟨fun hK => by have := h3 k hK; omega, h.2⟩
theorem Pr.step (h : Pr E K w gb g gx x) : ∃ fp, IsGr E w fp gb g ∧ ∀ w' g', GStep E fp gb w w' g' → Pr E K w' gb g' gx x ∧ Frm (fun k => ¬ K k) w w' := by
  obtain ⟨fp, xp, h1, h2, h3, h4, h5, h6⟩ := h
  refine ⟨fp, h1, fun w' g' ⟨fp', q1, q2, q3⟩ => ?_⟩
  have hs := q3.size
  refine ⟨⟨fp', xp, q1, h2.frm q3 (fun k hk hf => h3 k hf hk), fun k hk hxk => ?_, fun k hk => ?_, fun k hk => ⟨(h5 k hk).1, by have := (h5 k hk).2; omega⟩, fun k hk => by have := h6 k hk; omega⟩, q3.mono fun k _ hk => (h4 k hk).1⟩
  · rcases q2 k hk with h | h
    · exact h3 k h hxk
    · have := (h5 k hxk).2; omega
  · rcases q2 k hk with h | h
    · exact ⟨(h4 k h).1, by have := (h4 k h).2; omega⟩
    · exact ⟨fun hK => by have := h6 k hK; omega, h.2⟩
theorem Pr.stepX (h : Pr E K w gb g gx x) : ∃ xp, IsX w xp gx x ∧ (∀ k, xp k → k < w.heap.size) ∧ ∀ w' x', XStep xp gx w w' x' → Pr E K w' gb g gx x' ∧ Frm (fun k => ¬ K k) w w' := by
  obtain ⟨fp, xp, h1, h2, h3, h4, h5, h6⟩ := h
  refine ⟨xp, h2, fun k hk => (h5 k hk).2, fun w' x' ⟨xp', q1, q2, q3⟩ => ?_⟩
  have hs := q3.size
  refine ⟨⟨fp, xp', h1.frm q3 (fun k hk hx => h3 k hk hx), q1, fun k hk hxk => ?_, fun k hk => ⟨(h4 k hk).1, by have := (h4 k hk).2; omega⟩, fun k hk => ?_, fun k hk => by have := h6 k hk; omega⟩, q3.mono fun k _ hk => (h5 k hk).1⟩
  · rcases q2 k hxk with h | h
    · exact h3 k hk h
    · have := (h4 k hk).2; omega
  · rcases q2 k hk with h | h
    · exact ⟨(h5 k h).1, by have := (h5 k h).2; omega⟩
    · exact ⟨fun hK => by have := h6 k hK; omega, h.2⟩
theorem Pr.kept (h : Pr E K w gb g gx x) : ∀ k, K k → k < w.heap.size := by obtain ⟨fp, xp, h1, h2, h3, h4, h5, h6⟩ := h; exact h6
theorem Pr.on (h : Pr E K w gb g gx x) : On E K w gb g := by obtain ⟨fp, xp, h1, h2, h3, h4, h5, h6⟩ := h; exact ⟨fp, h1, h4, h6⟩
end

/-- what is kept stays: over steps on the graphs -/
theorem frm_kept {K : Nat → Prop} {w0 w w' : World} (h : Frm (fun _ => False) w0 w) (hf : Frm (fun k => ¬ K k) w w') (hK : ∀ k, k < w0.heap.size → K k) : Frm (fun _ => False) w0 w' := h.then' hf (fun k hk hn => hn (hK k hk))

/-! ### the calls, on both -/
section
variable {E : Nat → Value} {K : Nat → Prop} {w : World} {gb gx : Nat} {g x : Gr}

theorem pr_len (h : Pr E K w gb g gx x) : Calls Tryd.prog 26 #[.pointer (some ⟨gb, 0, none⟩)] w fun e w' => e = .returned (.int .i64 (g.len : Int)) ∧ ∃ n, w.drewN n = w' := by
  obtain ⟨fp, xp, h1, h2, h3, h4, h5, h6⟩ := h
  exact len_any E fp gb g w h1
theorem pr_xlen (h : Pr E K w gb g gx x) : Calls Tryd.prog 32 #[.pointer (some ⟨gx, 0, none⟩)] w fun e w' => e = .returned (.int .i64 (x.len : Int)) ∧ ∃ n, w.drewN n = w' := by
  obtain ⟨fp, xp, h1, h2, h3, h4, h5, h6⟩ := h
  exact xlen_any xp gx x w h2
theorem pr_and (h : Pr E K w gb g gx x) (a b : Int) (h1 : isL a g.len = true) (h2 : isL b g.len = true) (hl : g.len < 8000) :
    Calls Tryd.prog 27 #[.pointer (some ⟨gb, 0, none⟩), .int .i64 a, .int .i64 b] w fun e w' => e = .returned (.int .i64 (g.and a b).1) ∧ Pr E K w' gb (g.and a b).2 gx x ∧ Frm (fun k => ¬ K k) w w' := by
  obtain ⟨fp, hG, next⟩ := h.step
  refine (and_any E fp gb g w a b hG h1 h2 hl).mono ?_
  rintro e w' ⟨rfl, hs⟩
  exact ⟨rfl, next _ _ hs⟩
theorem pr_xand (h : Pr E K w gb g gx x) (a b : Int) (hl : x.len < 8000) :
    Calls Tryd.prog 33 #[.pointer (some ⟨gx, 0, none⟩), .int .i64 a, .int .i64 b] w fun e w' => e = .returned (.int .i64 (x.and a b).1) ∧ Pr E K w' gb g gx (x.and a b).2 ∧ Frm (fun k => ¬ K k) w w' := by
  obtain ⟨xp, hX, hx, next⟩ := h.stepX
  refine (xand_any xp gx x w a b hX hx hl).mono ?_
  rintro e w' ⟨rfl, hs⟩
  exact ⟨rfl, next _ _ hs⟩
theorem pr_xinput (h : Pr E K w gb g gx x) (i : Int) :
    Calls Tryd.prog 35 #[.pointer (some ⟨gx, 0, none⟩), .int .i64 i] w fun e w' => e = .returned (.int .i64 (x.input i).1) ∧ Pr E K w' gb g gx (x.input i).2 ∧ Frm (fun k => ¬ K k) w w' := by
  obtain ⟨xp, hX, hx, next⟩ := h.stepX
  refine (xinput_any xp gx x w i hX).mono ?_
  rintro e w' ⟨rfl, q1, q2⟩
  exact ⟨rfl, next _ _ ⟨xp, q1, grow_refl _ _ _, q2.mono fun k _ e => by subst e; exact hX.2.1⟩⟩
end

section
variable {L : List Nat} {P : Nat → Addr} {K : Nat → Prop} {w : World} {gb gx : Nat} {g x : Gr}
theorem pr_and_all (h104 : 104 ∈ L) (hS : Sents L P w) (h : Pr (PE P) K w gb g gx x) (a b : Int) (hl : g.len < 8000) :
    Calls Tryd.prog 27 #[.pointer (some ⟨gb, 0, none⟩), .int .i64 a, .int .i64 b] w fun e w' => e = .returned (.int .i64 (g.and a b).1) ∧ Pr (PE P) K w' gb (g.and a b).2 gx x ∧ Frm (fun k => ¬ K k) w w' := by
  obtain ⟨fp, hG, next⟩ := h.step
  refine (and_all L P h104 fp gb g w a b hS hG hl).mono ?_
  rintro e w' ⟨rfl, hs⟩
  exact ⟨rfl, next _ _ hs⟩
end

end Go.Proofs.YtkjlgamggkencaaDoor
