/-
  A reference's graph beside what is kept; both graphs, one step at a time.
-/
import Derived.Test.YtkjlgamggkencaaDoorMGateR
import Derived.Test.YtkjlgamggkencaaDoorMLaw9
namespace Go.Proofs.YtkjlgamggkencaaDoor
open Go.RowKit

/-- a reference's graph whose blocks are none of K -/
def OnX (K : Nat → Prop) (w : World) (gx : Nat) (x : Gr) : Prop := ∃ xp, IsX w xp gx x ∧ (∀ k, xp k → ¬ K k ∧ k < w.heap.size) ∧ ∀ k, K k → k < w.heap.size

section
variable {E : Nat → Value} {K K' S : Nat → Prop} {w w' : World} {gb gx : Nat} {g x g' x' : Gr}
theorem OnX.frm (h : OnX K w gx x) (hf : Frm (fun _ => False) w w') : OnX K w' gx x := by
  obtain ⟨fp, h1, h2, h3⟩ := h
  have hs := hf.size
  exact ⟨fp, h1.frm hf (fun _ _ => id), fun k hk => ⟨(h2 k hk).1, by have := (h2 k hk).2; omega⟩, fun k hk => by have := h3 k hk; omega⟩
theorem OnX.drewN (h : OnX K w gx x) (n : Nat) : OnX K (w.drewN n) gx x := h.frm ((Frm.refl _ w).drewN n)
theorem OnX.wideK (h : OnX K w gx x) (hf : Frm S w w') (hS : ∀ k, k < w.heap.size → S k → K k) (hK : ∀ k, K' k → K k ∨ (w.heap.size ≤ k ∧ k < w'.heap.size)) : OnX K' w' gx x := by
  obtain ⟨fp, h1, h2, h3⟩ := h
  have hs := hf.size
  refine ⟨fp, h1.frm hf (fun k hk e => (h2 k hk).1 (hS k (h2 k hk).2 e)), fun k hk => ⟨fun h => ?_, by have := (h2 k hk).2; omega⟩, fun k hk => ?_⟩
  · rcases hK k h with h | h
    · exact (h2 k hk).1 h
    · have := (h2 k hk).2; omega
  · rcases hK k hk with h | h
    · have := h3 k h; omega
    · exact h.2
theorem OnX.wide (h : OnX K w gx x) (hf : Frm (fun _ => False) w w') (hK : ∀ k, K' k → K k ∨ (w.heap.size ≤ k ∧ k < w'.heap.size)) : OnX K' w' gx x := h.wideK hf (fun _ _ h => h.elim) hK
theorem OnX.frmK (h : OnX K w gx x) (hf : Frm S w w') (hS : ∀ k, S k → K k) : OnX K w' gx x := h.wideK hf (fun k _ h => hS k h) (fun _ h => .inl h)
theorem OnX.step (h : OnX K w gx x) : ∃ xp, IsX w xp gx x ∧ (∀ k, xp k → k < w.heap.size) ∧ (∀ k, K k → ¬ xp k ∧ k < w.heap.size) ∧ ∀ w' x', XStep xp gx w w' x' → OnX K w' gx x' ∧ Frm (fun k => ¬ K k) w w' := by
  obtain ⟨fp, h1, h2, h3⟩ := h
  refine ⟨fp, h1, fun k hk => (h2 k hk).2, fun k hk => ⟨fun h => (h2 k h).1 hk, h3 k hk⟩, fun w' g' ⟨fp', q1, q2, q3⟩ => ?_⟩
  have hs := q3.size
  refine ⟨⟨fp', q1, fun k hk => ?_, fun k hk => by have := h3 k hk; omega⟩, q3.mono fun k _ hk => (h2 k hk).1⟩
  rcases q2 k hk with h | h
  · exact ⟨(h2 k h).1, by have := (h2 k h).2; omega⟩
  · exact ⟨fun hK => by have := h3 k hK; omega, h.2⟩
theorem onx_call {f : FuncId} {args : Array Value} {R : Value} {x' : Gr} (h : OnX K w gx x)
    (hc : ∀ xp, IsX w xp gx x → (∀ k, xp k → k < w.heap.size) → (∀ k, K k → ¬ xp k ∧ k < w.heap.size) → Calls Tryd.prog f args w (fun e w' => e = .returned R ∧ XStep xp gx w w' x')) :
    Calls Tryd.prog f args w (fun e w' => e = .returned R ∧ OnX K w' gx x' ∧ Frm (fun k => ¬ K k) w w') := by
  obtain ⟨xp, h1, h2, h3, h4⟩ := h.step
  refine (hc xp h1 h2 h3).mono ?_
  rintro e w' ⟨rfl, hst⟩
  exact ⟨rfl, h4 w' x' hst⟩
theorem onx_and (h : OnX K w gx x) (a b : Int) (hl : x.len < 8000) :
    Calls Tryd.prog 33 #[.pointer (some ⟨gx, 0, none⟩), .int .i64 a, .int .i64 b] w (fun e w' => e = .returned (.int .i64 (x.and a b).1) ∧ OnX K w' gx (x.and a b).2 ∧ Frm (fun k => ¬ K k) w w') :=
  onx_call h fun xp hG hx _ => xand_any xp gx x w a b hG hx hl
theorem onx_or (h : OnX K w gx x) (a b : Int) (h1 : isL a x.len = true) (h2 : isL b x.len = true) (hl : x.len < 8000) :
    Calls Tryd.prog 80 #[.pointer (some ⟨gx, 0, none⟩), .int .i64 a, .int .i64 b] w (fun e w' => e = .returned (.int .i64 (orG x a b).1) ∧ OnX K w' gx (orG x a b).2 ∧ Frm (fun k => ¬ K k) w w') :=
  onx_call h fun xp hG hx _ => xor__any xp gx x w a b hG hx h1 h2 hl
theorem onx_xor (h : OnX K w gx x) (a b : Int) (h1 : isL a x.len = true) (h2 : isL b x.len = true) (hl : x.len + 2 < 8000) :
    Calls Tryd.prog 81 #[.pointer (some ⟨gx, 0, none⟩), .int .i64 a, .int .i64 b] w (fun e w' => e = .returned (.int .i64 (xorG x a b).1) ∧ OnX K w' gx (xorG x a b).2 ∧ Frm (fun k => ¬ K k) w w') :=
  onx_call h fun xp hG hx _ => xxor_any xp gx x w a b hG hx h1 h2 hl
theorem onx_mux (h : OnX K w gx x) (c a b : Int) (h0 : isL c x.len = true) (h1 : isL a x.len = true) (h2 : isL b x.len = true) (hl : x.len + 2 < 8000) :
    Calls Tryd.prog 82 #[.pointer (some ⟨gx, 0, none⟩), .int .i64 c, .int .i64 a, .int .i64 b] w (fun e w' => e = .returned (.int .i64 (muxG x c a b).1) ∧ OnX K w' gx (muxG x c a b).2 ∧ Frm (fun k => ¬ K k) w w') :=
  onx_call h fun xp hG hx _ => xmux_any xp gx x w c a b hG hx h0 h1 h2 hl
theorem onx_all (h : OnX K w gx x) (A : Option Addr) (n c : Nat) (F : Nat → Prop) (l : List Int) (hn : l.length = n) (hs : Sl w F 1 (.slice A n c) n (l.map (.int .i64))) (hF : ∀ k, F k → K k) (hx : ∀ y ∈ l, isL y x.len = true) (hl : x.len + n ≤ 8000) :
    Calls Tryd.prog 83 #[.pointer (some ⟨gx, 0, none⟩), .slice A n c] w (fun e w' => e = .returned (.int .i64 (allG x l).1) ∧ OnX K w' gx (allG x l).2 ∧ Frm (fun k => ¬ K k) w w') :=
  onx_call h fun xp hG hxp hK => xall_any xp gx x w A n c F l hG hxp hn hs (fun k hk => hK k (hF k hk)) hx hl
theorem onx_any (h : OnX K w gx x) (A : Option Addr) (n c : Nat) (F : Nat → Prop) (l : List Int) (hn : l.length = n) (hs : Sl w F 1 (.slice A n c) n (l.map (.int .i64))) (hx : ∀ y ∈ l, isL y x.len = true) (hl : x.len + n ≤ 8000) :
    Calls Tryd.prog 84 #[.pointer (some ⟨gx, 0, none⟩), .slice A n c] w (fun e w' => e = .returned (.int .i64 (anyG x l).1) ∧ OnX K w' gx (anyG x l).2 ∧ Frm (fun k => ¬ K k) w w') :=
  onx_call h fun xp hG hxp _ => xany_any xp gx x w A n c F l hG hxp hn hs hx hl
theorem onx_circuit (h : OnX K w gx x) (A0 : Option Addr) (k c0 : Nat) (F : Nat → Prop) (l : List Int) (hk : l.length = k) (hb : k ≤ 1000000) (hs : Sl w F 1 (.slice A0 k c0) k (l.map (.int .i64))) :
    Calls Tryd.prog 39 #[.pointer (some ⟨gx, 0, none⟩), .slice A0 k c0] w fun e w' => ∃ v, e = .returned v ∧ IsC w' (fun k => w.heap.size ≤ k) v x.n x.ands l ∧ Frm (fun _ => False) w w' := by
  obtain ⟨xp, h1, _⟩ := h
  exact xcircuit_any xp gx x w h1 A0 k c0 F l hk hb hs
theorem onx_new (i : Int) (w : World) :
    Calls Tryd.prog 30 #[.int .i64 i] w fun e w' => ∃ gx, e = .returned (.pointer (some ⟨gx, 0, none⟩)) ∧ OnX (fun k => k < w.heap.size) w' gx ⟨clamp i, [], 0⟩ ∧ Frm (fun _ => False) w w' := by
  refine (xnew_any i w).mono ?_
  rintro e w' ⟨rfl, h1, h2, h3⟩
  exact ⟨_, rfl, ⟨_, h1, fun k hk => by omega, fun k hk => by omega⟩, h2⟩

/-- an input of the reference's graph -/
theorem onx_in (h : OnX K w gx x) (i : Int) (h0 : 0 ≤ i) (h1 : i < x.n) :
    Calls Tryd.prog 35 #[.pointer (some ⟨gx, 0, none⟩), .int .i64 i] w fun e w' => e = .returned (.int .i64 (2 * (i + 1))) ∧ w = w' := by
  obtain ⟨xp, ⟨q0, q1, A, c, hb, hs⟩, _⟩ := h
  have q := hb.at_ 0 rfl
  have e1 : ¬ i < 0 := by omega
  have e2 : decide ((x.n : Int) ≤ i) = false := by simp; omega
  have w1 : IntKind.i64.wrap (i + 1) = i + 1 := IntWalk.i64_in _ (by omega)
  have w2 : IntKind.i64.wrap (2 * (i + 1)) = 2 * (i + 1) := IntWalk.i64_in _ (by omega)
  clear hb hs q0 q1
  go_enter Tryd.func35, Tryd.ntmps35
  go_wp2_with fail
  go_ret
  exact ⟨rfl, rfl⟩

/-! ### both -/
theorem Pr.lift (h : Pr E K w gb g gx x) : ∃ xp : Nat → Prop, On E (fun k => K k ∨ xp k) w gb g ∧ ∀ w' g', On E (fun k => K k ∨ xp k) w' gb g' → Frm (fun k => ¬ (K k ∨ xp k)) w w' → Pr E K w' gb g' gx x ∧ Frm (fun k => ¬ K k) w w' := by
  obtain ⟨fp, xp, h1, h2, h3, h4, h5, h6⟩ := h
  refine ⟨xp, ⟨fp, h1, fun k hk => ⟨fun h => by rcases h with h | h; exact (h4 k hk).1 h; exact h3 k hk h, (h4 k hk).2⟩, fun k hk => by rcases hk with h | h; exact h6 k h; exact (h5 k h).2⟩, ?_⟩
  rintro w' g' ⟨fp', q1, q2, q3⟩ hf
  have hs := hf.size
  refine ⟨⟨fp', xp, q1, h2.frm hf (fun k hk h => h (.inr hk)), fun k hk hx => (q2 k hk).1 (.inr hx), fun k hk => ⟨fun h => (q2 k hk).1 (.inl h), (q2 k hk).2⟩, fun k hk => ⟨(h5 k hk).1, q3 k (.inr hk)⟩, fun k hk => q3 k (.inl hk)⟩, hf.mono fun k _ h hK => h (.inl hK)⟩
theorem Pr.liftX (h : Pr E K w gb g gx x) : ∃ fp : Nat → Prop, OnX (fun k => K k ∨ fp k) w gx x ∧ ∀ w' x', OnX (fun k => K k ∨ fp k) w' gx x' → Frm (fun k => ¬ (K k ∨ fp k)) w w' → Pr E K w' gb g gx x' ∧ Frm (fun k => ¬ K k) w w' := by
  obtain ⟨fp, xp, h1, h2, h3, h4, h5, h6⟩ := h
  refine ⟨fp, ⟨xp, h2, fun k hk => ⟨fun h => by rcases h with h | h; exact (h5 k hk).1 h; exact h3 k h hk, (h5 k hk).2⟩, fun k hk => by rcases hk with h | h; exact h6 k h; exact (h4 k h).2⟩, ?_⟩
  rintro w' g' ⟨xp', q1, q2, q3⟩ hf
  have hs := hf.size
  refine ⟨⟨fp, xp', h1.frm hf (fun k hk h => h (.inr hk)), q1, fun k hk hx => (q2 k hx).1 (.inr hk), fun k hk => ⟨(h4 k hk).1, q3 k (.inr hk)⟩, fun k hk => ⟨fun h => (q2 k hk).1 (.inl h), (q2 k hk).2⟩, fun k hk => q3 k (.inl hk)⟩, hf.mono fun k _ h hK => h (.inl hK)⟩
/-- a call on the graph -/
theorem pr_call {f : FuncId} {args : Array Value} {R : Value} (h : Pr E K w gb g gx x)
    (hc : ∀ K' : Nat → Prop, (∀ k, K k → K' k) → On E K' w gb g → Calls Tryd.prog f args w (fun e w' => e = .returned R ∧ On E K' w' gb g' ∧ Frm (fun k => ¬ K' k) w w')) :
    Calls Tryd.prog f args w (fun e w' => e = .returned R ∧ Pr E K w' gb g' gx x ∧ Frm (fun k => ¬ K k) w w') := by
  obtain ⟨xp, h1, h2⟩ := h.lift
  refine (hc _ (fun k hk => .inl hk) h1).mono ?_
  rintro e w' ⟨rfl, q1, q2⟩
  exact ⟨rfl, h2 w' _ q1 q2⟩
/-- a call on the reference's -/
theorem pr_callX {f : FuncId} {args : Array Value} {R : Value} (h : Pr E K w gb g gx x)
    (hc : ∀ K' : Nat → Prop, (∀ k, K k → K' k) → OnX K' w gx x → Calls Tryd.prog f args w (fun e w' => e = .returned R ∧ OnX K' w' gx x' ∧ Frm (fun k => ¬ K' k) w w')) :
    Calls Tryd.prog f args w (fun e w' => e = .returned R ∧ Pr E K w' gb g gx x' ∧ Frm (fun k => ¬ K k) w w') := by
  obtain ⟨fp, h1, h2⟩ := h.liftX
  refine (hc _ (fun k hk => .inl hk) h1).mono ?_
  rintro e w' ⟨rfl, q1, q2⟩
  exact ⟨rfl, h2 w' _ q1 q2⟩
theorem Pr.onx (h : Pr E K w gb g gx x) : OnX K w gx x := by
  obtain ⟨fp, xp, h1, h2, h3, h4, h5, h6⟩ := h
  exact ⟨xp, h2, h5, h6⟩
end

end Go.Proofs.YtkjlgamggkencaaDoor
