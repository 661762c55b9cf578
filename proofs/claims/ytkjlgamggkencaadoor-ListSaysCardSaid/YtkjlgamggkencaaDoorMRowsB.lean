/-
  Rows of rows of booleans in memory.
-/
import Derived.Test.YtkjlgamggkencaaDoorMBase
namespace Go.Proofs.YtkjlgamggkencaaDoor
open Go.RowKit

/-- each value is a slice that reads as its list -/
def EachB (w : World) (F : Nat → Prop) (vs : List Value) (cs : List (List Bool)) : Prop :=
  vs.length = cs.length ∧ ∀ (i : Nat) (c : List Bool), cs[i]? = some c → ∃ A d, vs[i]? = some (.slice A c.length d) ∧ Sl w F 1 (.slice A c.length d) c.length (c.map .bool)
/-- v: n rows of booleans -/
def RwB (w : World) (F : Nat → Prop) (v : Value) (n : Nat) (cs : List (List Bool)) : Prop := cs.length = n ∧ ∃ vs, Sl w F 1 v n vs ∧ EachB w F vs cs

section
variable {S F G : Nat → Prop} {w w' : World} {vs vs' : List Value} {cs cs' : List (List Bool)} {v : Value} {n : Nat}
theorem EachB.nil : EachB w F [] [] := ⟨rfl, fun i c h => by simp at h⟩
theorem EachB.frm (h : EachB w F vs cs) (hf : Frm S w w') (hd : ∀ k, F k → ¬ S k) : EachB w' F vs cs :=
  ⟨h.1, fun i c hc => by obtain ⟨A, d, h1, h2⟩ := h.2 i c hc; exact ⟨A, d, h1, h2.frm hf hd⟩⟩
theorem EachB.mono (h : EachB w F vs cs) (hd : ∀ k, k < w.heap.size → F k → G k) : EachB w G vs cs :=
  ⟨h.1, fun i c hc => by obtain ⟨A, d, h1, h2⟩ := h.2 i c hc; exact ⟨A, d, h1, h2.mono hd⟩⟩
theorem EachB.append (h : EachB w F vs cs) (h' : EachB w F vs' cs') : EachB w F (vs ++ vs') (cs ++ cs') := by
  refine ⟨by simp [h.1, h'.1], fun i c hc => ?_⟩
  rcases Nat.lt_or_ge i cs.length with hi | hi
  · rw [List.getElem?_append_left hi] at hc
    obtain ⟨A, d, h1, h2⟩ := h.2 i c hc
    exact ⟨A, d, by rw [List.getElem?_append_left (by rw [h.1]; exact hi)]; exact h1, h2⟩
  · rw [List.getElem?_append_right hi] at hc
    obtain ⟨A, d, h1, h2⟩ := h'.2 _ c hc
    exact ⟨A, d, by rw [List.getElem?_append_right (by rw [h.1]; exact hi), h.1]; exact h1, h2⟩
theorem EachB.one {A : Option Addr} {d : Nat} {c : List Bool} (h : Sl w F 1 (.slice A c.length d) c.length (c.map .bool)) : EachB w F [.slice A c.length d] [c] := by
  refine ⟨rfl, fun i c' hc => ?_⟩
  cases i with
  | zero => simp at hc; subst hc; exact ⟨A, d, rfl, h⟩
  | succ i => simp at hc
theorem EachB.at_ (h : EachB w F vs cs) {k : Nat} (hk : k < cs.length) : ∃ A d, vs[k]? = some (.slice A (cs.getD k []).length d) ∧ Sl w F 1 (.slice A (cs.getD k []).length d) (cs.getD k []).length ((cs.getD k []).map .bool) :=
  h.2 k _ (by simp [List.getD, hk])
theorem RwB.frm (h : RwB w F v n cs) (hf : Frm S w w') (hd : ∀ k, F k → ¬ S k) : RwB w' F v n cs := by
  obtain ⟨h0, vs, h1, h2⟩ := h; exact ⟨h0, vs, h1.frm hf hd, h2.frm hf hd⟩
theorem RwB.mono (h : RwB w F v n cs) (hd : ∀ k, k < w.heap.size → F k → G k) : RwB w G v n cs := by
  obtain ⟨h0, vs, h1, h2⟩ := h; exact ⟨h0, vs, h1.mono hd, h2.mono hd⟩
theorem RwB.nil_ (w : World) (F : Nat → Prop) : RwB w F (.slice none 0 0) 0 [] := ⟨rfl, [], Sl.nil_ _ _ _, EachB.nil⟩
/-- the row at index k -/
theorem RwB.at_ {A : Option Addr} {c : Nat} (h : RwB w F (.slice A n c) n cs) {k : Nat} (hk : k < n) : ∃ b o B d, A = some ⟨b, o, none⟩ ∧ F b ∧ w.cell? ⟨b, o + k, none⟩ = some (.slice B (cs.getD k []).length d) ∧
    Sl w F 1 (.slice B (cs.getD k []).length d) (cs.getD k []).length ((cs.getD k []).map .bool) := by
  obtain ⟨h0, vs, h1, h2⟩ := h
  obtain ⟨b, o, u, rfl, hF, hu, hc⟩ := h1.at_ hk
  obtain ⟨B, d, h3, h4⟩ := h2.at_ (k := k) (by omega)
  rw [h3] at hu
  cases hu
  exact ⟨b, o, B, d, rfl, hF, hc, h4⟩
theorem RwB.form (h : RwB w F v n cs) : ∃ A c, v = .slice A n c ∧ n ≤ c ∧ (A = none → c = 0) := by
  obtain ⟨h0, vs, h1, h2⟩ := h; exact h1.form
end

/-- rows of rows that grow: the outer row's own block is none of the inner ones' -/
def RwBO (w : World) (base : Nat) (e : TypeId) (v : Value) (n : Nat) (cs : List (List Bool)) : Prop := cs.length = n ∧ ∃ vs, w.ownsRow base e 1 v n vs ∧ EachB w (fun k => base ≤ k ∧ v.ownBlock ≠ some k) vs cs
section
variable {S G : Nat → Prop} {w w' w2 : World} {base m n : Nat} {e : TypeId} {v v' : Value} {vs news : List Value} {cs cs' : List (List Bool)}
theorem RwBO.nil_ (w : World) (base : Nat) (e : TypeId) : RwBO w base e (.slice none 0 0) 0 [] := ⟨rfl, [], World.ownsRow_nil _ _ _ _, EachB.nil⟩
theorem RwBO.frm (h : RwBO w base e v n cs) (hf : Frm S w w') (hd : ∀ k, base ≤ k → ¬ S k) : RwBO w' base e v n cs := by
  obtain ⟨h0, vs, h1, h2⟩ := h
  exact ⟨h0, vs, own_frm h1 hf (fun k hk => hd k (h1.lt k hk).1), h2.frm hf (fun k hk => hd k hk.1)⟩
theorem RwBO.rw (h : RwBO w base e v n cs) : RwB w (fun k => base ≤ k) v n cs := by
  obtain ⟨h0, vs, h1, h2⟩ := h
  exact ⟨h0, vs, (own_sl h1).mono (fun _ _ h => h.1), h2.mono (fun _ _ h => h.1)⟩
theorem RwBO.form (h : RwBO w base e v n cs) : ∃ A c, v = .slice A n c ∧ n ≤ c ∧ (A = none → c = 0) := h.rw.form
/-- what an append leaves -/
theorem RwBO.more (h0 : cs.length = n) (h2 : EachB w (fun k => base ≤ k ∧ v.ownBlock ≠ some k) vs cs) (hm : cs'.length = m) (hn : EachB w G news cs') (hG : ∀ k, k < w.heap.size → G k → base ≤ k ∧ v.ownBlock ≠ some k)
    (hown : w2.ownsRow base e 1 v' (n + m) (vs ++ news)) (hg : w.grownBy w2 v.ownBlock) (h5 : v'.ownBlock = v.ownBlock ∨ v'.ownBlock = some w.heap.size) : RwBO w2 base e v' (n + m) (cs ++ cs') := by
  refine ⟨by simp [h0, hm], vs ++ news, hown, ?_⟩
  have hfr : Frm (fun k => v.ownBlock = some k) w w2 := (Frm.refl _ w).grown hg (fun k hk _ => hk)
  have hall := h2.append (hn.mono hG)
  have h3 := (hall.mono (G := fun k => (base ≤ k ∧ v.ownBlock ≠ some k) ∧ k < w.heap.size) (fun k hk h => ⟨h, hk⟩)).frm hfr (fun k hk e => hk.1.2 e)
  refine h3.mono fun k _ hk => ⟨hk.1.1, fun e => ?_⟩
  rcases h5 with h | h
  · exact hk.1.2 (h ▸ e)
  · rw [h] at e
    have := hk.2
    cases e
    omega
end

end Go.Proofs.YtkjlgamggkencaaDoor
