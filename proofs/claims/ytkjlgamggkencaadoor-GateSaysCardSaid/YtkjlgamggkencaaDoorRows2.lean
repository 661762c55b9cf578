/-
  Rows of rows of integers in memory.
-/
import Derived.Test.YtkjlgamggkencaaDoorBase2
import Derived.Test.YtkjlgamggkencaaDoorNumG
namespace Go.Proofs.YtkjlgamggkencaaDoor
open Go.RowKit

/-- each value is a slice that reads as its list -/
def Each (w : World) (F : Nat → Prop) (vs : List Value) (cs : List (List Int)) : Prop :=
  vs.length = cs.length ∧ ∀ (i : Nat) (c : List Int), cs[i]? = some c → ∃ A d, vs[i]? = some (.slice A c.length d) ∧ Sl w F 1 (.slice A c.length d) c.length (c.map (.int .i64))
/-- v: n rows of integers -/
def Rw (w : World) (F : Nat → Prop) (v : Value) (n : Nat) (cs : List (List Int)) : Prop := cs.length = n ∧ ∃ vs, Sl w F 1 v n vs ∧ Each w F vs cs

section
variable {S F G : Nat → Prop} {w w' : World} {vs vs' : List Value} {cs cs' : List (List Int)} {v : Value} {n : Nat}
theorem Each.nil : Each w F [] [] := ⟨rfl, fun i c h => by simp at h⟩
theorem Each.frm (h : Each w F vs cs) (hf : Frm S w w') (hd : ∀ k, F k → ¬ S k) : Each w' F vs cs :=
  ⟨h.1, fun i c hc => by obtain ⟨A, d, h1, h2⟩ := h.2 i c hc; exact ⟨A, d, h1, h2.frm hf hd⟩⟩
theorem Each.mono (h : Each w F vs cs) (hd : ∀ k, k < w.heap.size → F k → G k) : Each w G vs cs :=
  ⟨h.1, fun i c hc => by obtain ⟨A, d, h1, h2⟩ := h.2 i c hc; exact ⟨A, d, h1, h2.mono hd⟩⟩
theorem Each.append (h : Each w F vs cs) (h' : Each w F vs' cs') : Each w F (vs ++ vs') (cs ++ cs') := by
  refine ⟨by simp [h.1, h'.1], fun i c hc => ?_⟩
  rcases Nat.lt_or_ge i cs.length with hi | hi
  · rw [List.getElem?_append_left hi] at hc
    obtain ⟨A, d, h1, h2⟩ := h.2 i c hc
    exact ⟨A, d, by rw [List.getElem?_append_left (by rw [h.1]; exact hi)]; exact h1, h2⟩
  · rw [List.getElem?_append_right hi] at hc
    obtain ⟨A, d, h1, h2⟩ := h'.2 _ c hc
    exact ⟨A, d, by rw [List.getElem?_append_right (by rw [h.1]; exact hi), h.1]; exact h1, h2⟩
theorem Each.one {A : Option Addr} {d : Nat} {c : List Int} (h : Sl w F 1 (.slice A c.length d) c.length (c.map (.int .i64))) : Each w F [.slice A c.length d] [c] := by
  refine ⟨rfl, fun i c' hc => ?_⟩
  cases i with
  | zero => simp at hc; subst hc; exact ⟨A, d, rfl, h⟩
  | succ i => simp at hc
theorem Each.at_ (h : Each w F vs cs) {k : Nat} (hk : k < cs.length) : ∃ A d, vs[k]? = some (.slice A (cs.getD k []).length d) ∧ Sl w F 1 (.slice A (cs.getD k []).length d) (cs.getD k []).length ((cs.getD k []).map (.int .i64)) :=
  h.2 k _ (by simp [List.getD, hk])
theorem Rw.frm (h : Rw w F v n cs) (hf : Frm S w w') (hd : ∀ k, F k → ¬ S k) : Rw w' F v n cs := by
  obtain ⟨h0, vs, h1, h2⟩ := h; exact ⟨h0, vs, h1.frm hf hd, h2.frm hf hd⟩
theorem Rw.mono (h : Rw w F v n cs) (hd : ∀ k, k < w.heap.size → F k → G k) : Rw w G v n cs := by
  obtain ⟨h0, vs, h1, h2⟩ := h; exact ⟨h0, vs, h1.mono hd, h2.mono hd⟩
theorem Rw.nil_ (w : World) (F : Nat → Prop) : Rw w F (.slice none 0 0) 0 [] := ⟨rfl, [], Sl.nil_ _ _ _, Each.nil⟩
/-- the row at index k -/
theorem Rw.at_ {A : Option Addr} {c : Nat} (h : Rw w F (.slice A n c) n cs) {k : Nat} (hk : k < n) : ∃ b o B d, A = some ⟨b, o, none⟩ ∧ F b ∧ w.cell? ⟨b, o + k, none⟩ = some (.slice B (cs.getD k []).length d) ∧
    Sl w F 1 (.slice B (cs.getD k []).length d) (cs.getD k []).length ((cs.getD k []).map (.int .i64)) := by
  obtain ⟨h0, vs, h1, h2⟩ := h
  obtain ⟨b, o, u, rfl, hF, hu, hc⟩ := h1.at_ hk
  obtain ⟨B, d, h3, h4⟩ := h2.at_ (k := k) (by omega)
  rw [h3] at hu
  cases hu
  exact ⟨b, o, B, d, rfl, hF, hc, h4⟩
theorem Rw.form (h : Rw w F v n cs) : ∃ A c, v = .slice A n c ∧ n ≤ c ∧ (A = none → c = 0) := by
  obtain ⟨h0, vs, h1, h2⟩ := h; exact h1.form
end

/-- rows of rows that grow: the outer row's own block is none of the inner ones' -/
def RwO (w : World) (base : Nat) (e : TypeId) (v : Value) (n : Nat) (cs : List (List Int)) : Prop := cs.length = n ∧ ∃ vs, w.ownsRow base e 1 v n vs ∧ Each w (fun k => base ≤ k ∧ v.ownBlock ≠ some k) vs cs
section
variable {S G : Nat → Prop} {w w' w2 : World} {base m n : Nat} {e : TypeId} {v v' : Value} {vs news : List Value} {cs cs' : List (List Int)}
theorem RwO.nil_ (w : World) (base : Nat) (e : TypeId) : RwO w base e (.slice none 0 0) 0 [] := ⟨rfl, [], World.ownsRow_nil _ _ _ _, Each.nil⟩
theorem RwO.frm (h : RwO w base e v n cs) (hf : Frm S w w') (hd : ∀ k, base ≤ k → ¬ S k) : RwO w' base e v n cs := by
  obtain ⟨h0, vs, h1, h2⟩ := h
  exact ⟨h0, vs, own_frm h1 hf (fun k hk => hd k (h1.lt k hk).1), h2.frm hf (fun k hk => hd k hk.1)⟩
theorem RwO.rw (h : RwO w base e v n cs) : Rw w (fun k => base ≤ k) v n cs := by
  obtain ⟨h0, vs, h1, h2⟩ := h
  exact ⟨h0, vs, (own_sl h1).mono (fun _ _ h => h.1), h2.mono (fun _ _ h => h.1)⟩
theorem RwO.form (h : RwO w base e v n cs) : ∃ A c, v = .slice A n c ∧ n ≤ c ∧ (A = none → c = 0) := h.rw.form
/-- what an append leaves -/
theorem RwO.more (h0 : cs.length = n) (h2 : Each w (fun k => base ≤ k ∧ v.ownBlock ≠ some k) vs cs) (hm : cs'.length = m) (hn : Each w G news cs') (hG : ∀ k, k < w.heap.size → G k → base ≤ k ∧ v.ownBlock ≠ some k)
    (hown : w2.ownsRow base e 1 v' (n + m) (vs ++ news)) (hg : w.grownBy w2 v.ownBlock) (h5 : v'.ownBlock = v.ownBlock ∨ v'.ownBlock = some w.heap.size) : RwO w2 base e v' (n + m) (cs ++ cs') := by
  refine ⟨by simp [h0, hm], vs ++ news, hown, ?_⟩
  have hfr : Frm (fun k => v.ownBlock = some k) w w2 := (Frm.refl _ w).grown hg (fun k hk _ => hk)
  have hall := h2.append (hn.mono hG)
  have h3 := (hall.mono (G := fun k => (base ≤ k ∧ v.ownBlock ≠ some k) ∧ k < w.heap.size) (fun k hk h => ⟨h, hk⟩)).frm hfr (fun k hk e => hk.1.2 e)
  refine h3.mono fun k _ hk => ⟨hk.1.1, fun e => ?_⟩
  rcases h5 with h | h
  · exact hk.1.2 (h ▸ e)
  · rw [h] at e
    have := hk.2
    cases e
    omega
end

end Go.Proofs.YtkjlgamggkencaaDoor
