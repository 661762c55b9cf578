/-
  More words on memory: rows that grow by append, in the walk's spelling.
-/
import Derived.Test.YtkjlgamggkencaaDoorBase
namespace Go.Proofs.YtkjlgamggkencaaDoor
open Go.RowKit

/-- the row after one more element, as the walk spells it -/
theorem own_step {w' : World} {base : Nat} {e : TypeId} {v' : Value} {k : Nat} {l : List Int} {f : Int → Value} {u : Value} (hk : k < l.length) (hu : u = f (l.getD k 0))
    (h : w'.ownsRow base e 1 v' (k + 1) ((l.map f).take k ++ [u])) : ∃ A c, v' = .slice A (k + 1) c ∧ w'.ownsRow base e 1 (.slice A (k + 1) c) (k + 1) ((l.map f).take (k + 1)) := by
  have e1 : (l.map f).take k ++ [u] = (l.map f).take (k + 1) := by
    rw [hu, List.take_succ_eq_append_getElem (by simpa using hk)]; simp [List.getD, hk]
  rw [e1] at h
  obtain ⟨A, c, rfl, _⟩ := (Sl.of_own h).form
  exact ⟨A, c, rfl, h⟩

/-- an owned row, as a slice that is read -/
theorem own_sl {w : World} {base : Nat} {e : TypeId} {sz n : Nat} {v : Value} {xs : List Value} (h : w.ownsRow base e sz v n xs) : Sl w (fun k => base ≤ k ∧ k < w.heap.size) sz v n xs :=
  (Sl.of_own h).mono fun k _ hk => h.lt k hk

/-- an owned row stays owned over a step that leaves its block alone -/
theorem own_frm {w w' : World} {base : Nat} {e : TypeId} {sz n : Nat} {v : Value} {xs : List Value} {S : Nat → Prop} (h : w.ownsRow base e sz v n xs) (hf : Frm S w w') (hd : ∀ k, v.ownBlock = some k → ¬ S k) : w'.ownsRow base e sz v n xs := by
  refine ⟨h.1, ?_⟩
  have hlt := h.lt
  rcases h.2 with hn | ⟨g, cap, cur, rfl, hb, hg, rest⟩
  · exact .inl hn
  · exact .inr ⟨g, cap, cur, rfl, hb, (hf.block g (hlt g rfl).2 (hd g rfl)).trans hg, rest⟩

end Go.Proofs.YtkjlgamggkencaaDoor
