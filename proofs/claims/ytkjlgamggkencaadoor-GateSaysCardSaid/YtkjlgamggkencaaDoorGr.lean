/-
  Graphs without memory: what chapter 8 says of And, over numbers and lists.
-/
import Derived.Test.YtkjlgamggkencaaDoorBase2
namespace Go.Proofs.YtkjlgamggkencaaDoor

/-- inputs, gates (the greater literal first), the first error's number -/
structure Gr where
  n : Nat
  ands : List (Int × Int)
  bad : Nat

def Gr.len (g : Gr) : Nat := g.n + g.ands.length
/-- is it a literal of a graph of so many nodes? -/
def isL (l : Int) (len : Nat) : Bool := decide (0 ≤ l) && decide (l ≤ 2 * (len : Int) + 1)
def notL (l : Int) : Int := if l % 2 = 0 then l + 1 else l - 1
/-- where a gate stands -/
def idx (p : Int × Int) : List (Int × Int) → Option Nat
  | [] => none
  | q :: r => if q = p then some 0 else (idx p r).map (· + 1)
def Gr.fail (g : Gr) (b : Nat) : Gr := { g with bad := if g.bad = 0 then b else g.bad }
/-- And of the greater and the smaller literal -/
def Gr.put (g : Gr) (hi lo : Int) : Int × Gr :=
  if (isL hi g.len && isL lo g.len) = false then (0, g.fail 104)
  else if lo = 0 then (0, g)
  else if lo = 1 ∨ hi = lo then (hi, g)
  else if hi = notL lo then (0, g)
  else match idx (hi, lo) g.ands with
    | some i => (2 * ((g.n : Int) + i + 1), g)
    | none => if 8000 ≤ g.len then (0, g.fail 102) else (2 * ((g.len : Int) + 1), { g with ands := g.ands ++ [(hi, lo)] })
def Gr.and (g : Gr) (a b : Int) : Int × Gr := if b ≤ a then g.put a b else g.put b a

theorem idx_lt {p : Int × Int} : ∀ {l : List (Int × Int)} {i : Nat}, idx p l = some i → i < l.length ∧ l[i]? = some p
  | [], _, h => by simp [idx] at h
  | q :: r, i, h => by
    unfold idx at h
    split at h
    · cases h; rename_i e; simp [e]
    · simp only [Option.map_eq_some_iff] at h
      obtain ⟨j, hj, rfl⟩ := h
      have := idx_lt hj
      simp; exact ⟨this.1, this.2⟩
theorem idx_none {p : Int × Int} : ∀ {l : List (Int × Int)}, idx p l = none ↔ p ∉ l
  | [] => by simp [idx]
  | q :: r => by
    unfold idx
    split
    · rename_i e; simp [e]
    · rename_i e
      simp only [Option.map_eq_none_iff, List.mem_cons, not_or]
      rw [idx_none (l := r)]
      exact ⟨fun h => ⟨fun h2 => e h2.symm, h⟩, fun h => h.2⟩
theorem idx_cons (p x : Int × Int) (r : List (Int × Int)) : idx p (x :: r) = if x = p then some 0 else (idx p r).map (· + 1) := rfl
theorem idx_append {p q : Int × Int} : ∀ {l : List (Int × Int)}, idx p (l ++ [q]) = if idx p l = none then (if q = p then some l.length else none) else idx p l
  | [] => by simp [idx]
  | x :: r => by
    rw [List.cons_append, idx_cons, idx_cons, idx_append (l := r)]
    by_cases e : x = p
    · simp [e]
    · simp only [e, if_false, Option.map_eq_none_iff]
      by_cases h : idx p r = none
      · simp only [h, if_true]; split <;> simp
      · simp only [h, if_false]

/-- the cells of the gates -/
def pairs (l : List (Int × Int)) : List Value := l.flatMap fun p => [.int .i64 p.1, .int .i64 p.2]
theorem pairs_length (l : List (Int × Int)) : (pairs l).length = l.length * 2 := by
  unfold pairs
  induction l with
  | nil => rfl
  | cons x r ih => simp [List.flatMap_cons] at ih ⊢; omega
theorem pairs_append (l r : List (Int × Int)) : pairs (l ++ r) = pairs l ++ pairs r := by simp [pairs]
end Go.Proofs.YtkjlgamggkencaaDoor
