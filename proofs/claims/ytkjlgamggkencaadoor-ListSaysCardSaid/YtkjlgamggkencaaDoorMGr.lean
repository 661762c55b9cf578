/-
  Graphs without memory: what chapter 8 says of And, over numbers and lists.
-/
import Derived.Test.YtkjlgamggkencaaDoorMBase
namespace Go.Proofs.YtkjlgamggkencaaDoor

/-- inputs, gates (the greater literal first), the first error's number -/
structure Gr where
  n : Nat
  ands : List (Int × Int)
  bad : Nat

def Gr.len (g : Gr) : Nat := g.n + g.ands.length
/-- is it a literal of a graph of so many nodes? -/
def isL (l : Int) (len : Nat) : Bool := decide (0 ≤ l) && decide (l ≤ 2 * (len : Int) + 1)
def notL (l : Int) : Int := if l % 2 = 0 then l + 1 else l - 1
/-- where a gate stands -/
def idx (p : Int × Int) : List (Int × Int) → Option Nat
  | [] => none
  | q :: r => if q = p then some 0 else (idx p r).map (· + 1)
def Gr.fail (g : Gr) (b : Nat) : Gr := { g with bad := if g.bad = 0 then b else g.bad }
/-- And of the greater and the smaller literal -/
def Gr.put (g : Gr) (hi lo : Int) : Int × Gr :=
  if (isL hi g.len && isL lo g.len) = false then (0, g.fail 104)
  else if lo = 0 then (0, g)
  else if lo = 1 ∨ hi = lo then (hi, g)
  else if hi = notL lo then (0, g)
  else match idx (hi, lo) g.ands with
    | some i => (2 * ((g.n : Int) + i + 1), g)
    | none => if 8000 ≤ g.len then (0, g.fail 102) else (2 * ((g.len : Int) + 1), { g with ands := g.ands ++ [(hi, lo)] })
def Gr.and (g : Gr) (a b : Int) : Int × Gr := if b ≤ a then g.put a b else g.put b a

theorem idx_lt {p : Int × Int} : ∀ {l : List (Int × Int)} {i : Nat}, idx p l = some i → i < l.length ∧ l[i]? = some p
  | [], _, h => by simp [idx] at h
  | q :: r, i, h => by
    unfold idx at h
    split at h
    · cases h; rename_i e; simp [e]
    · simp only [Option.map_eq_some_iff] at h
      obtain ⟨j, hj, rfl⟩ := h
      have := idx_lt hj
      simp; exact ⟨this.1, this.2⟩
theorem idx_none {p : Int × Int} : ∀ {l : List (Int × Int)}, idx p l = none ↔ p ∉ l
  | [] => by simp [idx]
  | q :: r => by
    unfold idx
    split
    · rename_i e; simp [e]
    · rename_i e
      simp only [Option.map_eq_none_iff, List.mem_cons, not_or]
      rw [idx_none (l := r)]
      exact ⟨fun h => ⟨fun h2 => e h2.symm, h⟩, fun h => h.2⟩
theorem idx_cons (p x : Int × Int) (r : List (Int × Int)) : idx p (x :: r) = if x = p then some 0 else (idx p r).map (· + 1) := rfl
theorem idx_append {p q : Int × Int} : ∀ {l : List (Int × Int)}, idx p (l ++ [q]) = if idx p l = none then (if q = p then some l.length else none) else idx p l
  | [] => by simp [idx]
  | x :: r => by
    rw [List.cons_append, idx_cons, idx_cons, idx_append (l := r)]
    by_cases e : x = p
    · simp [e]
    · simp only [e, if_false, Option.map_eq_none_iff]
      by_cases h : idx p r = none
      · simp only [h, if_true]; split <;> simp
      · simp only [h, if_false]

/-- the cells of the gates -/
def pairs (l : List (Int × Int)) : List Value := l.flatMap fun p => [.int .i64 p.1, .int .i64 p.2]
theorem pairs_length (l : List (Int × Int)) : (pairs l).length = l.length * 2 := by
  unfold pairs
  induction l with
  | nil => rfl
  | cons x r ih => simp [List.flatMap_cons] at ih ⊢; omega
theorem pairs_append (l r : List (Int × Int)) : pairs (l ++ r) = pairs l ++ pairs r := by simp [pairs]
end Go.Proofs.YtkjlgamggkencaaDoor

namespace Go.Proofs.YtkjlgamggkencaaDoor

theorem isL_iff {l : Int} {n : Nat} : isL l n = true ↔ 0 ≤ l ∧ l ≤ 2 * (n : Int) + 1 := by simp [isL]
theorem notL_range {l : Int} {n : Nat} (h : isL l n = true) : isL (notL l) n = true := by
  rw [isL_iff] at h ⊢; unfold notL; split <;> omega
theorem notL_notL (l : Int) : notL (notL l) = l := by unfold notL; split <;> split <;> omega
theorem notL_ne (l : Int) : notL l ≠ l := by unfold notL; split <;> omega
theorem isL_emod (x : Int) (n : Nat) : isL (x % (2 * (n : Int) + 2)) n = true := by
  rw [isL_iff]
  have h1 := Int.emod_nonneg x (b := 2 * (n : Int) + 2) (by omega)
  have h2 := Int.emod_lt_of_pos x (b := 2 * (n : Int) + 2) (by omega)
  omega

theorem put_in {g : Gr} {hi lo : Int} (h1 : isL hi g.len = true) (h2 : isL lo g.len = true) : g.put hi lo =
    if lo = 0 then (0, g) else if lo = 1 ∨ hi = lo then (hi, g) else if hi = notL lo then (0, g)
    else match idx (hi, lo) g.ands with
      | some i => (2 * ((g.n : Int) + i + 1), g)
      | none => if 8000 ≤ g.len then (0, g.fail 102) else (2 * ((g.len : Int) + 1), { g with ands := g.ands ++ [(hi, lo)] }) := by
  unfold Gr.put; rw [h1, h2]; rfl

theorem and_comm (g : Gr) (a b : Int) : g.and a b = g.and b a := by
  unfold Gr.and
  by_cases h : b ≤ a
  · by_cases h' : a ≤ b
    · obtain rfl : a = b := by omega
      rfl
    · rw [if_pos h, if_neg h']
  · rw [if_neg h, if_pos (by omega)]

theorem and_zero (g : Gr) (a : Int) (h : isL a g.len = true) : g.and a 0 = (0, g) := by
  have h0 := isL_iff.1 h
  unfold Gr.and
  rw [if_pos h0.1, put_in h (by rw [isL_iff]; omega), if_pos rfl]
theorem and_one (g : Gr) (a : Int) (h : isL a g.len = true) : g.and a 1 = (a, g) := by
  have h0 := isL_iff.1 h
  have h1 : isL 1 g.len = true := by rw [isL_iff]; omega
  unfold Gr.and
  by_cases h2 : 1 ≤ a
  · rw [if_pos h2, put_in h h1, if_neg (by omega), if_pos (.inl rfl)]
  · obtain rfl : a = 0 := by omega
    rw [if_neg (by omega), put_in h1 h, if_pos rfl]
theorem and_self (g : Gr) (a : Int) (h : isL a g.len = true) : g.and a a = (a, g) := by
  unfold Gr.and
  rw [if_pos (Int.le_refl _), put_in h h]
  by_cases h0 : a = 0
  · rw [if_pos h0, h0]
  · rw [if_neg h0, if_pos (.inr rfl)]
theorem and_not (g : Gr) (a : Int) (h : isL a g.len = true) : g.and a (notL a) = (0, g) := by
  have hn := notL_range h
  have hne := notL_ne a
  have key : ∀ hi lo, isL hi g.len = true → isL lo g.len = true → hi = notL lo → lo < hi → g.put hi lo = (0, g) := by
    intro hi lo h1 h2 he hl
    rw [put_in h1 h2]
    by_cases h0 : lo = 0
    · rw [if_pos h0]
    · have h3 := isL_iff.1 h2
      rw [if_neg h0, if_neg, if_pos he]
      rintro (e | e)
      · subst e; simp [notL] at he; omega
      · omega
  unfold Gr.and
  by_cases hl : notL a ≤ a
  · rw [if_pos hl]; exact key _ _ h hn (notL_notL a).symm (by omega)
  · rw [if_neg hl]; exact key _ _ hn h rfl (by omega)

/-- what may come of And of two literals -/
theorem put_cases {g : Gr} {hi lo : Int} (h1 : isL hi g.len = true) (h2 : isL lo g.len = true) (hl : g.len < 8000) :
    (lo = 0 ∧ g.put hi lo = (0, g)) ∨ (lo ≠ 0 ∧ lo = 1 ∧ g.put hi lo = (hi, g)) ∨ (lo ≠ 0 ∧ lo ≠ 1 ∧ hi = lo ∧ g.put hi lo = (hi, g)) ∨
    (lo ≠ 0 ∧ lo ≠ 1 ∧ hi ≠ lo ∧ hi = notL lo ∧ g.put hi lo = (0, g)) ∨
    (lo ≠ 0 ∧ lo ≠ 1 ∧ hi ≠ lo ∧ hi ≠ notL lo ∧ ∃ i, idx (hi, lo) g.ands = some i ∧ g.put hi lo = (2 * ((g.n : Int) + i + 1), g)) ∨
    (lo ≠ 0 ∧ lo ≠ 1 ∧ hi ≠ lo ∧ hi ≠ notL lo ∧ idx (hi, lo) g.ands = none ∧ g.put hi lo = (2 * ((g.len : Int) + 1), { g with ands := g.ands ++ [(hi, lo)] })) := by
  rw [put_in h1 h2]
  by_cases a1 : lo = 0
  · exact .inl ⟨a1, if_pos a1⟩
  rw [if_neg a1]
  by_cases a2 : lo = 1
  · exact .inr (.inl ⟨a1, a2, if_pos (.inl a2)⟩)
  by_cases a3 : hi = lo
  · exact .inr (.inr (.inl ⟨a1, a2, a3, if_pos (.inr a3)⟩))
  rw [if_neg (by rintro (e | e) <;> contradiction)]
  by_cases a4 : hi = notL lo
  · exact .inr (.inr (.inr (.inl ⟨a1, a2, a3, a4, if_pos a4⟩)))
  rw [if_neg a4]
  cases hi' : idx (hi, lo) g.ands with
  | some i => exact .inr (.inr (.inr (.inr (.inl ⟨a1, a2, a3, a4, i, rfl, rfl⟩))))
  | none => exact .inr (.inr (.inr (.inr (.inr ⟨a1, a2, a3, a4, rfl, by simp only; rw [if_neg (by omega)]⟩))))

/-- the graph behind: as it was, or one gate more -/
theorem put_snd {g : Gr} {hi lo : Int} (h1 : isL hi g.len = true) (h2 : isL lo g.len = true) (hl : g.len < 8000) :
    (g.put hi lo).2 = g ∨ (g.put hi lo).2 = { g with ands := g.ands ++ [(hi, lo)] } := by
  rcases put_cases h1 h2 hl with ⟨_, e⟩ | ⟨_, _, e⟩ | ⟨_, _, _, e⟩ | ⟨_, _, _, _, e⟩ | ⟨_, _, _, _, i, _, e⟩ | ⟨_, _, _, _, _, e⟩ <;> rw [e] <;> simp
theorem len_more (g : Gr) (p : Int × Int) : ({ g with ands := g.ands ++ [p] } : Gr).len = g.len + 1 := by simp [Gr.len]; omega

theorem and_hi_lo (a b : Int) : ∃ hi lo, (∀ g : Gr, g.and a b = g.put hi lo) ∧ ((hi = a ∧ lo = b ∧ b ≤ a) ∨ (hi = b ∧ lo = a ∧ a < b)) := by
  by_cases h : b ≤ a
  · exact ⟨a, b, fun g => if_pos h, .inl ⟨rfl, rfl, h⟩⟩
  · exact ⟨b, a, fun g => if_neg h, .inr ⟨rfl, rfl, by omega⟩⟩

theorem and_snd {g : Gr} {a b : Int} (h1 : isL a g.len = true) (h2 : isL b g.len = true) (hl : g.len < 8000) :
    (g.and a b).2.n = g.n ∧ (g.and a b).2.bad = g.bad ∧ g.len ≤ (g.and a b).2.len ∧ (g.and a b).2.len ≤ g.len + 1 := by
  obtain ⟨hi, lo, he, ho⟩ := and_hi_lo a b
  rw [he]
  have h3 : isL hi g.len = true ∧ isL lo g.len = true := by rcases ho with ⟨rfl, rfl, _⟩ | ⟨rfl, rfl, _⟩ <;> exact ⟨by assumption, by assumption⟩
  rcases put_snd h3.1 h3.2 hl with e | e <;> rw [e]
  · exact ⟨rfl, rfl, Nat.le_refl _, by omega⟩
  · rw [len_more]; exact ⟨rfl, rfl, by omega, Nat.le_refl _⟩

/-- asked again it is the one that was there -/
theorem and_again {g : Gr} {a b : Int} (h1 : isL a g.len = true) (h2 : isL b g.len = true) (hl : g.len < 8000) :
    (g.and a b).2.and a b = g.and a b := by
  obtain ⟨hi, lo, he, ho⟩ := and_hi_lo a b
  rw [he, he]
  have h3 : isL hi g.len = true ∧ isL lo g.len = true := by rcases ho with ⟨rfl, rfl, _⟩ | ⟨rfl, rfl, _⟩ <;> exact ⟨by assumption, by assumption⟩
  obtain ⟨h3, h4⟩ := h3
  rcases put_cases h3 h4 hl with ⟨_, e⟩ | ⟨_, _, e⟩ | ⟨_, _, _, e⟩ | ⟨_, _, _, _, e⟩ | ⟨_, _, _, _, i, _, e⟩ | ⟨a1, a2, a3, a4, hn, e⟩
  · rw [e]; exact e
  · rw [e]; exact e
  · rw [e]; exact e
  · rw [e]; exact e
  · rw [e]; exact e
  · rw [e]
    have h5 : ∀ l, isL l g.len = true → isL l ({ g with ands := g.ands ++ [(hi, lo)] } : Gr).len = true := by
      intro l h; rw [len_more]; rw [isL_iff] at h ⊢; omega
    rw [put_in (h5 _ h3) (h5 _ h4), if_neg a1, if_neg (by rintro (e | e) <;> contradiction), if_neg a4]
    have : idx (hi, lo) (g.ands ++ [(hi, lo)]) = some g.ands.length := by rw [idx_append]; simp [hn]
    simp only [this]
    simp [Gr.len]
end Go.Proofs.YtkjlgamggkencaaDoor

namespace Go.Proofs.YtkjlgamggkencaaDoor
open Go.RowKit

theorem wrap_i64_small (n : Int) (h0 : 0 ≤ n) (h1 : n < 2 ^ 62) : IntKind.i64.wrap n = n := by
  rw [IntKind.wrap_i64]
  have : (2 : Int) ^ 62 = 4611686018427387904 := by decide
  omega
theorem nat_xor_one (a : Nat) : a ^^^ 1 = if a % 2 = 0 then a + 1 else a - 1 := by
  have h1 : (a ^^^ 1) / 2 = a / 2 := by rw [Nat.xor_div_two]; simp
  have h : ∀ b : Nat, b % 2 = (b.testBit 0).toNat := fun b => by simp [Nat.testBit_zero]; cases Nat.mod_two_eq_zero_or_one b <;> simp [*]
  have h2 : (a ^^^ 1) % 2 = (a + 1) % 2 := by
    rw [h (a ^^^ 1), Nat.testBit_xor, Nat.testBit_zero, Nat.testBit_zero]
    cases Nat.mod_two_eq_zero_or_one a with
    | inl e => simp [e]; omega
    | inr e => simp [e]; omega
  split <;> omega
theorem bits_xor_one (l : Int) (h0 : 0 ≤ l) (h1 : l ≤ 4000000000000) : bits .xor .i64 l 1 = notL l := by
  obtain ⟨a, rfl⟩ := Int.eq_ofNat_of_zero_le h0
  have ha : a % 2 ^ IntKind.i64.bits = a := Nat.mod_eq_of_lt (by simp [IntKind.bits]; omega)
  have h1' : (1 : Int) = ((1 : Nat) : Int) := rfl
  unfold bits
  rw [h1']
  simp only [BitVec.ofInt_natCast, BitVec.toNat_xor, BitVec.toNat_ofNat, ha]
  rw [show (1 % 2 ^ IntKind.i64.bits) = 1 from by decide, nat_xor_one]
  have hp : (2 : Int) ^ 62 = 4611686018427387904 := by decide
  unfold notL
  by_cases h : a % 2 = 0
  · rw [if_pos h, if_pos (by omega), wrap_i64_small _ (by omega) (by omega)]; omega
  · rw [if_neg h, if_neg (by omega), wrap_i64_small _ (by omega) (by omega)]; omega
theorem bits_and_one (l : Int) (h0 : 0 ≤ l) (h1 : l ≤ 4000000000000) : bits .and .i64 l 1 = l % 2 := by
  have hp : (2 : Int) ^ 62 = 4611686018427387904 := by decide
  have := bits_mask .i64 62 (by decide) wrap_i64_small 1 (by decide) l h0 (by omega)
  simpa using this

end Go.Proofs.YtkjlgamggkencaaDoor

