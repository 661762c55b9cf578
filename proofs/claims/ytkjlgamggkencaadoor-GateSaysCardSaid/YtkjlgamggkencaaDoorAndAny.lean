/-
  And of two literals of a graph: one contract for all cases.
-/
import Derived.Test.YtkjlgamggkencaaDoorAndNew
import Derived.Test.YtkjlgamggkencaaDoorGrLaws
namespace Go.Proofs.YtkjlgamggkencaaDoor
open Go.RowKit

/-- fp' is fp and what is new -/
def Grows (fp fp' : Nat → Prop) (w w' : World) : Prop := ∀ k, fp' k → fp k ∨ (w.heap.size ≤ k ∧ k < w'.heap.size)

theorem ordered_of {a b hi lo : Int} (h : (hi = a ∧ lo = b ∧ b ≤ a) ∨ (hi = b ∧ lo = a ∧ a < b)) : Ordered a b hi lo := by
  rcases h with ⟨rfl, rfl, h⟩ | ⟨rfl, rfl, h⟩
  · by_cases e : lo = hi
    · exact .inr (.inr ⟨rfl, e, e⟩)
    · exact .inl ⟨rfl, rfl, by omega⟩
  · exact .inr (.inl ⟨rfl, rfl, h⟩)

theorem and_any (E : Nat → Value) (fp : Nat → Prop) (gb : Nat) (g : Gr) (w : World) (a b : Int) (hG : IsGr E w fp gb g) (h1 : isL a g.len = true) (h2 : isL b g.len = true) (hl : g.len < 8000) :
    Calls Tryd.prog 27 #[.pointer (some ⟨gb, 0, none⟩), .int .i64 a, .int .i64 b] w fun e w' => e = .returned (.int .i64 (g.and a b).1) ∧
      ∃ fp', IsGr E w' fp' gb (g.and a b).2 ∧ Grows fp fp' w w' ∧ Frm fp w w' := by
  obtain ⟨hi, lo, he, ho⟩ := and_hi_lo a b
  have h3 : isL hi g.len = true ∧ isL lo g.len = true := by rcases ho with ⟨rfl, rfl, _⟩ | ⟨rfl, rfl, _⟩ <;> exact ⟨by assumption, by assumption⟩
  have hO := ordered_of ho
  rw [he]
  have same : ∀ {r : Int}, (Calls Tryd.prog 27 #[.pointer (some ⟨gb, 0, none⟩), .int .i64 a, .int .i64 b] w fun e w' => e = .returned (.int .i64 r) ∧ ∃ n, w.drewN n = w') → g.put hi lo = (r, g) →
      Calls Tryd.prog 27 #[.pointer (some ⟨gb, 0, none⟩), .int .i64 a, .int .i64 b] w fun e w' => e = .returned (.int .i64 (g.put hi lo).1) ∧ ∃ fp', IsGr E w' fp' gb (g.put hi lo).2 ∧ Grows fp fp' w w' ∧ Frm fp w w' := by
    intro r hc e
    rw [e]
    refine hc.mono ?_
    rintro e w' ⟨rfl, n, rfl⟩
    exact ⟨rfl, fp, hG.drewN n, fun k hk => .inl hk, (Frm.refl _ _).drewN n⟩
  rcases put_cases h3.1 h3.2 hl with ⟨a1, e⟩ | ⟨a1, a2, e⟩ | ⟨a1, a2, a3, e⟩ | ⟨a1, a2, a3, a4, e⟩ | ⟨a1, a2, a3, a4, i, hi', e⟩ | ⟨a1, a2, a3, a4, hn, e⟩
  · exact same (and_plain0 E fp gb g w a b hi lo hG hO h3.1 h3.2 a1) e
  · exact same (and_plain1 E fp gb g w a b hi lo hG hO h3.1 h3.2 a2) e
  · exact same (and_plain2 E fp gb g w a b hi lo hG hO h3.1 h3.2 a1 a2 a3) e
  · exact same (and_plain3 E fp gb g w a b hi lo hG hO h3.1 h3.2 a1 a2 a3 a4) e
  · exact same (and_found E fp gb g w a b hi lo i hG hO h3.1 h3.2 a1 a2 a3 a4 hi') e
  · rw [e]
    exact and_new E fp gb g w a b hi lo hG hO h3.1 h3.2 a1 a2 a3 a4 hn hl

/-- a gate that makes nothing new -/
theorem and_same (E : Nat → Value) (fp : Nat → Prop) (gb : Nat) (g : Gr) (w : World) (a b r : Int) (hG : IsGr E w fp gb g) (h1 : isL a g.len = true) (h2 : isL b g.len = true) (hl : g.len < 8000) (h : g.and a b = (r, g)) :
    Calls Tryd.prog 27 #[.pointer (some ⟨gb, 0, none⟩), .int .i64 a, .int .i64 b] w fun e w' => e = .returned (.int .i64 r) ∧ ∃ fp', IsGr E w' fp' gb g ∧ Grows fp fp' w w' ∧ Frm fp w w' := by
  have := and_any E fp gb g w a b hG h1 h2 hl
  rwa [h] at this

set_option maxHeartbeats 400000 in
theorem err_any (E : Nat → Value) (fp : Nat → Prop) (gb : Nat) (g : Gr) (w : World) (hG : IsGr E w fp gb g) (v : Value) (hv : E g.bad = v) :
    Calls Tryd.prog 29 #[.pointer (some ⟨gb, 0, none⟩)] w fun e w' => e = .returned v ∧ w = w' := by
  obtain ⟨ok, A, c, mb, m, D, hb, hr, hm, hml, hD, f1, f2, f3⟩ := hG
  have q := hb.at_ 3 rfl
  rw [hv] at q
  clear hv
  go_enter Tryd.func29, Tryd.ntmps29
  go_wp2
  go_ret
  exact ⟨rfl, rfl⟩

end Go.Proofs.YtkjlgamggkencaaDoor
