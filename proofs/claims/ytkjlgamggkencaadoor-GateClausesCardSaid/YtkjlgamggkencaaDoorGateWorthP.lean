/-
  What the gates of GateWorth come to, over lists alone.
-/
import Derived.Test.YtkjlgamggkencaaDoorGateP
import Derived.Test.YtkjlgamggkencaaDoorMakeP
namespace Go.Proofs.YtkjlgamggkencaaDoor

def gw1 (a b : Int) : Int × Gr := orG ⟨10, [], 0⟩ a b
def gw2 (a b : Int) : Int × Gr := xorG (gw1 a b).2 a b
def gw3 (a b c : Int) : Int × Gr := muxG (gw2 a b).2 a b c
def gw4 (a b c : Int) (P : List Int) : Int × Gr := allG (gw3 a b c).2 P
def gw5 (a b c : Int) (P : List Int) : Int × Gr := anyG (gw4 a b c P).2 P

structure GWFacts (inp : List Bool) (a b c : Int) (P : List Int) : Prop where
  s1 : (gw1 a b).2.len ≤ 11
  a1 : isL a (gw1 a b).2.len = true ∧ isL b (gw1 a b).2.len = true
  s2 : (gw2 a b).2.len ≤ 14
  a2 : isL a (gw2 a b).2.len = true ∧ isL b (gw2 a b).2.len = true ∧ isL c (gw2 a b).2.len = true
  s3 : (gw3 a b c).2.len ≤ 17
  a3 : ∀ x ∈ P, isL x (gw3 a b c).2.len = true
  s4 : (gw4 a b c P).2.len ≤ 37
  a4 : ∀ x ∈ P, isL x (gw4 a b c P).2.len = true
  s5 : (gw5 a b c P).2.len ≤ 57
  n5 : (gw5 a b c P).2.n = 10
  right : Right 10 (gw5 a b c P).2.ands
  lits : ∀ x ∈ [(gw1 a b).1, (gw2 a b).1, (gw3 a b c).1, (gw4 a b c P).1, (gw5 a b c P).1], isL x (10 + (gw5 a b c P).2.ands.length) = true
  eval : evalOuts (nodes 10 (gw5 a b c P).2.ands inp) [(gw1 a b).1, (gw2 a b).1, (gw3 a b c).1, (gw4 a b c P).1, (gw5 a b c P).1] =
    [(worth (valsN 10 inp) a || worth (valsN 10 inp) b), (worth (valsN 10 inp) a != worth (valsN 10 inp) b), (if worth (valsN 10 inp) a then worth (valsN 10 inp) b else worth (valsN 10 inp) c), P.all (worth (valsN 10 inp)), P.any (worth (valsN 10 inp))]

theorem gw_facts (inp : List Bool) (a b c : Int) (P : List Int) (ha : 0 ≤ a ∧ a ≤ 21) (hb : 0 ≤ b ∧ b ≤ 21) (hc : 0 ≤ c ∧ c ≤ 21) (hP : ∀ x ∈ P, 0 ≤ x ∧ x ≤ 21) (hl : P.length ≤ 20) : GWFacts inp a b c P := by
  have hm0 : Made (⟨10, [], 0⟩ : Gr).n (⟨10, [], 0⟩ : Gr).ands := Made.nil 10
  have hl0 : (⟨10, [], 0⟩ : Gr).len = 10 := rfl
  have lv0 : ∀ x : Int, 0 ≤ x ∧ x ≤ 21 → Lv ⟨10, [], 0⟩ inp x (worth (valsN 10 inp) x) := fun x hx => ⟨by rw [isL_iff, hl0]; omega, rfl⟩
  have A0 := lv0 a ha
  have B0 := lv0 b hb
  have C0 := lv0 c hc
  have u1 := (or_up hm0 A0.lit B0.lit (by omega)).1
  have v1 := or_lv hm0 A0 B0 (by omega)
  change Up _ (gw1 a b).2 1 at u1
  change Lv (gw1 a b).2 inp (gw1 a b).1 _ at v1
  have k1 := u1.high
  have u2 := (xor_up u1.made (u1.lv A0).lit (u1.lv B0).lit (by omega)).1
  have v2 := xor_lv u1.made (u1.lv A0) (u1.lv B0) (by omega)
  change Up _ (gw2 a b).2 3 at u2
  change Lv (gw2 a b).2 inp (gw2 a b).1 _ at v2
  have k2 := u2.high
  have u02 := u1.trans u2
  have u3 := (mux_up u2.made (u02.lv A0).lit (u02.lv B0).lit (u02.lv C0).lit (by omega)).1
  have v3 := mux_lv u2.made (u02.lv A0) (u02.lv B0) (u02.lv C0) (by omega)
  change Up _ (gw3 a b c).2 3 at u3
  change Lv (gw3 a b c).2 inp (gw3 a b c).1 _ at v3
  have k3 := u3.high
  have u03 := u02.trans u3
  have P3 : ∀ x ∈ P, Lv (gw3 a b c).2 inp x (worth (valsN 10 inp) x) := fun x hx => u03.lv (lv0 x (hP x hx))
  have u4 := (all_up u3.made (fun x hx => (P3 x hx).lit) (by omega)).1
  have v4 := all_lv u3.made P3 (by omega)
  change Up _ (gw4 a b c P).2 P.length at u4
  change Lv (gw4 a b c P).2 inp (gw4 a b c P).1 _ at v4
  have k4 := u4.high
  have P4 : ∀ x ∈ P, Lv (gw4 a b c P).2 inp x (worth (valsN 10 inp) x) := fun x hx => u4.lv (P3 x hx)
  have u5 := (any_up u4.made (fun x hx => (P4 x hx).lit) (by omega)).1
  have v5 := any_lv u4.made P4 (by omega)
  change Up _ (gw5 a b c P).2 P.length at u5
  change Lv (gw5 a b c P).2 inp (gw5 a b c P).1 _ at v5
  have k5 := u5.high
  have n5 : (gw5 a b c P).2.n = 10 := (u03.trans (u4.trans u5)).num
  have w1 := u5.lv (u4.lv (u3.lv (u2.lv v1)))
  have w2 := u5.lv (u4.lv (u3.lv v2))
  have w3 := u5.lv (u4.lv v3)
  have w4 := u5.lv v4
  have e5 : (gw5 a b c P).2.len = 10 + (gw5 a b c P).2.ands.length := by show (gw5 a b c P).2.n + _ = _; rw [n5]
  have hn : nodes 10 (gw5 a b c P).2.ands inp = (gw5 a b c P).2.nod inp := by unfold Gr.nod; rw [n5]
  refine ⟨by omega, ⟨(u1.lv A0).lit, (u1.lv B0).lit⟩, by omega, ⟨(u02.lv A0).lit, (u02.lv B0).lit, (u02.lv C0).lit⟩, by omega, fun x hx => (P3 x hx).lit, by omega, fun x hx => (P4 x hx).lit, by omega, n5, by have := u5.made.right; rwa [n5] at this, ?_, ?_⟩
  · intro x hx
    rw [← e5]
    simp only [List.mem_cons, List.not_mem_nil, or_false] at hx
    rcases hx with rfl | rfl | rfl | rfl | rfl
    · exact w1.lit
    · exact w2.lit
    · exact w3.lit
    · exact w4.lit
    · exact v5.lit
  · rw [hn]
    simp only [evalOuts, List.map_cons, List.map_nil, w1.val, w2.val, w3.val, w4.val, v5.val]

end Go.Proofs.YtkjlgamggkencaaDoor
