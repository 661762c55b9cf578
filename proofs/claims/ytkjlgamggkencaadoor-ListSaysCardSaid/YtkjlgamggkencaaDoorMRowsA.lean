/-
  An append of rows of booleans; what the laws of chapter 24 share.
-/
import Derived.Test.YtkjlgamggkencaaDoorMMatchC
import Derived.Maps.AppendAt
import Derived.Laws.OwnMore
namespace Go.Proofs.YtkjlgamggkencaaDoor
open Go.RowKit
set_option linter.unusedVariables false

theorem wp_append_rows {w : World} {o : Oper} {a : Act} {K : Act → World → Prop} {Q : Exit → Act → World → Prop} (s x : Operand)
    (ho : o.op = .call { callee := .builtin .append, args := #[s, x], argTypes := #[109, 109] })
    (base base2 : Nat) (v u : Value) (n m : Nat) (cs cs' : List (List Bool)) (hs : a.eval s = v) (hv : RwBO w base 54 v n cs) (hx : a.eval x = u) (hu : RwBO w base2 54 u m cs')
    (hlt : ∀ g, v.ownBlock = some g → g < base2) (hb : base ≤ base2) (hbase : base2 ≤ w.heap.size) (hn : n ≤ 1000) (hm : m ≤ 1000)
    (h : ∀ v' w', RwBO w' base 54 v' (n + m) (cs ++ cs') → Frm (fun g => v.ownBlock = some g) w w' → K (a.put o.dst v') w') : o.wp Tryd.prog a w K Q := by
  obtain ⟨i0, hi, hz0, hz1, hz2⟩ := info_parts infoBools
  obtain ⟨h0, vs, hown, hea⟩ := hv
  obtain ⟨g0, us, hown2, hea2⟩ := hu
  have hl2 := hown2.lt
  obtain ⟨r1, r2⟩ := hown2
  rcases r2 with ⟨rfl, rfl⟩ | ⟨g, cap, cur, rfl, hbg, hg, hnc, hcm, hcs, htake⟩
  · obtain rfl : cs' = [] := List.eq_nil_of_length_eq_zero g0
    have hr := run_append_owned_none (P := Tryd.prog) w base 109 o.type 54 i0 1 Tryd.underlying109 hi v n vs hown
    unfold Oper.wp execOp
    simp only [ho, resolve, invoke, builtin, Sem.run_bind, Sem.run_pure, Result.andThen_ok, List.map_toArray, List.map_cons, List.map_nil, hs, hx, hr]
    refine h v w ?_ (Frm.refl _ _)
    rw [List.append_nil, Nat.add_zero]
    exact ⟨h0, vs, hown, hea⟩
  · have hown2 : w.ownsRow base2 54 1 (.slice (some ⟨g, 0, none⟩) m cap) m us := ⟨r1, .inr ⟨g, cap, cur, rfl, hbg, hg, hnc, hcm, hcs, htake⟩⟩
    have hcells : ∀ j u, us[j]? = some u → w.cell? ((⟨g, 0, none⟩ : Addr).add j) = some u := hown2.cells (g := g) rfl
    have hone : ∀ u ∈ us, u.oneCell' = true := by
      intro u hu
      obtain ⟨i, hi, rfl⟩ := List.mem_iff_getElem.1 hu
      have hlen := hea2.1
      obtain ⟨A, d, e, _⟩ := hea2.at_ (k := i) (by omega)
      rw [List.getElem?_eq_getElem hi, Option.some.injEq] at e
      rw [e]
      rfl
    obtain ⟨v', w', hr, h2, h3, h4, h5⟩ := run_append_own_at (P := Tryd.prog) w base 109 o.type 54 i0 (.slice none 0 0) 1 24 Tryd.underlying109 hi hz0 hz1 hz2 rfl (by decide) v n vs hown ⟨g, 0, none⟩ m cap us r1 hcells hone (by unfold maxLen; omega) (by omega) (by omega)
    unfold Oper.wp execOp
    simp only [ho, resolve, invoke, builtin, Sem.run_bind, Sem.run_pure, Result.andThen_ok, List.map_toArray, List.map_cons, List.map_nil, hs, hx, hr]
    refine h v' w' ?_ ((Frm.refl _ _).grown h3 (fun g hg _ => hg))
    exact RwBO.more h0 hea g0 hea2 (fun k hk hG => ⟨by omega, fun e => by have := hlt k e; omega⟩) h2 h3 h5

theorem modN (x : Int) : ∃ i : Nat, x % 7 = i ∧ i ≤ 6 := ⟨(x % 7).toNat, by omega, by omega⟩

theorem getD_append_l {cs cs' : List (List Bool)} {j : Nat} (h : j < cs.length) : (cs ++ cs').getD j [] = cs.getD j [] := by
  rw [List.getD, List.getElem?_append_left h]; rfl
/-- more moves behind change nothing -/
theorem choose_more {M : Mt} {a : List Bool} {cs : List (List Bool)} (cs' : List (List Bool)) {k : Nat} (hk : M.choose a cs = k) : M.choose a (cs ++ cs') = k := by
  rcases choose_spec M a cs with ⟨h, _⟩ | ⟨k', h1, h2, h3, h4⟩
  · omega
  · obtain rfl : k' = k := by omega
    refine choose_at (by rw [List.length_append]; omega) (by rw [getD_append_l h1]; exact h3) (fun j hj => ?_)
    rw [getD_append_l (by omega)]
    exact h4 j hj
end Go.Proofs.YtkjlgamggkencaaDoor
