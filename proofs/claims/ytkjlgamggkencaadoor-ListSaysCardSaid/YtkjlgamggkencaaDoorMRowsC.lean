/-
  One row more behind rows of booleans, where the old slice is read on.
-/
import Derived.Test.YtkjlgamggkencaaDoorMRowsA
import Derived.Test.YtkjlgamggkencaaDoorMRow
namespace Go.Proofs.YtkjlgamggkencaaDoor
open Go.RowKit
set_option linter.unusedVariables false

theorem append_row1 (w : World) (ty : TypeId) (base : Nat) (v : Value) (n : Nat) (cs : List (List Bool)) (lim : Nat) (vs : List Value) (h0 : cs.length = n) (hown : w.ownsRow base 54 1 v n vs) (hea : EachB w (fun k => (base ≤ k ∧ v.ownBlock ≠ some k) ∧ k < lim) vs cs) (hol : ∀ g, v.ownBlock = some g → g < lim) (ad : Addr) (A : Option Addr) (d : Nat) (r : List Bool) (G : Nat → Prop)
    (hc : w.cell? ad = some (.slice A r.length d)) (hr : Sl w G 1 (.slice A r.length d) r.length (r.map .bool)) (hG : ∀ k, k < w.heap.size → G k → base ≤ k ∧ v.ownBlock ≠ some k) (hn : n ≤ 1000) (hb : base ≤ w.heap.size) :
    ∃ v' w', (Builtin.append_ #[109, 109] ty #[v, .slice (some ad) 1 1]).run Tryd.prog w = .ok v' w' ∧ RwB w' (fun _ => True) v' (n + 1) (cs ++ [r]) ∧ RwB w' (fun k => k < lim) v n cs ∧ Frm (fun g => v.ownBlock = some g) w w' := by
  obtain ⟨i0, hi, hz0, hz1, hz2⟩ := info_parts infoBools
  have hnews : ∀ j u, [Value.slice A r.length d][j]? = some u → w.cell? (ad.add j) = some u := by
    intro j u hu
    cases j with
    | zero => simp at hu; subst hu; rw [show ad.add 0 = ad from by simp [Addr.add]]; exact hc
    | succ j => simp at hu
  have hone : ∀ u ∈ [Value.slice A r.length d], u.oneCell' = true := by intro u hu; simp at hu; subst hu; rfl
  obtain ⟨v', w', hr1, h2, h3, _, h5⟩ := run_append_own_at (P := Tryd.prog) w base 109 ty 54 i0 (.slice none 0 0) 1 24 Tryd.underlying109 hi hz0 hz1 hz2 rfl (by decide) v n vs hown ad 1 1 [.slice A r.length d] rfl hnews hone (by unfold maxLen; omega) (by omega) hb
  have hfr : Frm (fun g => v.ownBlock = some g) w w' := (Frm.refl _ w).grown h3 (fun g hg _ => hg)
  have hmore := RwBO.more h0 (hea.mono (fun _ _ h => h.1)) (rfl : [r].length = 1) (EachB.one hr) hG h2 h3 h5
  refine ⟨v', w', hr1, hmore.rw.mono (fun _ _ _ => trivial), ⟨h0, vs, ?_, (hea.frm hfr (fun k hk e => hk.1.2 e)).mono (fun _ _ h => h.2)⟩, hfr⟩
  have hown1 := hown
  rcases hown1.2 with ⟨rfl, rfl⟩ | ⟨g, cap, cur, rfl, hbg, hg, hnc, hcm, hcs, htake⟩
  · obtain rfl : vs = [] := List.eq_nil_of_length_eq_zero (by simpa using hown.1)
    exact Sl.nil_ _ _ _
  · by_cases hroom : n + 1 ≤ cap
    · have hr2 := run_append_room (P := Tryd.prog) w 109 ty 54 i0 Tryd.underlying109 hi g n cap cur hg ad 1 1 [.slice A r.length d] (by rw [hz1]; rfl) hnews hone hroom (by rw [hz1, hcs]; simp; omega)
      rw [hr1] at hr2
      injection hr2 with e1 e2
      subst e1
      have hcell := h2.cells (g := g) rfl
      refine ⟨hown.1, some ⟨g, 0, none⟩, cap, rfl, hnc, (fun h => by cases h), fun i u hu => ⟨g, 0, rfl, hol g rfl, ?_⟩⟩
      have hlt : i < vs.length := by
        rcases Nat.lt_or_ge i vs.length with h | h
        · exact h
        · rw [List.getElem?_eq_none h] at hu; cases hu
      have := hcell i u (by rw [List.getElem?_append_left hlt]; exact hu)
      simpa [Addr.add_lit] using this
    · have holds : ∀ j u, vs[j]? = some u → w.cell? ((⟨g, 0, none⟩ : Addr).add j) = some u := hown.cells (g := g) rfl
      have hr2 := run_append_grow (P := Tryd.prog) w 109 ty 54 i0 (.slice none 0 0) Tryd.underlying109 hi hz0 ⟨g, 0, none⟩ n cap vs (by rw [hz1]; exact hown.1) holds ad 1 1 [.slice A r.length d] (by rw [hz1]; rfl) hnews (by omega) (by omega) (growslice_fits (by omega) (by rw [hz2]; omega))
      rw [hr1] at hr2
      injection hr2 with e1 e2
      rw [e2]
      have hff := ((Frm.refl (fun _ => False) w).drew).alloc (.cells (vs.toArray ++ [Value.slice A r.length d].toArray ++ Builtin.zeroCells (Value.slice none 0 0).cells (grownCap w (n + 1) cap 54 - (n + 1))) 54)
      refine ⟨hown.1, some ⟨g, 0, none⟩, cap, rfl, hnc, (fun h => by cases h), fun i u hu => ⟨g, 0, rfl, hol g rfl, ?_⟩⟩
      have := hff.cell (holds i u hu) id
      simpa [Addr.add_lit] using this

theorem wp_append_row1 {w : World} {o : Oper} {a : Act} {K : Act → World → Prop} {Q : Exit → Act → World → Prop} (s x : Operand)
    (ho : o.op = .call { callee := .builtin .append, args := #[s, x], argTypes := #[109, 109] })
    (base : Nat) (v : Value) (n : Nat) (cs : List (List Bool)) (lim : Nat) (vs : List Value) (hs : a.eval s = v) (h0 : cs.length = n) (hown : w.ownsRow base 54 1 v n vs) (hea : EachB w (fun k => (base ≤ k ∧ v.ownBlock ≠ some k) ∧ k < lim) vs cs) (hol : ∀ g, v.ownBlock = some g → g < lim) (ad : Addr) (hx : a.eval x = .slice (some ad) 1 1) (A : Option Addr) (d : Nat) (r : List Bool) (G : Nat → Prop)
    (hc : w.cell? ad = some (.slice A r.length d)) (hr : Sl w G 1 (.slice A r.length d) r.length (r.map .bool)) (hG : ∀ k, k < w.heap.size → G k → base ≤ k ∧ v.ownBlock ≠ some k) (hn : n ≤ 1000) (hb : base ≤ w.heap.size)
    (h : ∀ v' w', RwB w' (fun _ => True) v' (n + 1) (cs ++ [r]) → RwB w' (fun k => k < lim) v n cs → Frm (fun g => v.ownBlock = some g) w w' → K (a.put o.dst v') w') : o.wp Tryd.prog a w K Q := by
  obtain ⟨v', w', hr1, h1, h2, h3⟩ := append_row1 w o.type base v n cs lim vs h0 hown hea hol ad A d r G hc hr hG hn hb
  unfold Oper.wp execOp
  simp only [ho, resolve, invoke, builtin, Sem.run_bind, Sem.run_pure, Result.andThen_ok, List.map_toArray, List.map_cons, List.map_nil, hs, hx, hr1]
  exact h v' w' h1 h2 h3

theorem wp_make_z {P : Program} {w : World} {o : Oper} {a : Act} {K : Act → World → Prop} {Q : Exit → Act → World → Prop} (l c : Operand) (t : TypeId) (hop : o.op = Op.makeSlice t l c)
    (e : TypeId) (i : TypeInfo) (z : Value) (ht : P.underlying t = some (.slice e)) (hi : P.info? e = some i) (hz : i.zero = some z) (hsize : i.size = 1) (hz1 : z.cells = #[z])
    (kl kc : IntKind) (ln cn : Nat) (hl : a.eval l = .int kl (ln : Int)) (hc : a.eval c = .int kc (cn : Int)) (hlc : ln ≤ cn) (hbytes : i.bytes * cn ≤ 281474976710656) (h63 : cn ≤ 9223372036854775807)
    (hK : ∀ w', Blk w' w.heap.size e (List.replicate cn z) → Frm (fun _ => False) w w' → K (a.put o.dst (.slice (some ⟨w.heap.size, 0, none⟩) ln cn)) w') : o.wp P a w K Q := by
  have hrun := run_make_z (P := P) w t e i z ht hi hz hsize hz1 kl kc ln cn hlc hbytes h63
  unfold Oper.wp
  simp [execOp, hop, hl, hc, hrun, Result.andThen]
  exact hK _ (Blk.new _ _ _) ((Frm.refl _ _).alloc _)
end Go.Proofs.YtkjlgamggkencaaDoor
