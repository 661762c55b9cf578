/-
  A circuit that comes in as an argument: its inputs, its gates, its outputs.
-/
import Derived.Test.YtkjlgamggkencaaDoorMCirc
import Derived.ProofKit
import Derived.OpenShut
namespace Go.Proofs.YtkjlgamggkencaaDoor
open Go.RowKit Go.ChangeShapes Go.WideShapes Go.ChangeAt

theorem cells2_of {w : World} {base : Nat} {a : Addr} {l : List Value} (h : w.cells? base a 2 = some l) : ∃ u v, l = [u, v] ∧ w.cell? a = some u ∧ w.cell? (a.add 1) = some v := by
  unfold World.cells? at h
  split at h
  · simp only [List.range_succ, List.range_zero, List.nil_append, List.cons_append, List.mapM_cons, List.mapM_nil] at h
    have a0 : a.add 0 = a := by obtain ⟨b, o, sp⟩ := a; unfold Addr.add; split <;> simp_all
    rw [a0] at h
    cases h1 : w.cell? a with
    | none => rw [h1] at h; simp at h
    | some u =>
      cases h2 : w.cell? (a.add 1) with
      | none => rw [h1, h2] at h; simp at h
      | some v => rw [h1, h2] at h; simp at h; exact ⟨u, v, h.symm, rfl, rfl⟩
  · cases h

set_option maxRecDepth 100000 in
theorem pairs_of_trod {H : Type} {enc : TypeId × Value → H} {w : World} {base : Nat} {spare : Nat → Bool} {held : Bool} {fuel : Nat} {c : Value} {y : DataW H × List MemPlace}
    (hf : DataW.trod enc Tryd.prog w base spare held fuel 35 [c] = some y) : ∃ A n cap L, c = .slice A n cap ∧ L.length = n ∧ Sl w (fun k => k < w.heap.size) 2 (.slice A n cap) n (pairs L) := by
  have k2 : Tryd.prog.cellsOf 73 = 2 := by kernel_rfl
  have k1 : Tryd.prog.cellsOf 3 = 1 := by kernel_rfl
  rcases DataW.trod_slice Tryd.underlying35 hf with ⟨hcs, _⟩ | ⟨a, len, cap, elems, rest, n, _, hcs, rfl, hb, hl, hm, hlen, hel, hsp, hns⟩
  · simp at hcs
    subst hcs
    exact ⟨none, 0, 0, [], rfl, rfl, Sl.nil_ _ _ _⟩
  · simp at hcs
    subst hcs
    rw [k2] at hel
    have each : ∀ i, i < len → ∃ x y : Int, w.cell? (a.add (i * 2)) = some (.int .i64 x) ∧ w.cell? ((a.add (i * 2)).add 1) = some (.int .i64 y) := by
      intro i hi
      have h1 := hel i hi
      rw [List.getElem?_eq_getElem (by omega)] at h1
      obtain ⟨l, hl1, hl2⟩ := Option.bind_eq_some_iff.1 h1
      obtain ⟨u, v, rfl, hu, hv⟩ := cells2_of hl1
      obtain ⟨xs, q, _, _, _, hxl, hfs⟩ := DataW.trod_array Tryd.underlying73 hl2
      have g0 := hfs 0 (by omega)
      have g1 := hfs 1 (by omega)
      rw [List.getElem?_eq_getElem (by omega)] at g0 g1
      rw [k1] at g0 g1
      obtain ⟨x, hx, _, _⟩ := DataW.trod_int Tryd.underlying3 g0
      obtain ⟨z, hz, _, _⟩ := DataW.trod_int Tryd.underlying3 g1
      simp at hx hz
      exact ⟨x, z, by rw [hu, hx], by rw [hv, hz]⟩
    obtain ⟨L, hL, hLc⟩ : ∃ L : List (Int × Int), L.length = len ∧ ∀ i, i < len → w.cell? (a.add (i * 2)) = some (.int .i64 (L.getD i (0, 0)).1) ∧ w.cell? ((a.add (i * 2)).add 1) = some (.int .i64 (L.getD i (0, 0)).2) := by
      clear hf hel hsp hns hlen hb hl hm
      induction len with
      | zero => exact ⟨[], rfl, fun i h => absurd h (Nat.not_lt_zero _)⟩
      | succ n ih =>
        obtain ⟨L, h1, h2⟩ := ih (fun i hi => each i (by omega))
        obtain ⟨x, z, e1, e2⟩ := each n (by omega)
        refine ⟨L ++ [(x, z)], by simp [h1], fun i hi => ?_⟩
        rcases Nat.lt_or_ge i n with h | h
        · have : (L ++ [(x, z)]).getD i (0, 0) = L.getD i (0, 0) := by simp [List.getD, List.getElem?_append_left (show i < L.length by omega)]
          rw [this]; exact h2 i h
        · obtain rfl : i = n := by omega
          have : (L ++ [(x, z)]).getD i (0, 0) = (x, z) := by simp [List.getD, ← h1]
          rw [this]; exact ⟨e1, e2⟩
    refine ⟨some a, len, cap, L, rfl, hL, ⟨by rw [pairs_length, hL], some a, cap, rfl, hl, (fun h => by cases h), fun j u hu => ?_⟩⟩
    have hj : j < len * 2 := by have := (List.getElem?_eq_some_iff.1 hu).1; rw [pairs_length, hL] at this; exact this
    have hi : j / 2 < len := by omega
    obtain ⟨c1, c2⟩ := hLc (j / 2) hi
    obtain ⟨p1, p2⟩ := pairs_at L (k := j / 2) (by omega)
    have h0 := World.block_lt_of_cell? _ _ c1
    obtain ⟨c10, _⟩ := hLc 0 (by omega)
    obtain ⟨b, o, sp⟩ := a
    have hsp0 : sp = none := by
      cases sp with
      | none => rfl
      | some s => simp [World.cell?, Addr.add] at c10; split at c10 <;> simp at c10
    subst hsp0
    rw [addr_add] at c1 h0
    rw [addr_add, addr_add] at c2
    refine ⟨b, o, rfl, h0, ?_⟩
    rcases (show j = 2 * (j / 2) ∨ j = 2 * (j / 2) + 1 from by omega) with e | e
    · rw [e] at hu ⊢
      rw [p1] at hu
      cases hu
      rw [Nat.mul_comm]; exact c1
    · rw [e] at hu ⊢
      rw [p2] at hu
      cases hu
      rw [show o + (2 * (j / 2) + 1) = o + j / 2 * 2 + 1 from by omega]; exact c2

theorem array3 {α : Type} {cs : Array α} (h : cs.size = 3) : ∃ c0 c1 c2, cs = #[c0, c1, c2] := by
  obtain ⟨l⟩ := cs
  match l, h with
  | [c0, c1, c2], _ => exact ⟨c0, c1, c2, rfl⟩

theorem ints_of_trod {H : Type} {enc : TypeId × Value → H} {w : World} {base : Nat} {spare : Nat → Bool} {held : Bool} {fuel : Nat} {c : Value} {y : DataW H × List MemPlace}
    (hf : DataW.trod enc Tryd.prog w base spare held fuel 22 [c] = some y) : ∃ (A : Option Addr) (n cap : Nat) (l : List Int), c = .slice A n cap ∧ l.length = n ∧ Sl w (fun k => k < w.heap.size) 1 (.slice A n cap) n (l.map (.int .i64)) := by
  rcases open_ints Tryd.underlying22 Tryd.underlying3 (by kernel_rfl) hf with ⟨hcs, _⟩ | ⟨x, l, cap, zs, hcs, _, hl, hm, hz, _, hcell, hwz⟩
  · simp at hcs
    subst hcs
    exact ⟨none, 0, 0, [], rfl, rfl, Sl.nil_ _ _ _⟩
  · simp at hcs
    subst hcs
    have hz' : l ≤ zs.length := by rw [hz]; split <;> omega
    obtain ⟨z, hzl, hs, _⟩ := sl_of_ints (cap := zs.length) hz' rfl hcell hwz
    obtain ⟨h1, A, c', e, hc, ha, hx⟩ := hs
    cases e
    exact ⟨some x, l, cap, z, rfl, hzl, h1, some x, cap, rfl, hl, (fun h => by cases h), hx⟩

set_option maxRecDepth 100000 in
/-- the circuit's three cells -/
theorem circuit_of_trod {H : Type} {enc : TypeId × Value → H} {w : World} {base b0 : Nat} {r : Reach} {spare : Nat → Bool} {held : Bool} {v : Value} {d : DataW H} {p : List MemPlace}
    (hv : Value.okWide Tryd.prog w r b0 40 v) (h : DataW.Trod enc Tryd.prog w base spare held 40 v d p) :
    ∃ (N : Int) (A : Option Addr) (m c : Nat) (B : Option Addr) (k e : Nat) (L : List (Int × Int)) (l : List Int), v = cv N A m c B k e ∧ L.length = m ∧ l.length = k ∧ Sl w (fun k => k < w.heap.size) 2 (.slice A m c) m (pairs L) ∧ Sl w (fun k => k < w.heap.size) 1 (.slice B k e) k (l.map (.int .i64)) := by
  obtain ⟨cs, rfl, hsz⟩ := okWide_struct Tryd.underlying40 hv
  obtain ⟨c0, c1, c2, rfl⟩ := array3 (hsz.trans (show Tryd.prog.cellsOf 40 = 3 by kernel_rfl))
  obtain ⟨fuel, hf⟩ := h
  obtain ⟨xs, n, _, _, _, hxl, hfs⟩ := DataW.trod_struct Tryd.underlying40 hf
  have k1 : Tryd.prog.cellsOf 35 = 1 := by kernel_rfl
  have k2 : Tryd.prog.cellsOf 3 = 1 := by kernel_rfl
  have k3 : Tryd.prog.cellsOf 22 = 1 := by kernel_rfl
  have g : ∀ i, i < 3 → ∃ y, xs[i]? = some y := fun i hi => ⟨xs[i]'(by rw [hxl]; exact hi), List.getElem?_eq_getElem _⟩
  obtain ⟨y0, e0⟩ := g 0 (by omega)
  obtain ⟨y1, e1⟩ := g 1 (by omega)
  obtain ⟨y2, e2⟩ := g 2 (by omega)
  have h0 : DataW.trod enc Tryd.prog w base spare held n 3 [c0] = some y0 := by have := (hfs 0 _ rfl).trans e0; simpa [Value.cells, k2] using this
  have h1 : DataW.trod enc Tryd.prog w base spare held n 35 [c1] = some y1 := by have := (hfs 1 _ rfl).trans e1; simpa [Value.cells, k1, k2] using this
  have h2 : DataW.trod enc Tryd.prog w base spare held n 22 [c2] = some y2 := by have := (hfs 2 _ rfl).trans e2; simpa [Value.cells, k1, k2, k3] using this
  obtain ⟨N, hN, _, _⟩ := DataW.trod_int Tryd.underlying3 h0
  obtain ⟨A, m, c, L, rfl, hL, hs⟩ := pairs_of_trod h1
  obtain ⟨B, k, e, l, rfl, hl, ho⟩ := ints_of_trod h2
  simp at hN
  subst hN
  exact ⟨N, A, m, c, B, k, e, L, l, rfl, hL, hl, hs, ho⟩

end Go.Proofs.YtkjlgamggkencaaDoor
