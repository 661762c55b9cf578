/-
  The reference's And: the search.
-/
import Derived.Test.YtkjlgamggkencaaDoorRefAnd
namespace Go.Proofs.YtkjlgamggkencaaDoor
open Go.RowKit

theorem idx_before {p : Int × Int} : ∀ {l : List (Int × Int)} {i k : Nat}, idx p l = some i → k < i → l.getD k (0, 0) ≠ p
  | [], _, _, h, _ => by simp [idx] at h
  | q :: r, i, k, h, hk => by
    rw [idx_cons] at h
    split at h
    · cases h; omega
    · rename_i e
      obtain ⟨j, hj, rfl⟩ := Option.map_eq_some_iff.1 h
      cases k with
      | zero => simpa using e
      | succ k => have := idx_before hj (k := k) (by omega); simpa using this
theorem idx_all {p : Int × Int} {l : List (Int × Int)} {k : Nat} (h : idx p l = none) (hk : k < l.length) : l.getD k (0, 0) ≠ p := by
  have := idx_none.1 h
  intro e
  apply this
  rw [← e]
  simp [List.getD, hk]

set_option maxRecDepth 100000 in
set_option maxHeartbeats 8000000 in
theorem xand_found (xp : Nat → Prop) (gx : Nat) (g : Gr) (w : World) (x y hi lo : Int) (i : Nat) (hG : IsX w xp gx g) (ho : Ordered x y hi lo) (h1 : isL hi g.len = true) (h2 : isL lo g.len = true)
    (p0 : lo ≠ 0) (p1 : lo ≠ 1) (p2 : hi ≠ lo) (p3 : hi ≠ notL lo) (hi' : idx (hi, lo) g.ands = some i) :
    Calls Tryd.prog 33 #[.pointer (some ⟨gx, 0, none⟩), .int .i64 x, .int .i64 y] w fun e w' => e = .returned (.int .i64 (2 * ((g.n : Int) + i + 1))) ∧ ∃ n, w.drewN n = w' := by
  have hl : g.len ≤ 8000 := hG.1
  have HX := Lib.hid (fun l n => xlit_any xp gx g _ l (hG.drewN n))
  have k1 := isL_iff.1 h1
  have k2 := isL_iff.1 h2
  have hxor := bits_xor_one lo (by omega) (by omega)
  have t0 : (lo == 0) = false := by simpa using p0
  have t1 : (hi == notL lo) = false := by simpa using p3
  have t2 : (lo == 1) = false := by simpa using p1
  have t3 : (hi == lo) = false := by simpa using p2
  obtain ⟨hx0, hx1, A, c, hb, hs⟩ := hG
  have c0 := hb.at_ 0 rfl
  have c1 := hb.at_ 1 rfl
  have hil := (idx_lt hi').1
  have HI := Lib.hid hi'
  have HS := Lib.hid hs
  clear hb hs p0 p1 p3 hi'
  rcases ho with ⟨e1, e2, ho⟩ | ⟨e1, e2, ho⟩ | ⟨e1, e2, ho⟩
  rotate_left 2
  · exact absurd ho.symm p2
  all_goals
    clear p2
    subst x
    subst y
    go_enter Tryd.func33, Tryd.ntmps33
    go_wp2_with fail
    refine (HX.out _ 0).mono ?_
    rintro e w' ⟨rfl, n1, rfl⟩
    first | rw [h1] | rw [h2]
    go_wp2_with fail
    refine (HX.out _ n1).mono ?_
    rintro e w' ⟨rfl, n2, rfl⟩
    first | rw [h2] | rw [h1]
    go_wp2_with fail
    go_loopw [8] (fun iv wr => ∃ (k j : Nat), k ≤ i ∧ iv = .int .i64 (k : Int) ∧ wr = w.drewN j) (fun iv _ => 20000 - (intOf iv).toNat)
    case atStart => exact ⟨0, _, by omega, rfl, rfl⟩
    case round =>
      obtain ⟨k, j, hk, rfl, rfl⟩ := hrel
      have hkl : k < g.ands.length := by omega
      obtain ⟨b, o, rfl, _, q1, q2⟩ := sl_pair HS.out hkl
      rw [← Nat.add_assoc] at q2
      have hk0 : (0 : Int) ≤ k := by omega
      have hk1 : (k : Int) < g.ands.length := by omega
      have wk1 : IntKind.i64.wrap ((g.n : Int) + k) = (g.n : Int) + k := IntWalk.i64_in _ (by omega)
      have wk2 : IntKind.i64.wrap ((g.n : Int) + k + 1) = (g.n : Int) + k + 1 := IntWalk.i64_in _ (by omega)
      have wk3 : IntKind.i64.wrap (2 * ((g.n : Int) + k + 1)) = 2 * ((g.n : Int) + k + 1) := IntWalk.i64_in _ (by omega)
      by_cases he : k = i
      · subst he
        have hp := (idx_lt HI.out).2
        have hgd : g.ands.getD k (0, 0) = (hi, lo) := by rw [List.getD_eq_getElem?_getD, hp]; rfl
        rw [hgd] at q1 q2
        clear hgd hp
        go_wp2_with fail
        go_ret
        exact ⟨rfl, _, rfl⟩
      · have hne := idx_before HI.out (show k < i by omega)
        generalize g.ands.getD k (0, 0) = p at *
        obtain ⟨u, v⟩ := p
        simp only at q1 q2
        by_cases hu : u = hi
        · have hv : ¬ v = lo := fun e => hne (by rw [hu, e])
          have r1 : (u == hi) = true := by simpa using hu
          have r2 : (v == lo) = false := by simpa using hv
          clear hu hv hne
          go_wp2_with fail
          go_roundw
          case rel => exact ⟨k + 1, _, by omega, by go_num, rfl⟩
          case measure => simp [intOf]; omega
        · have r1 : (u == hi) = false := by simpa using hu
          clear hu hne
          go_wp2_with fail
          go_roundw
          case rel => exact ⟨k + 1, _, by omega, by go_num, rfl⟩
          case measure => simp [intOf]; omega

end Go.Proofs.YtkjlgamggkencaaDoor
