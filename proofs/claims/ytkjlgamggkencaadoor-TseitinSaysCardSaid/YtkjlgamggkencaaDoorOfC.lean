/-
  The contract of skolemref1.Of: is a model one of clauses?
-/
import Derived.Test.YtkjlgamggkencaaDoorTseitinP
import Derived.Test.YtkjlgamggkencaaDoorRows2
import Derived.Test.YtkjlgamggkencaaDoorEvalC
namespace Go.Proofs.YtkjlgamggkencaaDoor
open Go.RowKit

/-- a literal of a model of k values -/
def InM (k : Nat) (x : Int) : Prop := x ≠ 0 ∧ -(k : Int) < x ∧ x < k
theorem any_take {l : List Int} {k : Nat} (hk : k < l.length) (f : Int → Bool) : (l.take (k + 1)).any f = ((l.take k).any f || f (l.getD k 0)) := by
  rw [List.take_succ_eq_append_getElem hk, List.any_append, show l.getD k 0 = l[k] from by simp [List.getD, hk]]
  simp
theorem all_take {ls : List (List Int)} {k : Nat} (hk : k < ls.length) (f : List Int → Bool) : (ls.take (k + 1)).all f = ((ls.take k).all f && f (ls.getD k [])) := by
  rw [List.take_succ_eq_append_getElem hk, List.all_append, show ls.getD k [] = ls[k] from by simp [List.getD, hk]]
  simp
theorem all_false_at {ls : List (List Int)} {k : Nat} (hk : k < ls.length) {f : List Int → Bool} (h : f (ls.getD k []) = false) : ls.all f = false := by
  rw [List.all_eq_false]
  exact ⟨ls.getD k [], by simp [List.getD, hk], by rw [h]; simp⟩

set_option maxRecDepth 100000 in
set_option maxHeartbeats 4000000 in
theorem of_any (A : Option Addr) (n c : Nat) (cs : List (List Int)) (B : Option Addr) (k d : Nat) (m : List Bool) (F G : Nat → Prop) (w : World) (hk : m.length = k) (hok : ∀ c ∈ cs, c.length ≤ 100000 ∧ ∀ x ∈ c, InM k x) (hn4 : n ≤ 100000) (hk4 : k ≤ 100000)
    (hr : Rw w F (.slice A n c) n cs) (hs : Sl w G 1 (.slice B k d) k (m.map .bool)) :
    Calls Tryd.prog 49 #[.slice A n c, .slice B k d] w fun e w' => e = .returned (.bool (ofC cs m)) ∧ Frm (fun _ => False) w w' := by
  have HN := Lib.hid hr.1
  have HOK := Lib.hid hok
  have HK := Lib.hid hk
  clear hok hk
  go_enter Tryd.func49, Tryd.ntmps49
  go_wp2_with fail
  go_loopw [5] (fun i wr => ∃ (j : Nat), j ≤ n ∧ i = .int .i64 j ∧ ofC (cs.take j) m = true ∧ Frm (fun _ => False) w wr) (fun i _ => n - (intOf i).toNat)
  case atStart => exact ⟨0, by omega, rfl, rfl, Frm.refl _ _⟩
  case round =>
    obtain ⟨j, hj, rfl, hof, hfk⟩ := hrel
    have HOF := Lib.hid hof
    clear hof
    by_cases hlt : j < n
    · have hlt2 : j < cs.length := by rw [HN.out]; exact hlt
      obtain ⟨b, o, C, q, rfl, _, hcell, hrow⟩ := (hr.frm hfk (fun _ _ => id)).at_ hlt
      have hcx := HOK.out (cs.getD j []) (by simp [List.getD, hlt2])
      have hall := all_take hlt2 (fun c => c.any (satL m))
      have hfal := all_false_at (f := fun c => c.any (satL m)) hlt2
      have HAL := Lib.hid hall
      have HFA := Lib.hid hfal
      clear hall hfal
      generalize hl : cs.getD j [] = l at *
      clear hl
      have HCX := Lib.hid hcx.2
      have hll := hcx.1
      clear hcx
      obtain ⟨p, hp⟩ : ∃ p, l.length = p := ⟨_, rfl⟩
      have HP := Lib.hid hp
      rw [hp] at hcell hrow hll
      clear hp
      have j0 : (0 : Int) ≤ j := by omega
      have j1 : (j : Int) < n := by omega
      have hsk := hs.frm hfk (fun _ _ => id)
      clear hr
      go_wp2_with fail
      go_loopw [6, 7] (fun t i wx => ∃ (y : Nat), y ≤ p ∧ i = .int .i64 y ∧ t = .bool ((l.take y).any (satL m)) ∧ Frm (fun _ => False) wr wx) (fun _ i _ => p - (intOf i).toNat)
      case atStart => exact ⟨0, by omega, rfl, rfl, Frm.refl _ _⟩
      case round =>
        obtain ⟨y, hy, rfl, rfl, hfy⟩ := hrel
        have hcell2 := hfy.cell hcell id
        by_cases hly : y < p
        · have hly2 : y < l.length := by rw [HP.out]; exact hly
          obtain ⟨b2, o2, u, rfl, _, hu, hc2⟩ := (hrow.frm hfy (fun _ _ => id)).at_ hly
          obtain rfl := at_getD hu
          have hx := HCX.out (l.getD y 0) (by simp [List.getD, hly2])
          have hat := any_take hly2 (satL m)
          clear hu
          generalize l.getD y 0 = x at *
          obtain ⟨x0, x1, x2⟩ := hx
          have y0 : (0 : Int) ≤ y := by omega
          have y1 : (y : Int) < p := by omega
          have HAT := Lib.hid hat
          clear hat
          by_cases hpx : 0 < x
          · obtain ⟨b3, o3, u3, rfl, _, hu3, hc3⟩ := (hsk.frm hfy (fun _ _ => id)).at_ (k := x.toNat) (by omega)
            obtain rfl := at_bool hu3
            have hst : satL m x = m.getD x.toNat false := by unfold satL; rw [if_pos hpx]
            have HST := Lib.hid hst
            clear hu3 hst
            generalize m.getD x.toNat false = z at *
            have z0 : (0 : Int) ≤ x := by omega
            have z1 : ¬ x < 0 := by omega
            cases z
            · go_wp2_with fail
              go_roundw
              case rel => exact ⟨y + 1, by omega, by go_num, by rw [HAT.out, HST.out, Bool.or_false], hfy⟩
              case measure => simp [intOf]; omega
            · go_wp2_with fail
              go_roundw
              case rel => exact ⟨y + 1, by omega, by go_num, by rw [HAT.out, HST.out, Bool.or_true], hfy⟩
              case measure => simp [intOf]; omega
          · obtain ⟨b3, o3, u3, rfl, _, hu3, hc3⟩ := (hsk.frm hfy (fun _ _ => id)).at_ (k := (-x).toNat) (by omega)
            obtain rfl := at_bool hu3
            have hst : satL m x = !m.getD (-x).toNat false := by unfold satL; rw [if_neg hpx, if_pos (by omega), decide_eq_true (by have := HK.out; omega), Bool.true_and]
            have HST := Lib.hid hst
            clear hu3 hst
            generalize m.getD (-x).toNat false = z at *
            have z1 : x < 0 := by omega
            have wn : IntKind.i64.wrap (-x) = -x := IntWalk.i64_in _ (by omega)
            have z2 : 0 < -x := by omega
            have z3 : -x < (k : Int) := by omega
            have z4 : (0 : Int) ≤ -x := by omega
            cases z
            · go_wp2_with fail
              go_roundw
              case rel => exact ⟨y + 1, by omega, by go_num, by rw [HAT.out, HST.out, Bool.not_false, Bool.or_true], hfy⟩
              case measure => simp [intOf]; omega
            · go_wp2_with fail
              go_roundw
              case rel => exact ⟨y + 1, by omega, by go_num, by rw [HAT.out, HST.out, Bool.not_true, Bool.or_false], hfy⟩
              case measure => simp [intOf]; omega
        · obtain rfl : p = y := by omega
          rw [List.take_of_length_le (by rw [HP.out]; exact Nat.le_refl _)]
          generalize l.any (satL m) = z at *
          cases z
          · go_wp2_with fail
            go_ret
            exact ⟨ret_bool (by unfold ofC; exact (HFA.out (by trivial)).symm), hfk.trans hfy⟩
          · go_wp2_with fail
            go_roundw
            case rel => exact ⟨j + 1, by omega, by go_num, by have h1 := HOF.out; unfold ofC at h1 ⊢; rw [HAL.out, h1]; rfl, hfk.trans hfy⟩
            case measure => simp [intOf]; omega
    · obtain rfl : n = j := by omega
      have hof := HOF.out
      rw [List.take_of_length_le (by rw [HN.out]; exact Nat.le_refl _)] at hof
      have H2 := Lib.hid hof
      clear hof
      go_wp2_with fail
      go_ret
      exact ⟨ret_bool H2.out.symm, hfk⟩

end Go.Proofs.YtkjlgamggkencaaDoor
