/-
  The contract of skolemlaw9.pair.
-/
import Derived.Test.YtkjlgamggkencaaDoorLaw9
import Derived.Test.YtkjlgamggkencaaDoorGateLawsP
import Derived.Test.YtkjlgamggkencaaDoorGraphPlays
namespace Go.Proofs.YtkjlgamggkencaaDoor
open Go.RowKit

set_option maxRecDepth 100000 in
set_option maxHeartbeats 4000000 in
theorem pair_any (E : Nat → Value) (hE : E 0 = .nilIface) (i : Int) (a0 : Option Addr) (len0 cap0 : Nat) (z0 : List Int) (hz0 : z0.length = len0) (F : Nat → Prop) (w : World)
    (s0 : Sl w F 1 (.slice a0 len0 cap0) len0 (z0.map (.int .i64))) (h0 : len0 ≤ 400) (hi : i ≤ 400) :
    Calls Tryd.prog 60 #[.int .i64 i, .slice a0 len0 cap0] w fun e w' => ∃ gb gx, e = .returned (.tuple #[.pointer (some ⟨gb, 0, none⟩), .pointer (some ⟨gx, 0, none⟩)]) ∧
      Pr E (fun k => k < w.heap.size) w' gb (pairG (clamp i) z0 (len0 / 2)) gx (pairG (clamp i) z0 (len0 / 2)) ∧ Frm (fun _ => False) w w' := by
  have HZ := Lib.hid hz0
  clear hz0
  have hcl : clamp i ≤ 400 := by unfold clamp; omega
  go_enter Tryd.func60, Tryd.ntmps60
  go_wp2_with fail
  refine (new_any E hE i w).mono ?_
  rintro e w2 ⟨gb, fp, rfl, hG, hfp, hf2⟩
  go_wp2_with fail
  refine (xnew_any i w2).mono ?_
  rintro e w3 ⟨rfl, hX, hf3, hsz⟩
  have hP0 : Pr E (fun k => k < w.heap.size) w3 gb ⟨clamp i, [], 0⟩ w2.heap.size ⟨clamp i, [], 0⟩ := pr_new hG hfp hf2 hX hf3 hsz
  have hf03 := hf2.trans hf3
  clear hG hfp hX hf2 hf3 hsz
  generalize w2.heap.size = gx at *
  go_wp2_with fail
  go_loopw [8] (fun iv wr => ∃ (k : Nat), 2 * k ≤ len0 ∧ iv = .int .i64 (2 * (k : Int)) ∧ Pr E (fun k => k < w.heap.size) wr gb (pairG (clamp i) z0 k) gx (pairG (clamp i) z0 k) ∧ Frm (fun _ => False) w wr) (fun iv _ => (2 * len0 + 2 - intOf iv).toNat)
  case atStart => exact ⟨0, by omega, rfl, hP0, hf03⟩
  case round =>
    obtain ⟨k, hk, rfl, hP, hfk⟩ := hrel
    obtain ⟨p1, p2, p3, p4, p5⟩ := pairG_ok (clamp i) z0 k (by omega)
    by_cases hlt : 2 * k + 1 < len0
    · have sk := s0.frm hfk (fun _ _ => id)
      obtain ⟨bk, o, u, rfl, hbF, hu, hcell⟩ := sk.at_ (k := 2 * k) (by omega)
      obtain rfl := at_getD hu
      obtain ⟨bk', o', u', e', hbF', hu', hcell'⟩ := sk.at_ (k := 2 * k + 1) (by omega)
      cases e'
      obtain rfl := at_getD hu'
      clear hu hu' sk hbF hbF'
      have hst : pairG (clamp i) z0 (k + 1) = ((pairG (clamp i) z0 k).and (z0.getD (2 * k) 0 % (2 * ((pairG (clamp i) z0 k).len : Int) + 2)) (z0.getD (2 * k + 1) 0 % (2 * ((pairG (clamp i) z0 k).len : Int) + 2))).2 := rfl
      generalize z0.getD (2 * k) 0 = x at *
      generalize z0.getD (2 * k + 1) 0 = y at *
      have hlt' : 2 * (k : Int) + 1 < len0 := by omega
      have wk : IntKind.i64.wrap (2 * (k : Int) + 1) = 2 * (k : Int) + 1 := IntWalk.i64_in _ (by omega)
      have k0 : (0 : Int) ≤ 2 * (k : Int) := by omega
      have k1 : (0 : Int) ≤ 2 * (k : Int) + 1 := by omega
      have k2 : 2 * (k : Int) < len0 := by omega
      have k3 : (2 * (k : Int)).toNat = 2 * k := by omega
      have k4 : (2 * (k : Int) + 1).toNat = 2 * k + 1 := by omega
      generalize hg : pairG (clamp i) z0 k = g at *
      have lx := isL_emod x g.len
      have ly := isL_emod y g.len
      have HA := Lib.hid (fun n => pr_and (hP.drewN n) _ _ lx ly (by omega))
      have HN := Lib.hid (fun x W => number_any x (2 * (g.len : Int) + 2) W (by omega) (by omega))
      clear hg p1 p2 p3
      go_wp2_with fail
      refine (pr_xlen hP).mono ?_
      rintro e w' ⟨rfl, n1, rfl⟩
      go_wp2_with fail
      refine (HN.out x _).mono ?_
      rintro e w' ⟨rfl, rfl⟩
      go_wp2_with fail
      refine (HN.out y _).mono ?_
      rintro e w' ⟨rfl, rfl⟩
      generalize x % (2 * (g.len : Int) + 2) = X at *
      generalize y % (2 * (g.len : Int) + 2) = Y at *
      go_wp2_with fail
      refine (HA.out _).mono ?_
      rintro e w4 ⟨rfl, hP4, hf4⟩
      go_wp2_with fail
      refine (pr_xand hP4 X Y (by omega)).mono ?_
      rintro e w5 ⟨rfl, hP5, hf5⟩
      rw [← hst] at hP5
      have hfk5 := frm_kept (frm_kept (hfk.drewN n1) hf4 (fun _ h => h)) hf5 (fun _ h => h)
      go_wp2_with fail
      go_roundw
      case rel => exact ⟨k + 1, by omega, by go_num, hP5, hfk5⟩
      case measure => simp [intOf]; omega
    · obtain rfl : k = len0 / 2 := by omega
      have hge : ¬ 2 * ((len0 / 2 : Nat) : Int) + 1 < len0 := by omega
      go_wp2_with fail
      refine bodyPost_ret (v := .tuple #[.pointer (some ⟨gb, 0, none⟩), .pointer (some ⟨gx, 0, none⟩)]) (by simp [results, Tryd.results60, go_sem]) rfl ⟨gb, gx, rfl, hP, hfk⟩

end Go.Proofs.YtkjlgamggkencaaDoor
