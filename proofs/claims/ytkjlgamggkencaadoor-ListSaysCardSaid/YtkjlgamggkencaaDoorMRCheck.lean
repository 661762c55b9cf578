/-
  The contract of skolemref8.Check.
-/
import Derived.Test.YtkjlgamggkencaaDoorMCheck
namespace Go.Proofs.YtkjlgamggkencaaDoor
open Go.RowKit

set_option maxRecDepth 100000 in
set_option maxHeartbeats 4000000 in
theorem rcheck_any (N : Int) (A : Option Addr) (m c : Nat) (B : Option Addr) (k d : Nat) (L : List (Int × Int)) (l : List Int) (F G : Nat → Prop) (w : World) (hm : L.length = m) (hk : l.length = k)
    (hm4 : m ≤ 100000) (hk4 : k ≤ 100000) (hs : Sl w F 2 (.slice A m c) m (pairs L)) (ho : Sl w G 1 (.slice B k d) k (l.map (.int .i64))) :
    Calls Tryd.prog 65 #[cv N A m c B k d] w fun e w' => e = .returned (.int .i64 (ckCode N L l : Int)) ∧ Frm (fun _ => False) w w' := by
  have hf0 := (Frm.refl (fun _ => False) w).alloc (.cells #[.int .i64 N, .slice A m c, .slice B k d] 40)
  have hb0 : Blk (w.alloc (.cells #[.int .i64 N, .slice A m c, .slice B k d] 40)) w.heap.size 40 [.int .i64 N, .slice A m c, .slice B k d] := Blk.new _ _ _
  have b00 := hb0.at_ 0 rfl
  have b01 := hb0.at_ 1 rfl
  by_cases hv : N < 0 ∨ 8000 < N ∨ 8000 < N + (L.length : Int)
  · have hc : ckCode N L l = 102 := by unfold ckCode; rw [if_pos hv]
    rw [hc]
    rw [hm] at hv
    clear hc hs ho hm hb0
    have HF := Lib.hid hf0
    clear hf0
    by_cases h1 : N < 0
    · clear hv
      go_enter Tryd.func65, Tryd.ntmps65
      go_wp2_with fail
      go_ret
      exact ⟨rfl, HF.out⟩
    · by_cases h2 : 8000 < N
      · clear hv
        go_enter Tryd.func65, Tryd.ntmps65
        go_wp2_with fail
        go_ret
        exact ⟨rfl, HF.out⟩
      · have h3 : 8000 < N + (m : Int) := by omega
        clear hv
        go_enter Tryd.func65, Tryd.ntmps65
        go_wp2_with fail
        go_ret
        exact ⟨rfl, HF.out⟩
  · obtain ⟨n, rfl⟩ : ∃ n : Nat, N = n := ⟨N.toNat, by omega⟩
    have hnm : n + m ≤ 8000 := by omega
    have g1 : ¬ (n : Int) < 0 := by omega
    have g2 : ¬ 8000 < (n : Int) := by omega
    have g3 : ¬ 8000 < (n : Int) + m := by omega
    have hcode : ckCode n L l = if ckAnds n L = false then 104 else if ckOuts (n + L.length) l = false then 104 else 0 := by unfold ckCode; rw [if_neg hv, show (n : Int).toNat = n from by omega]
    have HM := Lib.hid hm
    have HK := Lib.hid hk
    have HC := Lib.hid hcode
    clear hv hm hk hcode
    go_enter Tryd.func65, Tryd.ntmps65
    go_wp2_with fail
    go_loopw [3] (fun iv wr => ∃ (j : Nat), j ≤ m ∧ iv = .int .i64 (j : Int) ∧ (∀ i, i < j → ckGate n i (L.getD i (0, 0)) = true) ∧ Blk wr w.heap.size 40 [.int .i64 n, .slice A m c, .slice B k d] ∧ Frm (fun _ => False) w wr) (fun iv _ => m - (intOf iv).toNat)
    case atStart => exact ⟨0, by omega, rfl, fun i h => absurd h (Nat.not_lt_zero _), hb0, hf0⟩
    case round =>
      clear hb0 hf0 b00 b01
      obtain ⟨j, hj, rfl, hgood, hb, hfk⟩ := hrel
      have HG := Lib.hid hgood
      clear hgood
      have b0 := hb.at_ 0 rfl
      have b1 := hb.at_ 1 rfl
      by_cases hlt : j < m
      · have hlt2 : j < L.length := by rw [HM.out]; exact hlt
        obtain ⟨b, o, rfl, _, q1, q2⟩ := sl_pair (hs.frm hfk (fun _ _ => id)) hlt
        rw [← Nat.add_assoc] at q2
        have hcg : ckGate n j (L.getD j (0, 0)) = (isL (L.getD j (0, 0)).1 (n + j) && isL (L.getD j (0, 0)).2 (n + j) && decide ((L.getD j (0, 0)).2 ≤ (L.getD j (0, 0)).1)) := rfl
        have hbad : ckGate n j (L.getD j (0, 0)) = false → ckCode n L l = 104 := by
          intro h
          rw [HC.out, if_pos]
          unfold ckAnds
          rw [List.all_eq_false]
          exact ⟨j, List.mem_range.2 hlt2, by rw [h]; simp⟩
        have HB := Lib.hid hbad
        have HCG := Lib.hid hcg
        clear hbad hcg
        obtain ⟨p, hp⟩ : ∃ p, L.getD j (0, 0) = p := ⟨_, rfl⟩
        rw [hp] at q1 q2 HB HCG
        have HP := Lib.hid hp
        clear hp
        obtain ⟨x, y⟩ := p
        simp only at q1 q2
        have j0 : (0 : Int) ≤ j := by omega
        have j1 : (j : Int) < m := by omega
        have hok : ckGate n j (x, y) = true ↔ (¬ x < 0 ∧ ¬ y < 0 ∧ ¬ 2 * ((n : Int) + j + 1) ≤ x ∧ ¬ x < y) := by
          rw [HCG.out]
          simp only [Bool.and_eq_true, isL_iff, decide_eq_true_eq]
          omega
        have HOK := Lib.hid hok
        clear hok HCG
        have e1 : IntKind.i64.wrap ((n : Int) + j) = (n : Int) + j := IntWalk.i64_in _ (by omega)
        have e2 : IntKind.i64.wrap ((n : Int) + j + 1) = (n : Int) + j + 1 := IntWalk.i64_in _ (by omega)
        have e3 : IntKind.i64.wrap (2 * ((n : Int) + j + 1)) = 2 * ((n : Int) + j + 1) := IntWalk.i64_in _ (by omega)
        by_cases c1 : x < 0
        · have hfalse : ckGate n j (x, y) = false := by rw [Bool.eq_false_iff]; intro h; exact (HOK.out.1 h).1 c1
          have HPE := Lib.hid (HB.out hfalse)
          clear HB hfalse
          go_wp2_with fail
          go_ret
          exact ⟨ret_int (by rw [HPE.out]; rfl), hfk⟩
        · by_cases c2 : y < 0
          · have hfalse : ckGate n j (x, y) = false := by rw [Bool.eq_false_iff]; intro h; exact (HOK.out.1 h).2.1 c2
            have HPE := Lib.hid (HB.out hfalse)
            clear HB hfalse
            go_wp2_with fail
            go_ret
            exact ⟨ret_int (by rw [HPE.out]; rfl), hfk⟩
          · by_cases c3 : 2 * ((n : Int) + j + 1) ≤ x
            · have hfalse : ckGate n j (x, y) = false := by rw [Bool.eq_false_iff]; intro h; exact (HOK.out.1 h).2.2.1 c3
              have HPE := Lib.hid (HB.out hfalse)
              clear HB hfalse
              go_wp2_with fail
              go_ret
              exact ⟨ret_int (by rw [HPE.out]; rfl), hfk⟩
            · by_cases c4 : x < y
              · have hfalse : ckGate n j (x, y) = false := by rw [Bool.eq_false_iff]; intro h; exact (HOK.out.1 h).2.2.2 c4
                have HPE := Lib.hid (HB.out hfalse)
                clear HB hfalse
                go_wp2_with fail
                go_ret
                exact ⟨ret_int (by rw [HPE.out]; rfl), hfk⟩
              · have htrue := HOK.out.2 ⟨c1, c2, c3, c4⟩
                have HTR := Lib.hid htrue
                clear HB htrue
                go_wp2_with fail
                go_roundw
                case rel => exact ⟨j + 1, by omega, by go_num, fun i hi => by
                  rcases Nat.lt_or_ge i j with h | h
                  · exact HG.out i h
                  · obtain rfl : i = j := by omega
                    rw [HP.out, HTR.out], hb, hfk⟩
                case measure => simp [intOf]; omega
      · have hands : ckAnds n L = true := by
          unfold ckAnds
          rw [List.all_eq_true]
          intro i hi
          exact HG.out i (by have := List.mem_range.1 hi; have := HM.out; omega)
        have hcode : ckCode n L l = if ckOuts (n + m) l = false then 104 else 0 := by rw [HC.out, if_neg (by rw [hands]; simp), HM.out]
        have HC2 := Lib.hid hcode
        clear hcode hands HG HC hs
        have b2 := hb.at_ 2 rfl
        have hge : ¬ (j : Int) < m := by omega
        go_wp2_with fail
        go_loopw [6] (fun iv wr => ∃ (j : Nat), j ≤ k ∧ iv = .int .i64 (j : Int) ∧ (∀ i, i < j → isL (l.getD i 0) (n + m) = true) ∧ Blk wr w.heap.size 40 [.int .i64 n, .slice A m c, .slice B k d] ∧ Frm (fun _ => False) w wr) (fun iv _ => k - (intOf iv).toNat)
        case atStart => exact ⟨0, by omega, rfl, fun i h => absurd h (Nat.not_lt_zero _), hb, hfk⟩
        case round =>
          clear hb hfk b0 b1 b2 hge hlt
          obtain ⟨j, hj, rfl, hgood, hb, hfk⟩ := hrel
          have HG := Lib.hid hgood
          clear hgood
          have b0 := hb.at_ 0 rfl
          have b1 := hb.at_ 1 rfl
          have b2 := hb.at_ 2 rfl
          by_cases hlt : j < k
          · have hlt2 : j < l.length := by rw [HK.out]; exact hlt
            obtain ⟨b, o, u, rfl, _, hu, hcell⟩ := (ho.frm hfk (fun _ _ => id)).at_ hlt
            obtain rfl := at_getD hu
            clear hu
            have hbad : isL (l.getD j 0) (n + m) = false → ckCode n L l = 104 := by
              intro h
              rw [HC2.out, if_pos]
              unfold ckOuts
              rw [List.all_eq_false]
              exact ⟨l.getD j 0, by simp [List.getD, hlt2], by rw [h]; simp⟩
            have HB := Lib.hid hbad
            clear hbad
            generalize hx : l.getD j 0 = x at *
            have HX := Lib.hid hx
            clear hx
            have j0 : (0 : Int) ≤ j := by omega
            have j1 : (j : Int) < k := by omega
            have e1 : IntKind.i64.wrap ((n : Int) + m) = (n : Int) + m := IntWalk.i64_in _ (by omega)
            have e2 : IntKind.i64.wrap (2 * ((n : Int) + m)) = 2 * ((n : Int) + m) := IntWalk.i64_in _ (by omega)
            have e3 : IntKind.i64.wrap (2 * ((n : Int) + m) + 1) = 2 * ((n : Int) + m) + 1 := IntWalk.i64_in _ (by omega)
            by_cases c1 : x < 0
            · have hd1 : decide (x < 0) = true := by simpa using c1
              have HPE := Lib.hid (HB.out (by rw [Bool.eq_false_iff]; intro h; have := isL_iff.1 h; omega))
              clear HB
              go_wp2_with fail
              go_quiet (fail)
              go_wp2_with fail
              go_ret
              exact ⟨ret_int (by rw [HPE.out]; rfl), hfk.drewN _⟩
            · have hd1 : decide (x < 0) = false := by simpa using c1
              by_cases c2 : 2 * ((n : Int) + m) + 1 < x
              · have hd2 : decide (2 * ((n : Int) + m) + 1 < x) = true := by simpa using c2
                have HPE := Lib.hid (HB.out (by rw [Bool.eq_false_iff]; intro h; have := isL_iff.1 h; omega))
                clear HB
                go_wp2_with fail
                go_quiet (fail)
                go_wp2_with fail
                go_ret
                exact ⟨ret_int (by rw [HPE.out]; rfl), hfk.drewN _⟩
              · have hd2 : decide (2 * ((n : Int) + m) + 1 < x) = false := by simpa using c2
                have htrue : isL x (n + m) = true := by rw [isL_iff]; omega
                have HTR := Lib.hid htrue
                clear HB htrue
                go_wp2_with fail
                go_quiet (fail)
                go_wp2_with fail
                go_roundw
                case rel => exact ⟨j + 1, by omega, by go_num, fun i hi => by
                  rcases Nat.lt_or_ge i j with h | h
                  · exact HG.out i h
                  · obtain rfl : i = j := by omega
                    rw [HX.out, HTR.out], hb.drewN _, hfk.drewN _⟩
                case measure => simp [intOf]; omega
          · have houts : ckOuts (n + m) l = true := by
              unfold ckOuts
              rw [List.all_eq_true]
              intro x hx
              obtain ⟨i, hi, rfl⟩ := List.mem_iff_getElem.1 hx
              have := HG.out i (by have := HK.out; omega)
              rwa [show l.getD i 0 = l[i] from by simp [List.getD, hi]] at this
            have hcode : ckCode n L l = 0 := by rw [HC2.out, houts]; simp
            have HC3 := Lib.hid hcode
            clear hcode houts HC2 HG
            go_wp2_with fail
            go_ret
            exact ⟨ret_int (by rw [HC3.out]; rfl), hfk⟩

end Go.Proofs.YtkjlgamggkencaaDoor
