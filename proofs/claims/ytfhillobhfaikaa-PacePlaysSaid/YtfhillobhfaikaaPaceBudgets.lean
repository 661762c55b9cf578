/-
  The walk of PaceBudgets.
-/
import Derived.Test.YtfhillobhfaikaaPaceLaws
namespace Go.Proofs.Ytfhillobhfaikaa
open Go.RowKit

def bst (b i : Int) : Pc := { Pc.start [] [] [] [] b with came := i, since := i }

theorem conflict_b (g : Nat) (F : Nat → Prop) (B i : Int) (w : World) (hB : 0 < B) (h0 : 0 ≤ i) (h1 : i ≤ 1000) (h : IsPace w g F (bst B i)) :
    Calls Try.prog 13 #[.pointer (some ⟨g, 0, none⟩)] w fun e w' => e = .returned (.bool (decide (i + 1 ≤ B))) ∧ IsPace w' g F (bst B (i + 1)) ∧ Frm (fun k => k = g) w w' :=
  (conflict_any g F _ w h (by simp [bst, Pc.small, Pc.start]; omega)).mono fun _ _ ⟨he, hp, hf⟩ =>
    ⟨by rw [he]; exact ret_bool (by show (decide (B ≤ 0) || decide (i + 1 ≤ B)) = decide (i + 1 ≤ B); rw [decide_eq_false (show ¬ B ≤ 0 by omega), Bool.false_or]), hp, hf⟩
theorem left_b (g : Nat) (F : Nat → Prop) (B i : Int) (w : World) (hB : 0 < B) (hB1 : B ≤ 1000) (h0 : 0 ≤ i) (h1 : i ≤ 1000) (h : IsPace w g F (bst B i)) (L : Int) (hL : L = if B < i then 0 else B - i) :
    Calls Try.prog 16 #[.pointer (some ⟨g, 0, none⟩)] w fun e w' => e = .returned (.int .i64 L) ∧ ∃ n, w.drewN n = w' :=
  (left_any g F _ w h (by simp [bst, Pc.small, Pc.start]; omega) (by simp [bst, Pc.start]; omega)).mono fun _ _ ⟨he, hf⟩ =>
    ⟨by rw [he, hL]; exact ret_int (by show (if B ≤ 0 then (-1 : Int) else max (B - i) 0) = _; rw [if_neg (by omega)]; split <;> omega), hf⟩

theorem keep_lo (g : Nat) (F : Nat → Prop) (q : Pc) (s : Int) (w : World) (hs : s ≤ 2) (h : IsPace w g F q) :
    Calls Try.prog 18 #[.pointer (some ⟨g, 0, none⟩), .int .i64 s] w fun e w' => e = .returned (.bool true) ∧ IsPace w' g F q ∧ Frm (fun k => k = g) w w' :=
  (keep_any g F q s w h).mono fun _ _ ⟨he, hp, hf⟩ => ⟨by rw [he]; exact ret_bool (by unfold Pc.ansKeep; rw [decide_eq_true hs]; rfl), by unfold Pc.doKeep at hp; rwa [if_pos hs] at hp, hf⟩
theorem sign_none (g : Nat) (F : Nat → Prop) (q : Pc) (w : World) (hq : q.s = []) (h : IsPace w g F q) :
    Calls Try.prog 17 #[.pointer (some ⟨g, 0, none⟩), .int .i64 0] w fun e w' => e = .returned (.bool false) ∧ IsPace w' g F q.doSign ∧ Frm (fun k => k = g) w w' :=
  (sign_any g F q 0 w h).mono fun _ _ ⟨he, hp, hf⟩ => ⟨by rw [he]; exact ret_bool (by unfold Pc.ansSign; rw [hq]; show signOf 0 0 = false; decide +kernel), hp, hf⟩

set_option maxRecDepth 100000 in
set_option maxHeartbeats 2000000 in
theorem budgets_any (b : Int) (_ : (Lit.int .i64 b).wf = true) (n : Int) (_ : (Lit.int .i64 n).wf = true) (w : World) :
    Calls Try.prog 5 #[.int .i64 b, .int .i64 n] w fun e w' => e = .returned (.bool true) ∧ Frm (fun _ => False) w w' := by
  go_enter Try.func5, Try.ntmps5
  go_wp2_with fail
  refine (first_any w).mono ?_
  rintro e w1 ⟨rfl, hf1⟩
  go_wp2_with fail
  refine (number_any b 60 w1 (by omega) (by omega)).mono ?_
  rintro e w' ⟨rfl, rfl⟩
  have hB0 : 0 ≤ b % 60 := by omega
  have hB1 : b % 60 < 60 := by omega
  generalize b % 60 = B at *
  go_wp2_with fail
  refine (number_any n 90 w1 (by omega) (by omega)).mono ?_
  rintro e w' ⟨rfl, rfl⟩
  have hN0 : 0 ≤ n % 90 := by omega
  have hN1 : n % 90 < 90 := by omega
  generalize n % 90 = M at *
  go_wp2_with fail
  refine (new_any _ _ _ _ [] [] [] [] (B + 1) 0 (fun _ => False) _ (Sl.nil_ _ _ _) (Sl.nil_ _ _ _) (Sl.nil_ _ _ _) (Sl.nil_ _ _ _) (by simp) (by simp) (by simp) (by simp)).mono ?_
  rintro e w2 ⟨g, rfl, hg, hp, hf2⟩
  have h02 := hf1.trans hf2
  have hg0 : w.heap.size ≤ g := by have := hf1.size; omega
  clear hf1 hf2 hg
  go_wp2_with fail
  go_loopw [7] (fun i wr => ∃ k : Nat, (k : Int) ≤ M ∧ i = .int .i64 ((k : Int) + 1) ∧ IsPace wr g (fun k => w1.heap.size ≤ k ∧ k < g) (bst (B + 1) k) ∧ Frm (fun _ => False) w wr) (fun i _ => (M + 1 - intOf i).toNat)
  case atStart => exact ⟨0, by omega, rfl, hp, h02⟩
  case round =>
    obtain ⟨k, hk, rfl, hpk, hfk⟩ := hrel
    go_wp2_with fail
    · have hlt : (k : Int) + 1 ≤ M := by omega
      refine (conflict_b g _ (B + 1) k wr (by omega) (by omega) (by omega) hpk).mono ?_
      rintro e w3 ⟨rfl, hp3, hf3⟩
      have hf03 := hfk.then' hf3 (fun k hk e => by omega)
      clear hpk hfk hf3
      by_cases hkB : (k : Int) ≤ B
      · have d1 : decide ((k : Int) + 1 ≤ B + 1) = true := by simp; omega
        go_wp2_with fail
        refine (left_b g _ (B + 1) (k + 1) w3 (by omega) (by omega) (by omega) (by omega) hp3 (B - k) (by rw [if_neg (by omega)]; omega)).mono ?_
        rintro e w4 ⟨rfl, nd, rfl⟩
        go_wp2_with fail
        have e1 : ((k + 1 : Nat) : Int) = (k : Int) + 1 := by omega
        exact ⟨⟨k + 1, by omega, by rw [e1], by rw [e1]; exact hp3, hf03.drewN nd⟩, by simp [intOf]; omega⟩
      · have d1 : decide ((k : Int) + 1 ≤ B + 1) = false := by simp; omega
        go_wp2_with fail
        refine (left_b g _ (B + 1) (k + 1) w3 (by omega) (by omega) (by omega) (by omega) hp3 0 (by rw [if_pos (by omega)])).mono ?_
        rintro e w4 ⟨rfl, nd, rfl⟩
        go_wp2_with fail
        have e1 : ((k + 1 : Nat) : Int) = (k : Int) + 1 := by omega
        exact ⟨⟨k + 1, by omega, by rw [e1], by rw [e1]; exact hp3, hf03.drewN nd⟩, by simp [intOf]; omega⟩
    · refine (keep_lo g _ _ 2 wr (by omega) hpk).mono ?_
      rintro e w3 ⟨rfl, hp3, hf3⟩
      go_wp2_with fail
      refine (keep_lo g _ _ 0 w3 (by omega) hp3).mono ?_
      rintro e w4 ⟨rfl, hp4, hf4⟩
      go_wp2_with fail
      refine (sign_none g _ _ w4 rfl hp4).mono ?_
      rintro e w5 ⟨rfl, hp5, hf5⟩
      go_wp2
      go_ret
      exact ⟨rfl, ((hfk.then' hf3 (fun k hk e => by omega)).then' hf4 (fun k hk e => by omega)).then' hf5 (fun k hk e => by omega)⟩

end Go.Proofs.Ytfhillobhfaikaa
