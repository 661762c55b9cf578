/-
  The walk of GraphFolds.
-/
import Derived.Test.YtkjlgamggkencaaDoorMAnd
import Derived.Test.YtkjlgamggkencaaDoorMBase
namespace Go.Proofs.YtkjlgamggkencaaDoor
open Go.RowKit

/-- no error at all -/
def E0 : Nat → Value := fun _ => .nilIface

theorem isL_self (l n : Nat) (h : l ≤ 2 * n + 1) : isL (l : Int) n = true := by rw [isL_iff]; omega

/-- And of known literals of a graph that is written out -/
theorem and_lit (E : Nat → Value) (fp : Nat → Prop) (gb : Nat) (g g' : Gr) (w : World) (a b r : Int) (hG : IsGr E w fp gb g) (h1 : isL a g.len = true) (h2 : isL b g.len = true) (hl : g.len < 8000) (h : g.and a b = (r, g')) :
    Calls Tryd.prog 27 #[.pointer (some ⟨gb, 0, none⟩), .int .i64 a, .int .i64 b] w fun e w' => e = .returned (.int .i64 r) ∧ ∃ fp', IsGr E w' fp' gb g' ∧ Grows fp fp' w w' ∧ Frm fp w w' := by
  have := and_any E fp gb g w a b hG h1 h2 hl
  rwa [h] at this

set_option maxHeartbeats 1000000 in
theorem first8_any (w : World) : Calls Tryd.prog 24 #[] w fun e w' => e = .returned (.bool true) ∧ Frm (fun _ => False) w w' := by
  go_enter Tryd.func24, Tryd.ntmps24
  go_wp2_with fail
  refine (new_any E0 rfl 2 w).mono ?_
  rintro e w1 ⟨gb, fp, rfl, hG, hfp, hf⟩
  have e1 : (⟨clamp 2, [], 0⟩ : Gr).and 2 4 = (6, ⟨clamp 2, [(4, 2)], 0⟩) := by kernel_rfl
  have e2 : (⟨clamp 2, [(4, 2)], 0⟩ : Gr).and 4 2 = (6, ⟨clamp 2, [(4, 2)], 0⟩) := by kernel_rfl
  have H1 := Lib.hid e1
  have H2 := Lib.hid e2
  clear e1 e2
  go_wp2_with fail
  refine (and_lit E0 fp gb _ _ w1 2 4 6 hG (by decide +kernel) (by decide +kernel) (by decide +kernel) H1.out).mono ?_
  rintro e w2 ⟨rfl, fp2, hG2, hg2, hf2⟩
  go_wp2_with fail
  refine (and_lit E0 fp2 gb _ _ w2 4 2 6 hG2 (by decide +kernel) (by decide +kernel) (by decide +kernel) H2.out).mono ?_
  rintro e w3 ⟨rfl, fp3, hG3, hg3, hf3⟩
  go_wp2_with fail
  refine (len_any E0 fp3 gb _ w3 hG3).mono ?_
  rintro e w4 ⟨rfl, n, rfl⟩
  rw [show (⟨clamp 2, [(4, 2)], 0⟩ : Gr).len = 3 from by decide +kernel]
  go_wp2
  go_ret
  refine ⟨rfl, ((hf.then' hf2 (fun k hk e => by have := (hfp k e).1; omega)).then' hf3 (fun k hk e => ?_)).drewN n⟩
  have h0 := hf.size
  rcases hg2 k e with h | h
  · have := (hfp k h).1; omega
  · omega

theorem fold_emod (x N : Int) (hN : 0 < N) : (x.tmod N + N) % N = x % N := by
  rw [Int.tmod_eq_emod]
  split
  · simp
  · have h2 : (x % N - N.natAbs + N) = x % N := by omega
    rw [h2, Int.emod_emod_of_dvd _ (Int.dvd_refl N)]
theorem isL_fold (x : Int) (n : Nat) : isL ((x.tmod (2 * (n : Int) + 2) + (2 * (n : Int) + 2)) % (2 * (n : Int) + 2)) n = true := by
  rw [fold_emod _ _ (by omega)]; exact isL_emod x n


theorem kept {w wr w3 : World} {fp fp3 : Nat → Prop} (hfp : ∀ k, fp k → w.heap.size ≤ k) (hfk : Frm (fun _ => False) w wr) (hg3 : Grows fp fp3 wr w3) (hf3 : Frm fp wr w3) :
    (∀ k, fp3 k → w.heap.size ≤ k) ∧ Frm (fun _ => False) w w3 := by
  constructor
  · intro j hj
    rcases hg3 j hj with h | h
    · exact hfp j h
    · have := hfk.size; have h' := h.1; omega
  · exact hfk.then' hf3 (fun j hj e => by have := hfp j e; omega)

set_option maxRecDepth 100000 in
set_option maxHeartbeats 8000000 in
theorem folds_any (i : Int) (a0 : Option Addr) (len0 cap0 : Nat) (z0 : List Int) (hz0 : z0.length = len0) (w : World) (s0 : Sl w (fun k => k < w.heap.size) 1 (.slice a0 len0 cap0) len0 (z0.map (.int .i64)))
    (a b : Int) (h1 : 1 ≤ i) (h2 : i ≤ 20) (h3 : len0 ≤ 80) :
    Calls Tryd.prog 3 #[.int .i64 i, .slice a0 len0 cap0, .int .i64 a, .int .i64 b] w fun e w' => e = .returned (.bool true) ∧ Frm (fun _ => False) w w' := by
  have HZ := Lib.hid hz0
  clear hz0
  have t1 : decide ((80 : Int) < (len0 : Int)) = false := by simp; omega
  have t2 : decide (i < 1) = false := by simp; omega
  have t3 : decide (20 < i) = false := by simp; omega
  go_enter Tryd.func3, Tryd.ntmps3
  go_wp2_with fail
  refine (first8_any w).mono ?_
  rintro e w1 ⟨rfl, hf1⟩
  go_wp2_with fail
  refine (new_any E0 rfl i w1).mono ?_
  rintro e w2 ⟨gb, fp, rfl, hG, hfp, hf2⟩
  have hf02 := hf1.trans hf2
  have hcl : clamp i ≤ 20 := by unfold clamp; omega
  have hfp0 : ∀ k, fp k → w.heap.size ≤ k := fun k hk => by have := (hfp k hk).1; have := hf1.size; omega
  clear hf1 hf2 hfp
  go_wp2_with fail
  go_loopw [11] (fun iv wr => ∃ (k : Nat) (g : Gr) (fp : Nat → Prop), 2 * k ≤ len0 ∧ iv = .int .i64 (2 * (k : Int)) ∧ g.len ≤ 20 + k ∧ g.bad = 0 ∧ IsGr E0 wr fp gb g ∧ (∀ k, fp k → w.heap.size ≤ k) ∧ Frm (fun _ => False) w wr) (fun iv _ => (2 * len0 + 2 - intOf iv).toNat)
  case atStart => exact ⟨0, _, fp, by omega, rfl, by show clamp i + 0 ≤ 20 + 0; omega, rfl, hG, hfp0, hf02⟩
  case round =>
    obtain ⟨k, g, fp, hk, rfl, hgl, hg0, hG, hfp, hfk⟩ := hrel
    have HG0 := Lib.hid hg0
    clear hg0
    by_cases hlt : 2 * k + 1 < len0
    · have sk := s0.frm hfk (fun _ _ => id)
      obtain ⟨bk, o, u, rfl, hbF, hu, hcell⟩ := sk.at_ (k := 2 * k) (by omega)
      obtain rfl := at_getD hu
      obtain ⟨bk', o', u', e', hbF', hu', hcell'⟩ := sk.at_ (k := 2 * k + 1) (by omega)
      cases e'
      obtain rfl := at_getD hu'
      have hbk : bk < w.heap.size := hbF
      clear hu hu' sk hbF hbF'
      generalize z0.getD (2 * k) 0 = x at *
      generalize z0.getD (2 * k + 1) 0 = y at *
      have hlt' : 2 * (k : Int) + 1 < len0 := by omega
      go_wp2_with fail
      refine (len_any E0 fp gb g wr hG).mono ?_
      rintro e w' ⟨rfl, n1, rfl⟩
      go_wp2_with fail
      obtain ⟨N, hN⟩ : ∃ N, N = 2 * (g.len : Int) + 2 := ⟨_, rfl⟩
      rw [← hN]
      have hN0 : 0 < N := by omega
      have hN1 : N ≤ 1000 := by omega
      have HN := Lib.hid hN
      clear hN
      have hx := tmod_bounds x N hN0
      have hy := tmod_bounds y N hN0
      have hn0 : (N == 0) = false := by simp; omega
      have wx : IntKind.i64.wrap (x.tmod N + N) = x.tmod N + N := IntWalk.i64_in _ (by omega)
      have wy : IntKind.i64.wrap (y.tmod N + N) = y.tmod N + N := IntWalk.i64_in _ (by omega)
      have rx : (x.tmod N + N).tmod N = x % N := by rw [Int.tmod_eq_emod_of_nonneg (by omega), fold_emod _ _ hN0]
      have ry : (y.tmod N + N).tmod N = y % N := by rw [Int.tmod_eq_emod_of_nonneg (by omega), fold_emod _ _ hN0]
      have wx1 : IntKind.i64.wrap (x.tmod N) = x.tmod N := IntWalk.i64_in _ (by omega)
      have wy1 : IntKind.i64.wrap (y.tmod N) = y.tmod N := IntWalk.i64_in _ (by omega)
      have hn1 : (N == -1) = false := by simp; omega
      have hn2 : ¬ N = 0 := by omega
      have hn3 : ¬ N = -1 := by omega
      have lx : isL (x % N) g.len = true := by rw [HN.out]; exact isL_emod x _
      have ly : isL (y % N) g.len = true := by rw [HN.out]; exact isL_emod y _
      have hand := fun n => and_any E0 fp gb g (wr.drewN n) (x % N) (y % N) (hG.drewN n) lx ly (by omega)
      have HAND := Lib.hid hand
      have hs2 := and_snd lx ly (show g.len < 8000 by omega)
      have HS2 := Lib.hid hs2
      clear lx ly hand hs2
      have wk : IntKind.i64.wrap (2 * (k : Int) + 1) = 2 * (k : Int) + 1 := IntWalk.i64_in _ (by omega)
      have k0 : (0 : Int) ≤ 2 * (k : Int) := by omega
      have k1 : (0 : Int) ≤ 2 * (k : Int) + 1 := by omega
      have k2 : 2 * (k : Int) < len0 := by omega
      have k3 : (2 * (k : Int)).toNat = 2 * k := by omega
      have k4 : (2 * (k : Int) + 1).toNat = 2 * k + 1 := by omega
      go_region_held3 (fun w' => w'.cell? ⟨bk, o + 2 * k, none⟩ = some (.int .i64 x) ∧ w'.cell? ⟨bk, o + (2 * k + 1), none⟩ = some (.int .i64 y))
        (first | exact ⟨hcell, hcell'⟩ | exact ⟨hf3.cell hcell (fun h => by have : w.heap.size ≤ bk := hfp bk h; omega), hf3.cell hcell' (fun h => by have : w.heap.size ≤ bk := hfp bk h; omega)⟩)
        (first | (go_at_call 27; refine (HAND.out _).mono ?_; rintro e w3 ⟨rfl, fp3, hG3, hg3, hf3⟩))
      go_wp2_with fail
      obtain ⟨q1, q2, q3, q4⟩ := HS2.out
      exact ⟨⟨k + 1, _, fp3, by omega, by rw [show (2 * ((k + 1 : Nat) : Int)) = 2 * (k : Int) + 2 from by omega], by omega, q2.trans HG0.out, hG3,
        fun j hj => by
          rcases hg3 j hj with h | h
          · exact hfp j h
          · have := hfk.size; have h' := h.1; simp at h'; omega,
        hfk.then' ((Frm.refl fp wr).drewN _ |>.trans hf3) (fun j hj e => by have := hfp j e; omega)⟩, by simp [intOf]; omega⟩
    · have hge : ¬ 2 * (k : Int) + 1 < len0 := by omega
      have hl80 : g.len < 8000 := by omega
      go_wp2_with fail
      refine (len_any E0 fp gb g wr hG).mono ?_
      rintro e w' ⟨rfl, n1, rfl⟩
      obtain ⟨L, hL⟩ : ∃ L : Int, L = g.len := ⟨_, rfl⟩
      rw [← hL]
      have hL0 : 0 ≤ L := by omega
      have hL1 : L ≤ 400 := by omega
      have HL := Lib.hid hL
      have hN0 : 0 < 2 * L + 2 := by omega
      have hx := tmod_bounds a (2 * L + 2) hN0
      have hy := tmod_bounds b (2 * L + 2) hN0
      have wl : IntKind.i64.wrap (2 * L) = 2 * L := IntWalk.i64_in _ (by omega)
      have wl2 : IntKind.i64.wrap (2 * L + 2) = 2 * L + 2 := IntWalk.i64_in _ (by omega)
      have hn0 : (2 * L + 2 == 0) = false := by simp; omega
      have wx : IntKind.i64.wrap (a.tmod (2 * L + 2) + (2 * L + 2)) = a.tmod (2 * L + 2) + (2 * L + 2) := IntWalk.i64_in _ (by omega)
      have wy : IntKind.i64.wrap (b.tmod (2 * L + 2) + (2 * L + 2)) = b.tmod (2 * L + 2) + (2 * L + 2) := IntWalk.i64_in _ (by omega)
      have rx : (a.tmod (2 * L + 2) + (2 * L + 2)).tmod (2 * L + 2) = a % (2 * L + 2) := by rw [Int.tmod_eq_emod_of_nonneg (by omega), fold_emod _ _ hN0]
      have ry : (b.tmod (2 * L + 2) + (2 * L + 2)).tmod (2 * L + 2) = b % (2 * L + 2) := by rw [Int.tmod_eq_emod_of_nonneg (by omega), fold_emod _ _ hN0]
      have wx1 : IntKind.i64.wrap (a.tmod (2 * L + 2)) = a.tmod (2 * L + 2) := IntWalk.i64_in _ (by omega)
      have wy1 : IntKind.i64.wrap (b.tmod (2 * L + 2)) = b.tmod (2 * L + 2) := IntWalk.i64_in _ (by omega)
      have hn1 : (2 * L + 2 == -1) = false := by simp; omega
      have hn2 : ¬ 2 * L + 2 = 0 := by omega
      have hn3 : ¬ 2 * L + 2 = -1 := by omega
      have la : isL (a % (2 * L + 2)) g.len = true := by rw [hL]; exact isL_emod a _
      have lb : isL (b % (2 * L + 2)) g.len = true := by rw [hL]; exact isL_emod b _
      have l0 : isL 0 g.len = true := by rw [isL_iff]; omega
      have l1 : isL 1 g.len = true := by rw [isL_iff]; omega
      clear hL
      generalize ha : a % (2 * L + 2) = A at *
      generalize hb : b % (2 * L + 2) = B at *
      have hsm : Small A := by unfold Small; have h1' := (isL_iff.1 la); omega
      have hGb := hG.drewN n1
      go_wp2_with fail
      refine (len_any E0 fp gb g _ hGb).mono ?_
      rintro e w' ⟨rfl, n2, rfl⟩
      rw [← HL.out]
      have hfa := hfk.drewN (n1 + n2)
      have hGa := hG.drewN (n1 + n2)
      clear hfk hG hGb
      go_wp2_with fail
      refine (and_same E0 fp gb g _ _ _ _ hGa la l0 hl80 (and_zero g _ la)).mono ?_
      rintro e w3 ⟨rfl, fq1, hG1, hg1, hf1⟩
      obtain ⟨hp1, hr1⟩ := kept hfp hfa hg1 hf1
      clear hg1 hf1 hGa hfa hfp
      go_wp2_with fail
      refine (and_same E0 fq1 gb g _ _ _ _ hG1 l0 la hl80 ((and_comm g _ _).trans (and_zero g _ la))).mono ?_
      rintro e w4 ⟨rfl, fq2, hG2, hg2, hf2⟩
      obtain ⟨hp2, hr2⟩ := kept hp1 hr1 hg2 hf2
      clear hg2 hf2 hG1 hr1 hp1
      go_wp2_with fail
      refine (and_same E0 fq2 gb g _ _ _ _ hG2 la l1 hl80 (and_one g _ la)).mono ?_
      rintro e w5 ⟨rfl, fq3, hG3, hg3, hf3⟩
      obtain ⟨hp3, hr3⟩ := kept hp2 hr2 hg3 hf3
      clear hg3 hf3 hG2 hr2 hp2
      go_wp2_with fail
      refine (and_same E0 fq3 gb g _ _ _ _ hG3 l1 la hl80 ((and_comm g _ _).trans (and_one g _ la))).mono ?_
      rintro e w6 ⟨rfl, fq4, hG4, hg4, hf4⟩
      obtain ⟨hp4, hr4⟩ := kept hp3 hr3 hg4 hf4
      clear hg4 hf4 hG3 hr3 hp3
      go_wp2_with fail
      refine (and_same E0 fq4 gb g _ _ _ _ hG4 la la hl80 (and_self g _ la)).mono ?_
      rintro e w7 ⟨rfl, fq5, hG5, hg5, hf5⟩
      obtain ⟨hp5, hr5⟩ := kept hp4 hr4 hg5 hf5
      clear hg5 hf5 hG4 hr4 hp4
      go_wp2_with fail
      refine (not_any _ hsm _).mono ?_
      rintro e w' ⟨rfl, rfl⟩
      go_wp2_with fail
      refine (and_same E0 fq5 gb g _ _ _ _ hG5 la (notL_range la) hl80 (and_not g _ la)).mono ?_
      rintro e w8 ⟨rfl, fq6, hG6, hg6, hf6⟩
      obtain ⟨hp6, hr6⟩ := kept hp5 hr5 hg6 hf6
      clear hg6 hf6 hG5 hr5 hp5
      go_wp2_with fail
      refine (len_any E0 fq6 gb g _ hG6).mono ?_
      rintro e w' ⟨rfl, n3, rfl⟩
      rw [← HL.out]
      have hu : notL (notL A) = A := notL_notL A
      have hs := and_snd la lb hl80
      have hag := (and_again la lb hl80)
      have hcm := (and_comm (g.and A B).2 B A).trans hag
      go_wp2_with fail
      refine (and_any E0 fq6 gb g _ A B (hG6.drewN _) la lb hl80).mono ?_
      rintro e wx' ⟨rfl, fx, hGx, hgx, hfx⟩
      obtain ⟨hpx, hrx⟩ := kept hp6 (hr6.drewN _) hgx hfx
      have mB : isL B (g.and A B).2.len = true := by rw [isL_iff] at *; omega
      have mA : isL A (g.and A B).2.len = true := by rw [isL_iff] at *; omega
      go_wp2_with fail
      refine (and_any E0 fx gb _ _ B A hGx mB mA (by omega)).mono ?_
      rw [hcm]
      rintro e wy' ⟨rfl, fy, hGy, hgy, hfy⟩
      obtain ⟨hpy, hry⟩ := kept hpx hrx hgy hfy
      go_wp2_with fail
      refine (len_any E0 fy gb _ _ hGy).mono ?_
      rintro e w' ⟨rfl, n4, rfl⟩
      have wl3 : IntKind.i64.wrap (L + 1) = L + 1 := IntWalk.i64_in _ (by omega)
      have td : decide (((g.and A B).2.len : Int) ≤ L + 1) = true := by simp; have := HL.out; omega
      have hbad : E0 (g.and A B).2.bad = .nilIface := rfl
      have hne : (notL A == A) = false := by simpa using notL_ne A
      have hsn : Small (notL A) := by have := isL_iff.1 (notL_range la); unfold Small; omega
      go_wp2_with fail
      refine (err_any E0 fy gb _ _ (hGy.drewN n4) _ hbad).mono ?_
      rintro e w' ⟨rfl, rfl⟩
      go_wp2_with fail
      refine (not_any _ hsm _).mono ?_
      rintro e w' ⟨rfl, rfl⟩
      go_wp2_with fail
      refine (not_any _ hsn _).mono ?_
      rintro e w' ⟨rfl, rfl⟩
      rw [hu]
      go_wp2_with fail
      refine (not_any _ hsm _).mono ?_
      rintro e w' ⟨rfl, rfl⟩
      go_wp2_with fail
      have hne' : (notL A != A) = true := by simp [bne, hne]
      rw [hne']
      go_ret
      exact ⟨rfl, hry.drewN _⟩

set_option maxRecDepth 100000 in
set_option maxHeartbeats 4000000 in
/-- the guards' own ways out -/
theorem folds_out (i : Int) (a0 : Option Addr) (len0 cap0 : Nat) (w : World) (a b : Int) (h : ¬ (len0 ≤ 80 ∧ 1 ≤ i ∧ i ≤ 20)) :
    Calls Tryd.prog 3 #[.int .i64 i, .slice a0 len0 cap0, .int .i64 a, .int .i64 b] w fun e w' => e = .returned (.bool true) ∧ Frm (fun _ => False) w w' := by
  by_cases c1 : (80 : Int) < len0
  · go_enter Tryd.func3, Tryd.ntmps3
    go_wp2_with fail
    refine (first8_any w).mono ?_
    rintro e w1 ⟨rfl, hf1⟩
    go_wp2_with fail
    go_ret
    exact ⟨rfl, hf1⟩
  · by_cases c2 : i < 1
    · go_enter Tryd.func3, Tryd.ntmps3
      go_wp2_with fail
      refine (first8_any w).mono ?_
      rintro e w1 ⟨rfl, hf1⟩
      go_wp2_with fail
      go_ret
      exact ⟨rfl, hf1⟩
    · have c3 : 20 < i := by omega
      go_enter Tryd.func3, Tryd.ntmps3
      go_wp2_with fail
      refine (first8_any w).mono ?_
      rintro e w1 ⟨rfl, hf1⟩
      go_wp2_with fail
      go_ret
      exact ⟨rfl, hf1⟩

theorem folds_all (i : Int) (a0 : Option Addr) (len0 cap0 : Nat) (z0 : List Int) (hz0 : z0.length = len0) (w : World) (s0 : Sl w (fun k => k < w.heap.size) 1 (.slice a0 len0 cap0) len0 (z0.map (.int .i64))) (a b : Int) :
    Calls Tryd.prog 3 #[.int .i64 i, .slice a0 len0 cap0, .int .i64 a, .int .i64 b] w fun e w' => e = .returned (.bool true) ∧ Frm (fun _ => False) w w' := by
  by_cases h : len0 ≤ 80 ∧ 1 ≤ i ∧ i ≤ 20
  · exact folds_any i a0 len0 cap0 z0 hz0 w s0 a b h.2.1 h.2.2 h.1
  · exact folds_out i a0 len0 cap0 w a b h

theorem folds_law (i : Int) (_ : (Lit.int .i64 i).wf = true) (a0 : Option Addr) (len0 cap0 : Nat) (z0 : List Int) (hz0 : z0.length = len0) {w0 : World} (s0 : Sl w0 (fun k => k < w0.heap.size) 1 (.slice a0 len0 cap0) len0 (z0.map (.int .i64)))
    (_ : ∀ n ∈ z0, (Lit.int .i64 n).wf = true) (a : Int) (_ : (Lit.int .i64 a).wf = true) (b : Int) (_ : (Lit.int .i64 b).wf = true) (w : World) (e : w = w0) :
    Calls Tryd.prog 3 #[.int .i64 i, .slice a0 len0 cap0, .int .i64 a, .int .i64 b] w fun e w' => e = .returned (.bool true) ∧ Frm (fun _ => False) w w' := by
  subst e
  exact folds_all i a0 len0 cap0 z0 hz0 w s0 a b

end Go.Proofs.YtkjlgamggkencaaDoor
