/-
  The walk of PaceRestarts.
-/
import Derived.Test.YtfhillobhfaikaaScript
namespace Go.Proofs.Ytfhillobhfaikaa
open Go.RowKit

theorem restart_r (g : Nat) (F : Nat → Prop) (q : Pc) (w : World) (h : IsPace w g F q) (hq : q.small) :
    Calls Try.prog 15 #[.pointer (some ⟨g, 0, none⟩)] w fun e w' => ∃ q' : Pc, IsPace w' g F q' ∧ Frm (fun k => k = g) w w' ∧ q'.most = q.most ∧ q'.came = q.came ∧
      ((e = .returned (.bool true) ∧ q.least ≤ q.since ∧ q'.since = 0 ∧ q'.least = q.least + 8) ∨ (e = .returned (.bool false) ∧ q'.since = q.since ∧ q'.least = q.least)) :=
  (restart_any g F q w h hq).mono fun e w' ⟨he, hp, hf⟩ => by
    subst he
    refine ⟨_, hp, hf, ?_⟩
    unfold Pc.doRestart Pc.ansRestart
    by_cases h1 : q.since < q.least
    · simp [h1]
    · by_cases h2 : (bits BinOp.and IntKind.i64 (nxt q.r q.kr) 1 == 0) = true
      · rw [if_neg h1, if_neg h1, if_pos h2, if_pos h2]; simp
      · rw [if_neg h1, if_neg h1, if_neg h2, if_neg h2]; simp; omega

theorem conflict_0 (g : Nat) (F : Nat → Prop) (q : Pc) (w : World) (h : IsPace w g F q) (hq : q.small) (hm : q.most = 0) :
    Calls Try.prog 13 #[.pointer (some ⟨g, 0, none⟩)] w fun e w' => e = .returned (.bool true) ∧ IsPace w' g F q.doConflict ∧ Frm (fun k => k = g) w w' :=
  (conflict_any g F q w h hq).mono fun _ _ ⟨he, hp, hf⟩ => ⟨by rw [he]; exact ret_bool (by unfold Pc.ansConflict; rw [hm]; simp), hp, hf⟩

theorem least_c (g : Nat) (F : Nat → Prop) (q : Pc) (w : World) (h : IsPace w g F q.doConflict) :
    Calls Try.prog 14 #[.pointer (some ⟨g, 0, none⟩)] w fun e w' => e = .returned (.int .i64 q.least) ∧ w = w' := least_any g F q.doConflict w h

theorem left_0 (g : Nat) (F : Nat → Prop) (q : Pc) (w : World) (h : IsPace w g F q) (hq : q.small) (hm : q.most = 0) :
    Calls Try.prog 16 #[.pointer (some ⟨g, 0, none⟩)] w fun e w' => e = .returned (.int .i64 (-1)) ∧ ∃ n, w.drewN n = w' :=
  (left_any g F q w h hq (by rw [hm]; omega)).mono fun _ _ ⟨he, hf⟩ => ⟨by rw [he]; exact ret_int (by rw [hm]; simp), hf⟩

set_option maxRecDepth 100000 in
set_option maxHeartbeats 4000000 in
theorem restarts_any (a0 a1 a2 a3 : Option Addr) (c0 c1 c2 c3 : Nat) (z0 z1 z2 z3 : List Int) (m r n : Int) (w : World)
    (s0 : Sl w (fun k => k < w.heap.size) 1 (.slice a0 z0.length c0) z0.length (z0.map (.int .i64))) (s1 : Sl w (fun k => k < w.heap.size) 1 (.slice a1 z1.length c1) z1.length (z1.map (.int .i64)))
    (s2 : Sl w (fun k => k < w.heap.size) 1 (.slice a2 z2.length c2) z2.length (z2.map (.int .i64))) (s3 : Sl w (fun k => k < w.heap.size) 1 (.slice a3 z3.length c3) z3.length (z3.map (.int .i64)))
    (h0 : z0.length ≤ 50) (h1 : z1.length ≤ 50) (h2 : z2.length ≤ 50) (h3 : z3.length ≤ 50) :
    Calls Try.prog 3 #[.agg #[.slice a0 z0.length c0, .slice a1 z1.length c1, .slice a2 z2.length c2, .slice a3 z3.length c3, .int .i64 m, .int .i64 r], .int .i64 n] w fun e w' => e = .returned (.bool true) ∧ Frm (fun _ => False) w w' := by
  go_enter Try.func3, Try.ntmps3
  go_wp2_with fail
  refine (first_any _).mono ?_
  rintro e w1 ⟨rfl, hf1⟩
  have hb := (Blk.new w 24 [.slice a0 z0.length c0, .slice a1 z1.length c1, .slice a2 z2.length c2, .slice a3 z3.length c3, .int .i64 m, .int .i64 r]).frm hf1 (fun h => h)
  have k0 := hb.at_ 0 rfl
  have k1 := hb.at_ 1 rfl
  have k2 := hb.at_ 2 rfl
  have k3 := hb.at_ 3 rfl
  have k4 := hb.at_ 4 rfl
  have k5 := hb.at_ 5 rfl
  have hf01 : Frm (fun _ => False) w w1 := ((Frm.refl (fun _ => False) w).alloc _).trans hf1
  clear hf1
  go_wp2_with fail
  refine (small_yes a0 a1 a2 a3 _ _ _ _ c0 c1 c2 c3 m r w1 h0 h1 h2 h3).mono ?_
  rintro e w2 ⟨rfl, hf2⟩
  have hb2 := hb.frm hf2 (fun h => h)
  clear k0 k1 k2 k3 k4 k5 hb
  have k0 := hb2.at_ 0 rfl
  have k1 := hb2.at_ 1 rfl
  have k2 := hb2.at_ 2 rfl
  have k3 := hb2.at_ 3 rfl
  have k4 := hb2.at_ 4 rfl
  have k5 := hb2.at_ 5 rfl
  have hf02 := hf01.trans hf2
  clear hf01 hf2
  go_wp2_with fail
  refine (number_any n 600 w2 (by omega) (by omega)).mono ?_
  rintro e w' ⟨rfl, rfl⟩
  have hN0 : 0 ≤ n % 600 := by omega
  have hN1 : n % 600 < 600 := by omega
  generalize n % 600 = M at *
  go_wp2_with fail
  refine (free_any a0 a1 a2 a3 _ _ _ _ c0 c1 c2 c3 m r w2).mono ?_
  rintro e w3 ⟨rfl, hf3⟩
  have hf03 := hf02.trans hf3
  clear hf02 hf3 k0 k1 k2 k3 k4 k5 hb2
  go_wp2_with fail
  refine (new_any _ _ _ _ z0 z1 z2 z3 0 0 (fun k => k < w.heap.size) w3 (s0.frm hf03 (fun _ _ => id)) (s1.frm hf03 (fun _ _ => id)) (s2.frm hf03 (fun _ _ => id)) (s3.frm hf03 (fun _ _ => id)) (by omega) (by omega) (by omega) (by omega)).mono ?_
  rintro e w4 ⟨g, rfl, hg, hp, hf4⟩
  have hf04 := hf03.trans hf4
  have hgz : w.heap.size ≤ g := by have := hf03.size; omega
  clear hf4 s0 s1 s2 s3 h0 h1 h2 h3
  go_wp2_with fail
  go_loopw [7, 8, 9] (fun l s i wr => ∃ (k : Nat) (q : Pc), (k : Int) ≤ M ∧ i = .int .i64 k ∧ s = .int .i64 q.since ∧ l = .int .i64 q.least ∧ q.most = 0 ∧ q.came = k ∧ 0 ≤ q.since ∧ q.since ≤ k ∧ 16 ≤ q.least ∧ q.least ≤ 16 + 8 * k ∧ IsPace wr g (fun k => w3.heap.size ≤ k ∧ k < g) q ∧ Frm (fun _ => False) w wr) (fun _ _ i _ => (M - intOf i).toNat)
  case atStart => exact ⟨0, Pc.start z0 z1 z2 z3 0, by omega, rfl, rfl, rfl, rfl, rfl, by simp [Pc.start], by simp [Pc.start], by simp [Pc.start], by simp [Pc.start], hp, hf04⟩
  case round =>
    obtain ⟨k, q, hk, rfl, rfl, rfl, hq0, hq1, hq2, hq3, hq4, hq5, hpk, hfk⟩ := hrel
    have HQ0 := Lib.hid hq0
    have HQ1 := Lib.hid hq1
    have hsm : q.small := ⟨by omega, by omega, by omega, by omega, by omega, by omega⟩
    clear hq0 hq1
    by_cases hlt : (k : Int) < M
    · go_wp2_with fail
      refine (conflict_0 g _ q wr hpk hsm HQ0.out).mono ?_
      rintro e w5 ⟨rfl, hp5, hf5⟩
      go_wp2_with fail
      refine (least_c g _ q w5 hp5).mono ?_
      rintro e w' ⟨rfl, rfl⟩
      go_wp2_with fail
      have hsm1 : q.doConflict.small := ⟨by show 0 ≤ q.came + 1; have := HQ1.out; omega, by show q.came + 1 ≤ 1000000; have := HQ1.out; omega, by show 0 ≤ q.since + 1; omega, by show q.since + 1 ≤ 1000000; omega, by show 0 ≤ q.least; omega, by show q.least ≤ 100000000; omega⟩
      refine (restart_r g _ q.doConflict w5 hp5 hsm1).mono ?_
      rintro e w6 ⟨q', hp6, hf6, hm6, hc6, ⟨rfl, hl6, hs6, hle6⟩ | ⟨rfl, hs6, hle6⟩⟩
      · have hl7 : q.least ≤ q.since + 1 := hl6
        have hle7 : q'.least = q.least + 8 := hle6
        have hc7 : q'.came = q.came + 1 := hc6
        have hm7 : q'.most = q.most := hm6
        have H1 := Lib.hid hs6
        have H2 := Lib.hid hle7
        have H3 := Lib.hid hc7
        have H4 := Lib.hid hm7
        clear hl6 hle6 hc6 hm6 hs6 hle7 hc7 hm7
        go_wp2_with fail
        have hff := (hfk.then' hf5 (fun k hk e => by omega)).then' hf6 (fun k hk e => by omega)
        have e1 := H1.out
        have e2 := H2.out
        have e3 := H3.out
        have e4 := H4.out
        have e5 := HQ0.out
        have e6 := HQ1.out
        go_roundw
        case rel => exact ⟨k + 1, q', by omega, by go_num, by rw [e1], by rw [e2], by omega, by omega, by omega, by omega, by omega, by omega, hp6, hff⟩
        case measure => simp [intOf]; omega
      · have hle7 : q'.least = q.least := hle6
        have hs7 : q'.since = q.since + 1 := hs6
        have hc7 : q'.came = q.came + 1 := hc6
        have hm7 : q'.most = q.most := hm6
        have H1 := Lib.hid hs7
        have H2 := Lib.hid hle7
        have H3 := Lib.hid hc7
        have H4 := Lib.hid hm7
        clear hle6 hc6 hm6 hs6 hle7 hc7 hm7 hs7
        go_wp2_with fail
        have hff := (hfk.then' hf5 (fun k hk e => by omega)).then' hf6 (fun k hk e => by omega)
        have e1 := H1.out
        have e2 := H2.out
        have e3 := H3.out
        have e4 := H4.out
        have e5 := HQ0.out
        have e6 := HQ1.out
        go_roundw
        case rel => exact ⟨k + 1, q', by omega, by go_num, by rw [e1], by rw [e2], by omega, by omega, by omega, by omega, by omega, by omega, hp6, hff⟩
        case measure => simp [intOf]; omega
    · go_wp2_with fail
      refine (left_0 g _ q wr hpk hsm HQ0.out).mono ?_
      rintro e w' ⟨rfl, nd, rfl⟩
      go_wp2
      go_ret
      exact ⟨rfl, hfk.drewN _⟩

set_option maxRecDepth 100000 in
set_option maxHeartbeats 1000000 in
theorem restarts_no (a0 a1 a2 a3 : Option Addr) (c0 c1 c2 c3 : Nat) (n0 n1 n2 n3 : Nat) (m r n : Int) (w : World) (h : ¬ (n0 ≤ 50 ∧ n1 ≤ 50 ∧ n2 ≤ 50 ∧ n3 ≤ 50)) :
    Calls Try.prog 3 #[.agg #[.slice a0 n0 c0, .slice a1 n1 c1, .slice a2 n2 c2, .slice a3 n3 c3, .int .i64 m, .int .i64 r], .int .i64 n] w fun e w' => e = .returned (.bool true) ∧ Frm (fun _ => False) w w' := by
  have HN := Lib.hid h
  clear h
  go_enter Try.func3, Try.ntmps3
  go_wp2_with fail
  refine (first_any _).mono ?_
  rintro e w1 ⟨rfl, hf1⟩
  have hb := (Blk.new w 24 [.slice a0 n0 c0, .slice a1 n1 c1, .slice a2 n2 c2, .slice a3 n3 c3, .int .i64 m, .int .i64 r]).frm hf1 (fun h => h)
  have k0 := hb.at_ 0 rfl
  have k1 := hb.at_ 1 rfl
  have k2 := hb.at_ 2 rfl
  have k3 := hb.at_ 3 rfl
  have k4 := hb.at_ 4 rfl
  have k5 := hb.at_ 5 rfl
  have hf01 : Frm (fun _ => False) w w1 := ((Frm.refl (fun _ => False) w).alloc _).trans hf1
  clear hf1
  go_wp2_with fail
  refine (small_no a0 a1 a2 a3 _ _ _ _ c0 c1 c2 c3 m r w1 HN.out).mono ?_
  rintro e w2 ⟨rfl, hf2⟩
  go_wp2
  go_ret
  exact ⟨rfl, hf01.trans hf2⟩

theorem restarts_all {w : World} {v0 v1 v2 v3 : Value} {z0 z1 z2 z3 : List Int} {m r : Int} (h0 : ArgL w v0 z0) (h1 : ArgL w v1 z1) (h2 : ArgL w v2 z2) (h3 : ArgL w v3 z3) (n : Int) (_ : (Lit.int .i64 n).wf = true) (W : World) (hW : W = w) :
    Calls Try.prog 3 #[.agg #[v0, v1, v2, v3, .int .i64 m, .int .i64 r], .int .i64 n] W fun e w' => e = .returned (.bool true) ∧ Frm (fun _ => False) W w' := by
  subst hW
  obtain ⟨a0, c0, rfl, s0⟩ := h0
  obtain ⟨a1, c1, rfl, s1⟩ := h1
  obtain ⟨a2, c2, rfl, s2⟩ := h2
  obtain ⟨a3, c3, rfl, s3⟩ := h3
  by_cases h : z0.length ≤ 50 ∧ z1.length ≤ 50 ∧ z2.length ≤ 50 ∧ z3.length ≤ 50
  · exact restarts_any a0 a1 a2 a3 c0 c1 c2 c3 z0 z1 z2 z3 m r n W s0 s1 s2 s3 h.1 h.2.1 h.2.2.1 h.2.2.2
  · exact restarts_no a0 a1 a2 a3 c0 c1 c2 c3 _ _ _ _ m r n W h

end Go.Proofs.Ytfhillobhfaikaa
