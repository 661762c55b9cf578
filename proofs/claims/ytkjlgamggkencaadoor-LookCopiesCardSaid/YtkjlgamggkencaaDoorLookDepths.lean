/-
  The walk of LookDepths.
-/
import Derived.Test.YtkjlgamggkencaaDoorLaw10
import Derived.Test.YtkjlgamggkencaaDoorLookDepthsP
import Derived.Test.YtkjlgamggkencaaDoorCone
import Derived.Test.YtkjlgamggkencaaDoorMakeC
import Derived.Test.YtkjlgamggkencaaDoorRCheck
namespace Go.Proofs.YtkjlgamggkencaaDoor
open Go.RowKit

theorem emod_nat (k : Int) {m : Nat} (h : 0 < m) : ∃ K : Nat, k % (m : Int) = K ∧ K < m := by
  have a1 := Int.emod_nonneg k (b := (m : Int)) (by omega)
  have a2 := Int.emod_lt_of_pos k (b := (m : Int)) (by omega)
  exact ⟨(k % (m : Int)).toNat, by omega, by omega⟩

/-- a circuit whose outputs are set to a new row -/
theorem out_set {w : World} {q : Nat} {v0 v1 v2 : Value} (hb : Blk w q 40 [v0, v1, v2]) (cs : List Value) (k : Nat) :
    Blk ((w.setCell ⟨q, 2, none⟩ (.slice (some ⟨w.heap.size, 0, none⟩) k k)).alloc (.cells cs.toArray 3)) q 40 [v0, v1, .slice (some ⟨w.heap.size, 0, none⟩) k k] ∧
    Blk ((w.setCell ⟨q, 2, none⟩ (.slice (some ⟨w.heap.size, 0, none⟩) k k)).alloc (.cells cs.toArray 3)) w.heap.size 3 cs ∧
    Frm (fun g => g = q) w ((w.setCell ⟨q, 2, none⟩ (.slice (some ⟨w.heap.size, 0, none⟩) k k)).alloc (.cells cs.toArray 3)) :=
  ⟨(hb.set_ 2 _).alloc _, Blk.new_at _ _ _ _ (by simp), ((Frm.refl (fun g => g = q) w).setCell (p := ⟨q, 2, none⟩) (fun _ => rfl) _).alloc _⟩
theorem out_cell {w : World} {q : Nat} {v0 v1 v2 : Value} (hb : Blk w q 40 [v0, v1, v2]) (o : Obj) : (w.alloc o).cell? ⟨q, 2, none⟩ = some v2 ∧ (w.alloc o).frozen? ⟨q, 2, none⟩ = false := ⟨(hb.alloc o).at_ 2 rfl, (hb.alloc o).frozen 2⟩

set_option maxRecDepth 100000 in
set_option maxHeartbeats 8000000 in
theorem ldl_any (n0 : Int) (a0 : Option Addr) (len0 cap0 : Nat) (z0 : List Int) (hz0 : z0.length = len0) (k : Int) (w : World)
    (s0 : Sl w (fun k => k < w.heap.size) 1 (.slice a0 len0 cap0) len0 (z0.map (.int .i64))) (h0 : len0 ≤ 60) :
    Calls Tryd.prog 10 #[.int .i64 n0, .slice a0 len0 cap0, .int .i64 k] w fun e w' => e = .returned (.bool true) ∧ Frm (fun _ => False) w w' := by
  have t0 : decide ((60 : Int) < (len0 : Int)) = false := by simp; omega
  have hlm : (mkAnds 5 z0).length ≤ 30 := by rw [mkAnds_length]; omega
  have hr := mkAnds_right 5 z0
  have HMK := Lib.hid (fun W (hf : Frm (fun _ => False) w W) => make_any 5 a0 len0 cap0 z0 hz0 none 0 0 [] rfl _ (fun _ => False) W (s0.frm hf (fun _ _ => id)) (Sl.nil_ _ _ _) (by omega) (by omega) (by omega))
  have HR := Lib.hid hr
  clear hz0 s0 hr
  generalize mkAnds 5 z0 = L at *
  have hmo : mkOuts 5 z0 [] = [] := rfl
  rw [hmo] at HMK
  clear hmo
  obtain ⟨i0, hi0, hp0, hp1, hp2⟩ := info_parts infoPair
  go_enter Tryd.func10, Tryd.ntmps10
  go_wp2_with fail
  refine (first10_any w).mono ?_
  rintro e w1 ⟨rfl, hf1⟩
  go_wp2_with fail
  refine (number_any n0 30 _ (by omega) (by omega)).mono ?_
  rintro e w' ⟨rfl, rfl⟩
  obtain ⟨n, hn, hnl⟩ := emod_nat n0 (m := 30) (by omega)
  rw [show n0 % 30 = (n : Int) from hn]
  have HFA := Lib.hid (row_facts n hnl)
  clear hn
  have hfa := hf1.alloc (.cells #[.int .i64 2, .slice none 0 0, .slice none 0 0] 40)
  have hb0 : Blk (w1.alloc (.cells #[.int .i64 2, .slice none 0 0, .slice none 0 0] 40)) w1.heap.size 40 [.int .i64 2, .slice none 0 0, .slice none 0 0] := Blk.new _ _ _
  have hsz1 := hf1.size
  go_wp2_with fail
  go_loopw [9, 10] (fun lv iv wr => ∃ (j : Nat) (A : Option Addr) (c : Nat), j ≤ n ∧ iv = .int .i64 (j : Int) ∧ lv = .int .i64 (rowLast j) ∧ Blk wr w1.heap.size 40 [.int .i64 2, .slice A j c, .slice none 0 0] ∧ wr.ownsRow (w1.heap.size + 1) 73 2 (.slice A j c) j (pairs (rowL j)) ∧ Frm (fun _ => False) w wr) (fun _ iv _ => n - (intOf iv).toNat)
  case atStart => exact ⟨0, none, 0, by omega, rfl, rfl, hb0, World.ownsRow_nil _ _ _ _, hfa⟩
  case round =>
    clear hb0 hfa
    obtain ⟨W1, rfl⟩ : ∃ W1, W1 = wr := ⟨_, rfl⟩
    obtain ⟨j, A, c, hj, rfl, rfl, hb, hown, hfk⟩ := hrel
    have b0 := hb.at_ 0 rfl
    have b1 := hb.at_ 1 rfl
    have fr1 := hb.frozen 1
    by_cases hlt : j < n
    · have hrl := rowLast_range j
      have hrs := rowLast_succ j
      have hgt : pairs (rowL (j + 1)) = pairs (rowL j) ++ [.int .i64 (rowGate j).1, .int .i64 (rowGate j).2] := by rw [rowL_succ, pairs_append]; simp [pairs]
      obtain ⟨hi, lo, hhl, hho⟩ := gate_hi_lo (rowLast j) 4
      rw [show rowGate j = (hi, lo) from hhl] at hgt
      simp only at hgt
      have HT := Lib.hid hgt
      have HRS := Lib.hid hrs
      clear hgt hhl hrs
      generalize rowLast j = x at *
      have j0 : (j : Int) < n := by omega
      have wa : IntKind.i64.wrap (3 + (j : Int)) = 3 + (j : Int) := IntWalk.i64_in _ (by omega)
      have wb : IntKind.i64.wrap (2 * (3 + (j : Int))) = 2 * (3 + (j : Int)) := IntWalk.i64_in _ (by omega)
      rcases hho with ⟨e1, e2, ho⟩ | ⟨e1, e2, ho⟩
      all_goals
        subst e1
        subst e2
      · have hm1 : (if hi < 4 then 4 else hi) = hi := if_neg (by omega)
        have hm2 : (if 4 < hi then 4 else hi) = 4 := by split <;> omega
        go_wp2_with (at_builtin; (refine wpList_append_own_at _ rfl (.tmp 40) (.tmp 46) 35 rfl (w1.heap.size + 1) 73 i0 (.agg #[.int .i64 0, .int .i64 0]) 2 16 Tryd.underlying35 hi0 hp0 hp1 hp2 rfl (by decide) _ _ _ rfl (hown.alloc (.cells #[.int .i64 hi, .int .i64 4] 73)) ⟨W1.heap.size, 0, none⟩ 1 1 [.int .i64 hi, .int .i64 4] rfl rfl ?_ ?_ ?_ ?_ ?_ ?_))
        · intro j u hu; rw [addr_add, Nat.zero_add]; exact ((Blk.new W1 73 [.int .i64 hi, .int .i64 4]).cell j).trans hu
        · intro u hu; simp at hu; rcases hu with rfl | rfl <;> rfl
        · unfold maxLen; omega
        · omega
        · have := hb.lt; simp at this ⊢; omega
        intro v' w2 hown2 hgrow _ _
        have hgr : Frm (fun g => w1.heap.size + 1 ≤ g) W1 w2 := ((Frm.refl _ W1).alloc (.cells #[.int .i64 hi, .int .i64 4] 73)).grown hgrow (fun g hg hlt => (hown.lt g hg).1)
        have hb2 := hb.frm hgr (by omega)
        have hfk2 := hfk.then' hgr (fun g hg h => by omega)
        rw [← HT.out] at hown2
        obtain ⟨A', c', rfl, _⟩ := (Sl.of_own hown2).form
        have g1 := hb2.at_ 1 rfl
        have gf := hb2.frozen 1
        have hset : Frm (fun g => g = w1.heap.size) w2 (w2.setCell ⟨w1.heap.size, 1, none⟩ (.slice A' (j + 1) c')) := (Frm.refl (fun g => g = w1.heap.size) w2).setCell (p := ⟨w1.heap.size, 1, none⟩) (fun _ => rfl) _
        have hb3 := hb2.set_ 1 (.slice A' (j + 1) c')
        have hown3 := own_frm hown2 hset (fun g hg e => by have := (hown2.lt g hg).1; omega)
        have hfk3 := hfk2.then' hset (fun g hg h => by omega)
        clear hb hown hb2 hown2 hgrow hgr hset hfk hfk2 b0 b1 fr1
        go_wp2_with fail
        go_roundw
        case rel => exact ⟨j + 1, A', c', by omega, by go_num, by rw [HRS.out], hb3, hown3, hfk3⟩
        case measure => simp [intOf]; omega
      · have hm1 : (if lo < 4 then 4 else lo) = 4 := if_pos (by omega)
        have hm2 : (if 4 < lo then 4 else lo) = lo := if_neg (by omega)
        go_wp2_with (at_builtin; (refine wpList_append_own_at _ rfl (.tmp 40) (.tmp 46) 35 rfl (w1.heap.size + 1) 73 i0 (.agg #[.int .i64 0, .int .i64 0]) 2 16 Tryd.underlying35 hi0 hp0 hp1 hp2 rfl (by decide) _ _ _ rfl (hown.alloc (.cells #[.int .i64 4, .int .i64 lo] 73)) ⟨W1.heap.size, 0, none⟩ 1 1 [.int .i64 4, .int .i64 lo] rfl rfl ?_ ?_ ?_ ?_ ?_ ?_))
        · intro j u hu; rw [addr_add, Nat.zero_add]; exact ((Blk.new W1 73 [.int .i64 4, .int .i64 lo]).cell j).trans hu
        · intro u hu; simp at hu; rcases hu with rfl | rfl <;> rfl
        · unfold maxLen; omega
        · omega
        · have := hb.lt; simp at this ⊢; omega
        intro v' w2 hown2 hgrow _ _
        have hgr : Frm (fun g => w1.heap.size + 1 ≤ g) W1 w2 := ((Frm.refl _ W1).alloc (.cells #[.int .i64 4, .int .i64 lo] 73)).grown hgrow (fun g hg hlt => (hown.lt g hg).1)
        have hb2 := hb.frm hgr (by omega)
        have hfk2 := hfk.then' hgr (fun g hg h => by omega)
        rw [← HT.out] at hown2
        obtain ⟨A', c', rfl, _⟩ := (Sl.of_own hown2).form
        have g1 := hb2.at_ 1 rfl
        have gf := hb2.frozen 1
        have hset : Frm (fun g => g = w1.heap.size) w2 (w2.setCell ⟨w1.heap.size, 1, none⟩ (.slice A' (j + 1) c')) := (Frm.refl (fun g => g = w1.heap.size) w2).setCell (p := ⟨w1.heap.size, 1, none⟩) (fun _ => rfl) _
        have hb3 := hb2.set_ 1 (.slice A' (j + 1) c')
        have hown3 := own_frm hown2 hset (fun g hg e => by have := (hown2.lt g hg).1; omega)
        have hfk3 := hfk2.then' hset (fun g hg h => by omega)
        clear hb hown hb2 hown2 hgrow hgr hset hfk hfk2 b0 b1 fr1
        go_wp2_with fail
        go_roundw
        case rel => exact ⟨j + 1, A', c', by omega, by go_num, by rw [HRS.out], hb3, hown3, hfk3⟩
        case measure => simp [intOf]; omega
    · have hjn : n = j := by omega
      subst hjn
      have hRL := rowL_length n
      have hRr := rowL_right n
      have hxr := rowLast_range n
      have hA := (own_sl hown).mono (G := fun g => w1.heap.size < g) (fun g _ h => h.1)
      have hf := HFA.out
      clear hown hlt hj
      generalize rowL n = RL at *
      generalize rowLast n = x at *
      have HF1 := Lib.hid hf
      have HRL := Lib.hid hRL
      have HRR := Lib.hid hRr
      clear hf hRL hRr HFA b0 b1 fr1
      have hxl : isL x (2 + n) = true := by rw [isL_iff]; omega
      obtain ⟨hbA, hbx, hset⟩ := out_set hb [.int .i64 x] 1
      obtain ⟨c2, z2⟩ := out_cell hb (.cells #[.int .i64 x] 3)
      have hql := hb.lt
      have hA2 := hA.frm hset (fun g hg e => by omega)
      have hf2 := hfk.then' hset (fun g hg e => by omega)
      have d0 := hbA.at_ 0 rfl
      have d1 := hbA.at_ 1 rfl
      have d2 := hbA.at_ 2 rfl
      have HD := Lib.hid (depth_any 2 RL A n c (some ⟨W1.heap.size, 0, none⟩) 1 1 [x] _ _ _ HRL.out rfl HRR.out (by omega) (by omega) (by omega) (by intro y hy; simp at hy; subst hy; exact hxl) hA2 (hbx.sl 1 1 rfl))
      rw [HF1.out.1] at HD
      clear hset hb hfk hA
      go_wp2_with fail
      refine HD.out.mono ?_
      rintro e w3 ⟨rfl, hf3⟩
      have hb3 := hbA.frm hf3 id
      have hbx3 := hbx.frm hf3 id
      have hA3 := hA2.frm hf3 (fun _ _ => id)
      have hf03 := hf2.trans hf3
      have HC := Lib.hid (cone_any 2 RL A n c (some ⟨W1.heap.size, 0, none⟩) 1 1 [x] x _ _ w3 HRL.out rfl HRR.out (by omega) (by omega) (by omega) (by intro y hy; simp at hy; subst hy; exact hxl) hxl hA3 (hbx3.sl 1 1 rfl))
      rw [HF1.out.2] at HC
      have d0 := hb3.at_ 0 rfl
      have d1 := hb3.at_ 1 rfl
      have d2 := hb3.at_ 2 rfl
      clear HD hbA hbx hA2 hf2 hf3 c2 z2
      go_wp2_with fail
      refine HC.out.mono ?_
      rintro e w4 ⟨A4, c4, rfl, _, hf4⟩
      have hf04 := hf03.trans hf4
      clear HC hb3 hbx3 hA3 hf03 hf4 d0 d1 d2 HF1 HRL HRR hxl hxr
      go_wp2_with fail
      refine (HMK.out w4 hf04).mono ?_
      rintro e w5 ⟨v, rfl, ⟨A, c, B, d, rfl, hA, hB⟩, hf5⟩
      clear HMK
      have hf05 := hf04.trans hf5
      have hfa := (Frm.refl (fun _ => False) w5).alloc (.cells #[.int .i64 5, .slice A L.length c, .slice B 0 d] 40)
      have hba : Blk (w5.alloc (.cells #[.int .i64 5, .slice A L.length c, .slice B 0 d] 40)) w5.heap.size 40 [.int .i64 5, .slice A L.length c, .slice B 0 d] := Blk.new _ _ _
      have hA1 := (hA.mono (G := fun k => k < w5.heap.size) (fun k hk _ => hk)).frm hfa (fun _ _ => id)
      have hf06 := hf05.trans hfa
      have b1 := hba.at_ 1 rfl
      have hs5 := hf05.size
      simp only [List.length_nil]
      clear hf04 hf5 hf05 hA hB
      by_cases hL : L.length = 0
      · have hL1 : ((L.length : Int) == 0) = true := by rw [hL]; rfl
        clear hL
        go_wp2_with fail
        go_ret
        exact ⟨rfl, hf06⟩
      · have hL1 : ((L.length : Int) == 0) = false := beq_eq_false_iff_ne.2 (by omega)
        go_wp2_with fail
        refine (number_any k (L.length : Int) _ (by omega) (by omega)).mono ?_
        rintro e w' ⟨rfl, rfl⟩
        obtain ⟨K, hK, hKl⟩ := emod_nat k (m := L.length) (by omega)
        rw [hK]
        clear hK hL hL1
        have hdg := depth_gate HR.out hKl
        have hcu := cone_under HR.out hKl
        obtain ⟨bp, op, rfl, _, q1, q2⟩ := sl_pair hA1 hKl
        rw [← Nat.add_assoc] at q2
        have hpr := HR.out K (L.getD K (0, 0)) (by simp [List.getD, hKl])
        obtain ⟨p, hp⟩ : ∃ p, L.getD K (0, 0) = p := ⟨_, rfl⟩
        rw [hp] at q1 q2 hpr hdg hcu
        clear hp
        obtain ⟨x, y⟩ := p
        simp only at q1 q2 hpr hdg hcu
        have e5 : 2 * (((5 : Nat) : Int) + 1 + (K : Int)) = 2 * (6 + (K : Int)) := by omega
        have e6 : (((5 : Nat) : Int) + 1 + (K : Int)) = 6 + (K : Int) := by omega
        rw [e5] at hdg hcu
        rw [e6] at hcu
        clear e5 e6
        have HDG := Lib.hid hdg
        have HCU := Lib.hid hcu
        clear hdg hcu
        have wa : IntKind.i64.wrap (6 + (K : Int)) = 6 + (K : Int) := IntWalk.i64_in _ (by omega)
        have wb : IntKind.i64.wrap (2 * (6 + (K : Int))) = 2 * (6 + (K : Int)) := IntWalk.i64_in _ (by omega)
        have wc : IntKind.i64.wrap (2 * (6 + (K : Int)) + 1) = 2 * (6 + (K : Int)) + 1 := IntWalk.i64_in _ (by omega)
        have j0 : (0 : Int) ≤ K := by omega
        have j1 : (K : Int) < L.length := by omega
        obtain ⟨W5, hW5⟩ : ∃ W5, W5 = w5.alloc (.cells #[.int .i64 5, .slice (some ⟨bp, op, none⟩) L.length c, .slice B 0 d] 40) := ⟨_, rfl⟩
        have hlt5 : w5.heap.size < W5.heap.size := by rw [hW5]; simp
        rw [← hW5] at hba hA1 hf06 b1 q1 q2
        simp only [← hW5]
        clear hW5 hfa
        have hxl : isL x (5 + L.length) = true := by rw [isL_iff]; omega
        have hyl : isL y (5 + L.length) = true := by rw [isL_iff]; omega
        have hnl : isL (2 * (6 + (K : Int))) (5 + L.length) = true := by rw [isL_iff]; omega
        have hnl2 : isL (2 * (6 + (K : Int)) + 1) (5 + L.length) = true := by rw [isL_iff]; omega
        obtain ⟨hbA, hbx, hset⟩ := out_set hba [.int .i64 (2 * (6 + (K : Int)))] 1
        obtain ⟨c2, z2⟩ := out_cell hba (.cells #[.int .i64 (2 * (6 + (K : Int)))] 3)
        have hA2 := hA1.frm hset (fun g hg e => by omega)
        have hf2 := hf06.then' hset (fun g hg e => by omega)
        have d0 := hbA.at_ 0 rfl
        have d1 := hbA.at_ 1 rfl
        have d2 := hbA.at_ 2 rfl
        have HD := Lib.hid (depth_any 5 L (some ⟨bp, op, none⟩) L.length c (some ⟨W5.heap.size, 0, none⟩) 1 1 [2 * (6 + (K : Int))] _ _ _ rfl rfl HR.out (by omega) (by omega) (by omega) (by intro y hy; simp at hy; subst hy; exact hnl) hA2 (hbx.sl 1 1 rfl))
        clear hset hba hf06 hA1
        go_wp2_with fail
        refine HD.out.mono ?_
        rintro e w7 ⟨rfl, hf7⟩
        have hb7 := hbA.frm hf7 id
        have hA7 := hA2.frm hf7 (fun _ _ => id)
        have hf07 := hf2.trans hf7
        have hlt7 := hb7.lt
        clear HD hbA hbx hA2 hf2 hf7 c2 z2 d0 d1 d2 b1 q1 q2
        obtain ⟨hbA, hbx, hset⟩ := out_set hb7 [.int .i64 x, .int .i64 y] 2
        obtain ⟨c2, z2⟩ := out_cell hb7 (.cells #[.int .i64 x, .int .i64 y] 3)
        have hA2 := hA7.frm hset (fun g hg e => by omega)
        have hf2 := hf07.then' hset (fun g hg e => by omega)
        have d0 := hbA.at_ 0 rfl
        have d1 := hbA.at_ 1 rfl
        have d2 := hbA.at_ 2 rfl
        have hxy : ∀ z ∈ [x, y], isL z (5 + L.length) = true := by intro z hz; simp at hz; rcases hz with rfl | rfl <;> assumption
        have HD := Lib.hid (depth_any 5 L (some ⟨bp, op, none⟩) L.length c (some ⟨w7.heap.size, 0, none⟩) 2 2 [x, y] _ _ _ rfl rfl HR.out (by omega) (by omega) (by omega) hxy hA2 (hbx.sl 1 2 rfl))
        clear hset hb7 hf07 hA7
        go_wp2_with fail
        refine HD.out.mono ?_
        rintro e w8 ⟨rfl, hf8⟩
        have hb8 := hbA.frm hf8 id
        have hbx8 := hbx.frm hf8 id
        have hA8 := hA2.frm hf8 (fun _ _ => id)
        have hf08 := hf2.trans hf8
        clear HD hbA hbx hA2 hf2 hf8 c2 z2 d0 d1 d2
        have d0 := hb8.at_ 0 rfl
        have d1 := hb8.at_ 1 rfl
        have d2 := hb8.at_ 2 rfl
        have HC := Lib.hid (cone_any 5 L (some ⟨bp, op, none⟩) L.length c (some ⟨w7.heap.size, 0, none⟩) 2 2 [x, y] (2 * (6 + (K : Int)) + 1) _ _ w8 rfl rfl HR.out (by omega) (by omega) (by omega) hxy hnl2 hA8 (hbx8.sl 1 2 rfl))
        go_wp2_with fail
        refine HC.out.mono ?_
        rintro e w9 ⟨Ac, cc, rfl, hownc, hf9⟩
        have hb9 := hb8.frm hf9 id
        have hbx9 := hbx8.frm hf9 id
        have hA9 := hA8.frm hf9 (fun _ _ => id)
        have hf09 := hf08.trans hf9
        have hcs := own_sl hownc
        clear HC hb8 hbx8 hA8 hf08 hf9 d0 d1 d2 hownc
        have d0 := hb9.at_ 0 rfl
        have d1 := hb9.at_ 1 rfl
        have d2 := hb9.at_ 2 rfl
        have HC := Lib.hid (cone_any 5 L (some ⟨bp, op, none⟩) L.length c (some ⟨w7.heap.size, 0, none⟩) 2 2 [x, y] x _ _ w9 rfl rfl HR.out (by omega) (by omega) (by omega) hxy hxl hA9 (hbx9.sl 1 2 rfl))
        have hcl1 : (coneL 5 L (2 * (6 + (K : Int)) + 1)).length ≤ 30 := by have := coneOf_length 5 (marksL 5 L (2 * (6 + (K : Int)) + 1)) L.length; unfold coneL; omega
        generalize coneL 5 L (2 * (6 + (K : Int)) + 1) = C1 at *
        go_wp2_with fail
        refine HC.out.mono ?_
        rintro e w10 ⟨Ap, cp, rfl, hownp, hf10⟩
        have hb10 := hb9.frm hf10 id
        have hbx10 := hbx9.frm hf10 id
        have hA10 := hA9.frm hf10 (fun _ _ => id)
        have hf010 := hf09.trans hf10
        have hcs10 := hcs.frm hf10 (fun _ _ => id)
        have hps := own_sl hownp
        clear HC hb9 hbx9 hA9 hf09 hf10 d0 d1 d2 hownp hcs
        have hcl2 : (coneL 5 L x).length ≤ 30 := by have := coneOf_length 5 (marksL 5 L x) L.length; unfold coneL; omega
        generalize coneL 5 L x = C2 at *
        obtain ⟨p2, hp2⟩ : ∃ p2, C2.length = p2 := ⟨_, rfl⟩
        rw [hp2] at hps ⊢
        have HP2 := Lib.hid hp2
        have hdb : 0 ≤ depthL 5 L [x, y] ∧ depthL 5 L [x, y] ≤ 30 := by
          have h1 := dmore_get 5 L (x / 2).toNat
          have h2 := dmore_get 5 L (y / 2).toNat
          unfold depthL mostL depths
          simp only [List.foldl_cons, List.foldl_nil]
          omega
        rw [HDG.out]
        generalize depthL 5 L [x, y] = D at *
        have wd : IntKind.i64.wrap (D + 1) = D + 1 := IntWalk.i64_in _ (by omega)
        clear HDG hp2
        go_wp2_with fail
        go_loopw [20] (fun iv wr => ∃ (j : Nat), j ≤ p2 ∧ iv = .int .i64 (j : Int) ∧ Frm (fun _ => False) w10 wr) (fun iv _ => p2 - (intOf iv).toNat)
        case atStart => exact ⟨0, by omega, rfl, Frm.refl _ _⟩
        case round =>
          obtain ⟨j, hj, rfl, hfj⟩ := hrel
          by_cases hlt : j < p2
          · have hlt2 : j < C2.length := by rw [HP2.out]; exact hlt
            obtain ⟨b, o, u, rfl, _, hu, hcell⟩ := (hps.frm hfj (fun _ _ => id)).at_ hlt
            obtain rfl := at_getD hu
            have hin : C2.getD j 0 ∈ C1 := HCU.out.1 _ (by simp [List.getD, hlt2])
            clear hu
            generalize C2.getD j 0 = z at *
            have HH := Lib.hid (has_any Ac C1.length cc _ C1 z wr rfl (by omega) (hcs10.frm hfj (fun _ _ => id)))
            rw [decide_eq_true hin] at HH
            clear hin
            have k0 : (0 : Int) ≤ j := by omega
            have k1 : (j : Int) < p2 := by omega
            go_wp2_with fail
            refine HH.out.mono ?_
            rintro e w11 ⟨rfl, hf11⟩
            go_wp2_with fail
            go_roundw
            case rel => exact ⟨j + 1, by omega, by go_num, hfj.trans hf11⟩
            case measure => simp [intOf]; omega
          · have hjp : p2 = j := by omega
            subst hjp
            have HH := Lib.hid (has_any Ac C1.length cc _ C1 (6 + (K : Int)) wr rfl (by omega) (hcs10.frm hfj (fun _ _ => id)))
            rw [decide_eq_true HCU.out.2] at HH
            go_wp2_with fail
            refine HH.out.mono ?_
            rintro e w11 ⟨rfl, hf11⟩
            have hfx := hfj.trans hf11
            have hb11 := hb10.frm hfx id
            have d0 := hb11.at_ 0 rfl
            have d1 := hb11.at_ 1 rfl
            have d2 := hb11.at_ 2 rfl
            have HRC := Lib.hid (rcheck_any 5 (some ⟨bp, op, none⟩) L.length c (some ⟨w7.heap.size, 0, none⟩) 2 2 L [x, y] _ _ w11 rfl rfl (by omega) (by omega) (hA10.frm hfx (fun _ _ => id)) ((hbx10.frm hfx id).sl 1 2 rfl))
            have hck : ckCode 5 L [x, y] = 0 := ckCode_right (n := 5) HR.out (by omega) hxy
            rw [hck] at HRC
            clear hck
            go_wp2_with fail
            refine HRC.out.mono ?_
            rintro e w12 ⟨rfl, hf12⟩
            go_wp2_with fail
            go_ret
            exact ⟨rfl, (hf010.trans hfx).trans hf12⟩

set_option maxRecDepth 100000 in
theorem ldl_law (n : Int) (_ : (Lit.int .i64 n).wf = true) (a0 : Option Addr) (len0 cap0 : Nat) (z0 : List Int) (hz0 : z0.length = len0) {w0 : World} (s0 : Sl w0 (fun k => k < w0.heap.size) 1 (.slice a0 len0 cap0) len0 (z0.map (.int .i64))) (_ : ∀ n ∈ z0, (Lit.int .i64 n).wf = true)
    (k : Int) (_ : (Lit.int .i64 k).wf = true) (w : World) (e : w = w0) :
    Calls Tryd.prog 10 #[.int .i64 n, .slice a0 len0 cap0, .int .i64 k] w fun e w' => e = .returned (.bool true) ∧ Frm (fun _ => False) w w' := by
  subst e
  by_cases h : len0 ≤ 60
  · exact ldl_any n a0 len0 cap0 z0 hz0 k w s0 h
  · have t0 : decide ((60 : Int) < (len0 : Int)) = true := by simp; omega
    go_enter Tryd.func10, Tryd.ntmps10
    go_wp2_with fail
    refine (first10_any w).mono ?_
    rintro e w1 ⟨rfl, hf1⟩
    go_wp2_with fail
    go_ret
    exact ⟨rfl, hf1⟩

end Go.Proofs.YtkjlgamggkencaaDoor
