/-
  The walk of GateLaws.
-/
import Derived.Test.YtkjlgamggkencaaDoorPair
namespace Go.Proofs.YtkjlgamggkencaaDoor
open Go.RowKit

set_option maxRecDepth 100000 in
set_option maxHeartbeats 8000000 in
theorem glaws_any (a0 : Option Addr) (len0 cap0 : Nat) (z0 : List Int) (hz0 : z0.length = len0) (a b n : Int) (w : World)
    (s0 : Sl w (fun k => k < w.heap.size) 1 (.slice a0 len0 cap0) len0 (z0.map (.int .i64))) (h0 : len0 ≤ 40) :
    Calls Tryd.prog 9 #[.slice a0 len0 cap0, .int .i64 a, .int .i64 b, .int .i64 n] w fun e w' => e = .returned (.bool true) ∧ Frm (fun _ => False) w w' := by
  have t0 : decide ((40 : Int) < (len0 : Int)) = false := by simp; omega
  go_enter Tryd.func9, Tryd.ntmps9
  go_wp2_with fail
  refine (first9_any w).mono ?_
  rintro e w1 ⟨rfl, hf1⟩
  go_wp2_with fail
  refine (pair_any E0 rfl 8 a0 len0 cap0 z0 hz0 _ w1 (s0.frm hf1 (fun _ _ => id)) (by omega) (by omega)).mono ?_
  rintro e w2 ⟨gb, gx, rfl, hP, hf2⟩
  rw [show clamp 8 = 8 from by decide +kernel] at hP
  have hO := hP.on
  obtain ⟨p1, p2, p3, p4, p5⟩ := pairG_ok 8 z0 (len0 / 2) (by omega)
  have hf02 := hf1.trans hf2
  have hz1 := hf1.size
  clear hP hf1 hf2
  generalize pairG 8 z0 (len0 / 2) = g at *
  have hgl : g.len ≤ 28 := by omega
  have hm : Made g.n g.ands := by rw [p1]; exact p3
  go_wp2_with fail
  obtain ⟨fp0, hG0, _⟩ := id hO
  refine (len_any E0 fp0 gb g w2 hG0).mono ?_
  rintro e w' ⟨rfl, n1, rfl⟩
  have HN := Lib.hid (fun x W => number_any x (2 * (g.len : Int) + 2) W (by omega) (by omega))
  go_wp2_with fail
  refine (HN.out a _).mono ?_
  rintro e w' ⟨rfl, rfl⟩
  go_wp2_with fail
  refine (HN.out b _).mono ?_
  rintro e w' ⟨rfl, rfl⟩
  have la := isL_emod a g.len
  have lb := isL_emod b g.len
  generalize a % (2 * (g.len : Int) + 2) = A at *
  generalize b % (2 * (g.len : Int) + 2) = B at *
  have sA := small_lit la (by omega)
  have sB := small_lit lb (by omega)
  have hO1 := hO.drewN n1
  have HOR := Lib.hid (or_again la lb (by omega))
  obtain ⟨u1, l1⟩ := or_up hm la lb (by omega)
  have hl1 := u1.high
  have hl0 := u1.low
  have a1 := u1.isL la
  have b1 := u1.isL lb
  have na1 := notL_range a1
  have nb1 := notL_range b1
  have XS := Lib.hid (xor_self a1)
  have XO := Lib.hid (xor_opp a1)
  have M1 := Lib.hid (mux_one a1 b1)
  have M0 := Lib.hid (mux_zero a1 b1)
  have HV := Lib.hid (fun inp => mux_lv (inp := inp) u1.made ⟨a1, rfl⟩ ⟨b1, rfl⟩ ⟨b1, rfl⟩ (by omega))
  have HU := Lib.hid (mux_up u1.made a1 b1 b1 (by omega))
  have hn1 := u1.num
  go_wp2_with fail
  refine (len_any E0 fp0 gb g _ (hG0.drewN _)).mono ?_
  rintro e w' ⟨rfl, n2, rfl⟩
  go_wp2_with fail
  refine (on_or (hO.drewN (n1 + n2)) A B la lb (by omega)).mono ?_
  rintro e w3 ⟨rfl, hO3, hf3⟩
  have hf03 := frm_kept (hf02.drewN (n1 + n2)) hf3 (fun k hk => by omega)
  clear hO hO1 hG0 hf3 hf02
  generalize orG g A B = R at *
  obtain ⟨r, g1⟩ := R
  simp only at *
  have l1n := notL_range l1
  have sr := small_lit l1n (by omega)
  have A0 : isL 0 g1.len = true := by rw [isL_iff]; omega
  have A1 : isL 1 g1.len = true := by rw [isL_iff]; omega
  have hu := notL_notL r
  go_wp2_with fail
  refine (not_any A sA _).mono ?_
  rintro e w' ⟨rfl, rfl⟩
  go_wp2_with fail
  refine (not_any B sB _).mono ?_
  rintro e w' ⟨rfl, rfl⟩
  go_wp2_with fail
  refine (on_and hO3 _ _ na1 nb1 (by omega)).mono ?_
  rw [HOR.out]
  rintro e w4 ⟨rfl, hO4, hf4⟩
  go_wp2_with fail
  refine (not_any _ sr _).mono ?_
  rintro e w' ⟨rfl, rfl⟩
  rw [hu]
  go_wp2_with fail
  refine (on_xor hO4 A A a1 a1 (by omega)).mono ?_
  rw [XS.out]
  rintro e w5 ⟨rfl, hO5, hf5⟩
  go_wp2_with fail
  refine (not_any A sA _).mono ?_
  rintro e w' ⟨rfl, rfl⟩
  go_wp2_with fail
  refine (on_xor hO5 A (notL A) a1 na1 (by omega)).mono ?_
  rw [XO.out]
  rintro e w6 ⟨rfl, hO6, hf6⟩
  go_wp2_with fail
  refine (on_mux hO6 1 A B A1 a1 b1 (by omega)).mono ?_
  rw [M1.out]
  rintro e w7 ⟨rfl, hO7, hf7⟩
  go_wp2_with fail
  refine (on_mux hO7 0 A B A0 a1 b1 (by omega)).mono ?_
  rw [M0.out]
  rintro e w8 ⟨rfl, hO8, hf8⟩
  have hf08 := frm_kept hf03 ((((hf4.trans hf5).trans hf6).trans hf7).trans hf8) (fun k hk => by omega)
  have td : decide ((g.len : Int) + 1 < g1.len) = false := by simp; omega
  have td2 : decide ((g1.len : Int) ≤ (g.len : Int) + 1) = true := by simp; omega
  clear hO3 hO4 hO5 hO6 hO7 hf4 hf5 hf6 hf7 hf8 hf03
  obtain ⟨fp8, hG8, _⟩ := id hO8
  go_wp2_with fail
  refine (len_any E0 fp8 gb g1 _ hG8).mono ?_
  rintro e w' ⟨rfl, n3, rfl⟩
  go_wp2_with fail
  refine (on_mux (hO8.drewN n3) A B B a1 b1 b1 (by omega)).mono ?_
  rintro e w9 ⟨rfl, hO9, hf9⟩
  have hf09 := frm_kept (hf08.drewN n3) hf9 (fun k hk => by omega)
  obtain ⟨u2, l2⟩ := HU.out
  have b2 := u2.isL b1
  have HV2 := Lib.hid (fun inp => (HV.out inp).val)
  have HVB := Lib.hid (fun inp => (u2.lv (⟨b1, rfl⟩ : Lv g1 inp B _)).val)
  have hn2 := u2.num
  have hm2 := u2.made
  have hl2 := u2.high
  clear hO8 hG8 hf9 hf08 HU HV u2 HN HOR XS XO M1 M0
  generalize muxG g1 A B B = R2 at *
  obtain ⟨m, g2⟩ := R2
  simp only at *
  have hg2n : g2.n = 8 := by omega
  have hg2a : g2.n + g2.ands.length ≤ 40 := by have : g2.len ≤ 40 := by omega
                                               exact this
  go_wp2_with fail
  have hfa := (Frm.refl (fun _ => False) w9).alloc (.cells #[.int .i64 m, .int .i64 B] 3)
  refine (on_circuit (hO9.frm hfa) (some ⟨w9.heap.size, 0, none⟩) 2 2 _ [m, B] rfl (by omega) ((Blk.new w9 3 [.int .i64 m, .int .i64 B]).sl 1 2 rfl)).mono ?_
  rintro e w10 ⟨v, rfl, hC, hf10⟩
  go_wp2_with fail
  refine (values_any n 8 (by omega) w10).mono ?_
  rintro e w11 ⟨Ai, ci, rfl, hown, hf11⟩
  have hin := own_sl hown
  have hinl := mkVals_length n 8
  have hC1 := hC.frm hf11 (fun _ _ => id)
  have hf011 := ((hf09.trans hfa).trans hf10).trans hf11
  clear hown hC hf10 hf11 hfa hO9 hf09
  generalize mkVals n 8 = inp at *
  rw [hg2n] at hC1
  have hright := hm2.right
  rw [hg2n] at hright hg2a
  have HE := Lib.hid (reval_isC hC1 Ai 8 ci inp hinl hright (by omega) (by omega) (by simp) (by
    intro x hx
    have e2 : g2.len = 8 + g2.ands.length := by show g2.n + _ = _; rw [hg2n]
    rw [← e2]
    simp at hx
    rcases hx with rfl | rfl
    · exact l2
    · exact b2) hin)
  have hev : evalOuts (nodes 8 g2.ands inp) [m, B] = [worth (g1.nod inp) B, worth (g1.nod inp) B] := by
    have e1 : nodes 8 g2.ands inp = g2.nod inp := by unfold Gr.nod; rw [hg2n]
    rw [e1]
    have h1 := HV2.out inp
    have h2 := HVB.out inp
    simp only [evalOuts, List.map_cons, List.map_nil]
    rw [h1, h2]
    simp
  have HEV := Lib.hid hev
  clear hev
  go_wp2_with fail
  refine HE.out.mono ?_
  rw [HEV.out]
  rintro e w12 ⟨A5, c5, rfl, hown5, hf12⟩
  have hV := own_sl hown5
  obtain ⟨b5, o5, u0, rfl, _, hu0, hc0⟩ := hV.at_ (k := 0) (by simp)
  obtain ⟨b5', o5', u1', e', _, hu1, hc1⟩ := hV.at_ (k := 1) (by simp)
  cases e'
  simp only [List.map_cons, List.map_nil, List.getElem?_cons_zero, List.getElem?_cons_succ, Option.some.injEq] at hu0 hu1
  subst hu0 hu1
  have hf012 := hf011.trans hf12
  clear HE HEV hV hown5 hin hf12 hf011 hC1
  generalize worth (g1.nod inp) B = x at *
  rw [Nat.add_zero] at hc0
  go_wp2_with fail
  go_quiet (fail)
  go_wp2_with fail
  go_ret
  exact ⟨rfl, hf012.drewN _⟩

set_option maxRecDepth 100000 in
theorem glaws_law (a0 : Option Addr) (len0 cap0 : Nat) (z0 : List Int) (hz0 : z0.length = len0) {w0 : World} (s0 : Sl w0 (fun k => k < w0.heap.size) 1 (.slice a0 len0 cap0) len0 (z0.map (.int .i64))) (_ : ∀ n ∈ z0, (Lit.int .i64 n).wf = true)
    (a : Int) (_ : (Lit.int .i64 a).wf = true) (b : Int) (_ : (Lit.int .i64 b).wf = true) (n : Int) (_ : (Lit.int .i64 n).wf = true) (w : World) (e : w = w0) :
    Calls Tryd.prog 9 #[.slice a0 len0 cap0, .int .i64 a, .int .i64 b, .int .i64 n] w fun e w' => e = .returned (.bool true) ∧ Frm (fun _ => False) w w' := by
  subst e
  by_cases h : len0 ≤ 40
  · exact glaws_any a0 len0 cap0 z0 hz0 a b n w s0 h
  · have c1 : (40 : Int) < len0 := by omega
    go_enter Tryd.func9, Tryd.ntmps9
    go_wp2_with fail
    refine (first9_any w).mono ?_
    rintro e w1 ⟨rfl, hf1⟩
    go_wp2_with fail
    go_ret
    exact ⟨rfl, hf1⟩

end Go.Proofs.YtkjlgamggkencaaDoor
