/-
  The walk of GateSays.
-/
import Derived.Test.YtkjlgamggkencaaDoorClausesR
import Derived.Test.YtkjlgamggkencaaDoorGateCl
import Derived.Test.YtkjlgamggkencaaDoorPair
namespace Go.Proofs.YtkjlgamggkencaaDoor
open Go.RowKit

theorem clamp_nat {n : Nat} (h : n ≤ 8000) : clamp (n : Int) = n := by unfold clamp; omega

set_option maxRecDepth 100000 in
set_option maxHeartbeats 16000000 in
theorem gsl_any (n : Nat) (a0 : Option Addr) (len0 cap0 : Nat) (z0 : List Int) (hz0 : z0.length = len0) (a b c : Int) (a1 : Option Addr) (len1 cap1 : Nat) (z1 : List Int) (hz1 : z1.length = len1) (a2 : Option Addr) (len2 cap2 : Nat) (z2 : List Int) (hz2 : z2.length = len2) (w : World)
    (s0 : Sl w (fun k => k < w.heap.size) 1 (.slice a0 len0 cap0) len0 (z0.map (.int .i64))) (s1 : Sl w (fun k => k < w.heap.size) 1 (.slice a1 len1 cap1) len1 (z1.map (.int .i64))) (s2 : Sl w (fun k => k < w.heap.size) 1 (.slice a2 len2 cap2) len2 (z2.map (.int .i64)))
    (h0 : len0 ≤ 80) (h1 : len1 ≤ 30) (h2 : len2 ≤ 60) (hn1 : 1 ≤ n) (hn2 : n ≤ 20) :
    Calls Tryd.prog 17 #[.int .i64 n, .slice a0 len0 cap0, .int .i64 a, .int .i64 b, .int .i64 c, .slice a1 len1 cap1, .slice a2 len2 cap2] w fun e w' => e = .returned (.bool true) ∧ Frm (fun _ => False) w w' := by
  have t0 : decide ((80 : Int) < (len0 : Int)) = false := by simp; omega
  have t1 : decide ((30 : Int) < (len1 : Int)) = false := by simp; omega
  have t2 : decide ((60 : Int) < (len2 : Int)) = false := by simp; omega
  have t3 : decide ((n : Int) < 1) = false := by simp; omega
  have t4 : decide ((20 : Int) < (n : Int)) = false := by simp; omega
  obtain ⟨hok, hsum⟩ := mkClauses_ok (vars := n) (by omega) z2
  have hfew := mkClauses_few (vars := n) (by omega) z2
  rw [hz2] at hsum hfew
  have HMK := Lib.hid (fun (W : World) (hf : Frm (fun _ => False) w W) => mkcl_any n a2 len2 cap2 _ z2 W hz2 (by omega) (by omega) (by omega) (fun k hk => by have := hf.size; omega) (s2.frm hf (fun _ _ => id)))
  have HPA := Lib.hid (fun (W : World) (hf : Frm (fun _ => False) w W) => pair_any E0 rfl (n : Int) a0 len0 cap0 z0 hz0 _ W (s0.frm hf (fun _ _ => id)) (by omega) (by omega))
  rw [clamp_nat (by omega)] at HPA
  have HOK := Lib.hid hok
  have HSU := Lib.hid hsum
  have HZ1 := Lib.hid hz1
  obtain ⟨p1, p2, p3, p4, p5⟩ := pairG_ok n z0 (len0 / 2) (by omega)
  clear hz0 hz1 hz2 s0 s2 hok hsum
  generalize mkClauses z2 n = cs at *
  generalize pairG n z0 (len0 / 2) = g at *
  have hgl : g.len ≤ 60 := by omega
  have hm : Made g.n g.ands := by rw [p1]; exact p3
  clear p3 p4 p5
  obtain ⟨i0, hi0, hq0, hq1, hq2⟩ := info_parts infoIntG
  go_enter Tryd.func17, Tryd.ntmps17
  go_wp2_with fail
  refine (first9_any w).mono ?_
  rintro e w1 ⟨rfl, hf1⟩
  go_wp2_with fail
  refine (HPA.out w1 hf1).mono ?_
  rintro e w2 ⟨gb, gx, rfl, hP, hf2⟩
  have hf02 := hf1.trans hf2
  have hz1 := hf1.size
  clear hf1 hf2 HPA
  go_wp2_with fail
  refine (pr_xlen hP).mono ?_
  rintro e w' ⟨rfl, n1, rfl⟩
  have hP2 := hP.drewN n1
  have hf02 := hf02.drewN n1
  have la := isL_emod a g.len
  have lb := isL_emod b g.len
  have lc := isL_emod c g.len
  have hTx := fun (x : Int) => isL_emod x g.len
  have wt1 : IntKind.i64.wrap (2 * (g.len : Int)) = 2 * (g.len : Int) := IntWalk.i64_in _ (by omega)
  have wt2 : IntKind.i64.wrap (2 * (g.len : Int) + 2) = 2 * (g.len : Int) + 2 := IntWalk.i64_in _ (by omega)
  obtain ⟨T, hT⟩ : ∃ T : Int, T = 2 * (g.len : Int) + 2 := ⟨_, rfl⟩
  have hTr : 2 ≤ T ∧ T ≤ 200 := by omega
  rw [← hT] at la lb lc hTx
  rw [wt2.trans hT.symm |> fun h => show IntKind.i64.wrap (2 * (g.len : Int) + 2) = T from h] at wt2
  have wt3 : IntKind.i64.wrap (2 * (g.len : Int) + 2) = T := by rw [hT]; exact IntWalk.i64_in _ (by omega)
  have HTT := Lib.hid hT
  have HN := Lib.hid (fun x W => number_any x T W (by omega) (by omega))
  clear hT wt2 hP
  generalize w2.drewN n1 = w2 at *
  go_wp2_with fail
  refine (HN.out a _).mono ?_
  rintro e w' ⟨rfl, rfl⟩
  go_wp2_with fail
  refine (HN.out b _).mono ?_
  rintro e w' ⟨rfl, rfl⟩
  go_wp2_with fail
  refine (HN.out c _).mono ?_
  rintro e w' ⟨rfl, rfl⟩
  generalize a % T = A at *
  generalize b % T = B at *
  generalize c % T = C at *
  obtain ⟨D, hD⟩ : ∃ D : List Int, D = z1.map (fun y => y % T) := ⟨_, rfl⟩
  have hDl : D.length = len1 := by rw [hD]; simpa using HZ1.out
  have hDk : ∀ j, j < len1 → D[j]? = some (z1.getD j 0 % T) := by intro j hj; rw [hD, List.getElem?_map]; have h := HZ1.out; simp [List.getD, show j < z1.length by omega]
  have hDx : ∀ y ∈ D, isL y g.len = true := by
    intro y hy
    rw [hD] at hy
    obtain ⟨u, _, rfl⟩ := List.mem_map.1 hy
    exact hTx u
  have HDL := Lib.hid hDl
  have HDK := Lib.hid hDk
  clear hD hDl hDk hTx wt1 wt3
  -- or
  have u1 := or_up hm la lb (by omega)
  have HO1 := Lib.hid (pr_call hP2 (fun K' _ hO => on_or hO A B la lb (by omega)))
  have HX1 := Lib.hid (fun (W : World) (hP : Pr E0 (fun k => k < w1.heap.size) W gb (orG g A B).2 gx g) => pr_callX hP (fun K' _ hO => onx_or hO A B la lb (by omega)))
  obtain ⟨u1, l1⟩ := u1
  have la1 := u1.isL la
  have lb1 := u1.isL lb
  have lc1 := u1.isL lc
  have hn1' := u1.num
  have hbd1 := u1.bad
  have hm1 := u1.made
  have hl1 := u1.high
  have hDx1 : ∀ y ∈ D, isL y (orG g A B).2.len = true := fun y hy => u1.isL (hDx y hy)
  clear u1 hm hDx la lb lc
  generalize orG g A B = R1 at *
  obtain ⟨r1, g1⟩ := R1
  simp only at HO1 HX1 l1 la1 lb1 lc1 hn1' hbd1 hm1 hl1 hDx1
  go_wp2_with fail
  refine HO1.out.mono ?_
  rintro e w3 ⟨rfl, hP3, hf3⟩
  have hf03 := frm_kept hf02 hf3 (fun k hk => by omega)
  go_wp2_with fail
  refine (HX1.out _ hP3).mono ?_
  rintro e w4 ⟨rfl, hP4, hf4⟩
  have hf04 := frm_kept hf03 hf4 (fun k hk => by omega)
  clear HO1 HX1 hP2 hP3 hf02 hf03 hf3 hf4
  -- xor
  have u2 := xor_up hm1 la1 lc1 (by omega)
  have HO2 := Lib.hid (pr_call hP4 (fun K' _ hO => on_xor hO A C la1 lc1 (by omega)))
  have HX2 := Lib.hid (fun (W : World) (hP : Pr E0 (fun k => k < w1.heap.size) W gb (xorG g1 A C).2 gx g1) => pr_callX hP (fun K' _ hO => onx_xor hO A C la1 lc1 (by omega)))
  obtain ⟨u2, l2⟩ := u2
  have la2 := u2.isL la1
  have lb2 := u2.isL lb1
  have lc2 := u2.isL lc1
  have hn2' := u2.num
  have hbd2 := u2.bad
  have hm2 := u2.made
  have hl2 := u2.high
  have hDx2 : ∀ y ∈ D, isL y (xorG g1 A C).2.len = true := fun y hy => u2.isL (hDx1 y hy)
  clear u2 hm1 hDx1 la1 lb1 lc1
  generalize xorG g1 A C = R2 at *
  obtain ⟨r2, g2⟩ := R2
  simp only at HO2 HX2 l2 la2 lb2 lc2 hn2' hbd2 hm2 hl2 hDx2
  go_wp2_with fail
  refine HO2.out.mono ?_
  rintro e w5 ⟨rfl, hP5, hf5⟩
  have hf05 := frm_kept hf04 hf5 (fun k hk => by omega)
  go_wp2_with fail
  refine (HX2.out _ hP5).mono ?_
  rintro e w6 ⟨rfl, hP6, hf6⟩
  have hf06 := frm_kept hf05 hf6 (fun k hk => by omega)
  clear HO2 HX2 hP4 hP5 hf04 hf05 hf5 hf6
  -- mux
  have u3 := mux_up hm2 la2 lb2 lc2 (by omega)
  have HO3 := Lib.hid (pr_call hP6 (fun K' _ hO => on_mux hO A B C la2 lb2 lc2 (by omega)))
  have HX3 := Lib.hid (fun (W : World) (hP : Pr E0 (fun k => k < w1.heap.size) W gb (muxG g2 A B C).2 gx g2) => pr_callX hP (fun K' _ hO => onx_mux hO A B C la2 lb2 lc2 (by omega)))
  obtain ⟨u3, l3⟩ := u3
  have hn3' := u3.num
  have hbd3 := u3.bad
  have hm3 := u3.made
  have hl3 := u3.high
  have hDx3 : ∀ y ∈ D, isL y (muxG g2 A B C).2.len = true := fun y hy => u3.isL (hDx2 y hy)
  clear u3 hm2 hDx2 la2 lb2 lc2
  generalize muxG g2 A B C = R3 at *
  obtain ⟨r3, g3⟩ := R3
  simp only at HO3 HX3 l3 hn3' hbd3 hm3 hl3 hDx3
  go_wp2_with fail
  refine HO3.out.mono ?_
  rintro e w7 ⟨rfl, hP7, hf7⟩
  have hf07 := frm_kept hf06 hf7 (fun k hk => by omega)
  go_wp2_with fail
  refine (HX3.out _ hP7).mono ?_
  rintro e w8 ⟨rfl, hP8, hf8⟩
  have hf08 := frm_kept hf07 hf8 (fun k hk => by omega)
  clear HO3 HX3 hP6 hP7 hf06 hf07 hf7 hf8
  have hn3 : g3.n = n := by rw [hn3', hn2', hn1', p1]
  have hb3 : g3.bad = 0 := by rw [hbd3, hbd2, hbd1, p2]
  have hl03 : g3.len ≤ 67 := by omega
  clear hn3' hn2' hn1' hbd3 hbd2 hbd1 hl1 hl2 hl3 l1 l2 l3 p1 p2 hgl
  have HB3 := Lib.hid hb3
  have HN3 := Lib.hid hn3
  clear hb3 hn3
  have hs8 := hf08.size
  go_wp2_with fail
  go_loopw [19, 20] (fun tv iv wr => ∃ (j : Nat) (Ap : Option Addr) (cp : Nat), j ≤ len1 ∧ iv = .int .i64 j ∧ tv = .slice Ap j cp ∧ wr.ownsRow w8.heap.size 3 1 (.slice Ap j cp) j ((D.map (.int .i64)).take j) ∧ Frm (fun _ => False) w8 wr) (fun _ iv _ => len1 - (intOf iv).toNat)
  case atStart => exact ⟨0, none, 0, by omega, rfl, rfl, by simpa using World.ownsRow_nil _ _ _ _, Frm.refl _ _⟩
  case round =>
    obtain ⟨j, Ap, cp, hj, rfl, rfl, hown, hfk⟩ := hrel
    by_cases hlt : j < len1
    · obtain ⟨bk, o, u, rfl, _, hu, hcell⟩ := (s1.frm (hf08.trans hfk) (fun _ _ => id)).at_ hlt
      obtain rfl := at_getD hu
      have hdk := HDK.out j hlt
      have HDD := Lib.hid hdk
      clear hu hdk
      generalize z1.getD j 0 = y at *
      have k0 : (0 : Int) ≤ j := by omega
      have k1 : (j : Int) < len1 := by omega
      have hsk := hfk.size
      go_wp2_with fail
      refine (HN.out y _).mono ?_
      rintro e w' ⟨rfl, rfl⟩
      generalize y % T = X at *
      go_wp2_with (at_builtin; refine wpList_append_own _ rfl (.tmp 107) (.tmp 114) 22 rfl w8.heap.size 3 i0 (.int .i64 0) 1 8 Tryd.underlying22 hi0 hq0 hq1 hq2 rfl (by decide) _ _ _ rfl (hown.alloc (.cells #[.int .i64 X] 3)) ⟨wr.heap.size, 0, none⟩ 1 1 [.int .i64 X] rfl rfl (cell_one_new _ _ _) ?c2 ?c3 ?c4 ?c5 ?_)
      case c2 => intro u hu; simp at hu; subst hu; rfl
      case c3 => unfold maxLen; omega
      case c4 => omega
      case c5 => simp; omega
      intro v' w9 hown9 hgrow _
      have hfk9 : Frm (fun _ => False) w8 w9 := (hfk.alloc (.cells #[.int .i64 X] 3)).grown hgrow (fun g hg hlt => by have := (hown.lt g hg).1; omega)
      obtain ⟨A3, c3, rfl, hownN⟩ := own_nextD (D := D) HDD.out hown9
      clear hown hown9 hgrow hcell hfk
      go_wp2_with fail
      go_roundw
      case rel => exact ⟨j + 1, A3, c3, by omega, by go_num, rfl, hownN, hfk9⟩
      case measure => simp [intOf]; omega
    · obtain rfl : len1 = j := by omega
      rw [List.take_of_length_le (by rw [List.length_map, HDL.out]; omega)] at hown
      have hsl := own_sl hown
      have hP9 := Pr.wide (K' := fun k => k < w1.heap.size ∨ (w8.heap.size ≤ k ∧ k < wr.heap.size)) hP8 hfk (fun k hk => hk)
      have hf09 := hf08.trans hfk
      clear hP8 hown hf08
      -- all
      have hdl := HDL.out
      have u4 := all_up hm3 hDx3 (by omega)
      have HO4 := Lib.hid (pr_call hP9 (fun K' hK hO => on_all hO Ap len1 cp _ D HDL.out hsl (fun k hk => hK k (.inr hk)) hDx3 (by omega)))
      have HX4 := Lib.hid (fun (W : World) (hf : Frm (fun k => ¬ (k < w1.heap.size ∨ (w8.heap.size ≤ k ∧ k < wr.heap.size))) wr W) (hP : Pr E0 (fun k => k < w1.heap.size ∨ (w8.heap.size ≤ k ∧ k < wr.heap.size)) W gb (allG g3 D).2 gx g3) => pr_callX hP (fun K' hK hO => onx_all hO Ap len1 cp _ D HDL.out (hsl.frm hf (fun k hk h => h (.inr hk))) (fun k hk => hK k (.inr hk)) hDx3 (by omega)))
      obtain ⟨u4, l4⟩ := u4
      have hn4 := u4.num
      have hbd4 := u4.bad
      have hm4 := u4.made
      have hl4 := u4.high
      have hDx4 : ∀ y ∈ D, isL y (allG g3 D).2.len = true := fun y hy => u4.isL (hDx3 y hy)
      clear u4 hm3 hDx3 l4
      generalize allG g3 D = R4 at *
      obtain ⟨r4, g4⟩ := R4
      simp only at HO4 HX4 hn4 hbd4 hm4 hl4 hDx4
      go_wp2_with fail
      refine HO4.out.mono ?_
      rintro e w10 ⟨rfl, hP10, hf10⟩
      have hf010 := frm_kept hf09 hf10 (fun k hk => .inl (by omega))
      go_wp2_with fail
      refine (HX4.out _ hf10 hP10).mono ?_
      rintro e w11 ⟨rfl, hP11, hf11⟩
      have hf011 := frm_kept hf010 hf11 (fun k hk => .inl (by omega))
      have hf911 := hf10.trans hf11
      clear HO4 HX4 hP9 hP10 hf10 hf11 hf010 hf09
      have hsl11 := hsl.frm hf911 (fun k hk h => h (.inr hk))
      -- any
      have u5 := any_up hm4 hDx4 (by omega)
      have HO5 := Lib.hid (pr_call hP11 (fun K' hK hO => on_any hO Ap len1 cp _ D HDL.out hsl11 (fun k hk => hK k (.inr hk)) hDx4 (by omega)))
      have HX5 := Lib.hid (fun (W : World) (hf : Frm (fun k => ¬ (k < w1.heap.size ∨ (w8.heap.size ≤ k ∧ k < wr.heap.size))) w11 W) (hP : Pr E0 (fun k => k < w1.heap.size ∨ (w8.heap.size ≤ k ∧ k < wr.heap.size)) W gb (anyG g4 D).2 gx g4) => pr_callX hP (fun K' hK hO => onx_any hO Ap len1 cp _ D HDL.out (hsl11.frm hf (fun k hk h => h (.inr hk))) hDx4 (by omega)))
      obtain ⟨u5, l5⟩ := u5
      have hn5 := u5.num
      have hbd5 := u5.bad
      have hm5 := u5.made
      have hl5 := u5.high
      clear u5 hm4 hDx4 l5
      generalize anyG g4 D = R5 at *
      obtain ⟨r5, g5⟩ := R5
      simp only at HO5 HX5 hn5 hbd5 hm5 hl5
      go_wp2_with fail
      refine HO5.out.mono ?_
      rintro e w12 ⟨rfl, hP12, hf12⟩
      have hf012 := frm_kept hf011 hf12 (fun k hk => .inl (by omega))
      go_wp2_with fail
      refine (HX5.out _ hf12 hP12).mono ?_
      rintro e w13 ⟨rfl, hP13, hf13⟩
      have hf013 := frm_kept hf012 hf13 (fun k hk => .inl (by omega))
      clear HO5 HX5 hP11 hP12 hf12 hf13 hf011 hf012 hsl hsl11 hf911
      have hn5' : g5.n = n := by rw [hn5, hn4, HN3.out]
      have hb5' : g5.bad = 0 := by rw [hbd5, hbd4, HB3.out]
      have hl05 : g5.len ≤ 127 := by omega
      clear hn5 hn4 hbd5 hbd4 hl5 hl4
      -- clauses
      go_wp2_with fail
      refine (HMK.out w13 hf013).mono ?_
      rintro e w14 ⟨v, rfl, hR, hf14⟩
      have hf014 := hf013.trans hf14
      obtain ⟨Ac, cc, rfl, _⟩ := hR.form
      have hR14 : Rw w14 (fun k => w13.heap.size ≤ k ∧ k < w14.heap.size) (.slice Ac cs.length cc) cs.length cs := hR.rw.mono (fun k hk h => ⟨h, hk⟩)
      have hP14 := Pr.wide (K' := fun k => k < w1.heap.size ∨ (w13.heap.size ≤ k ∧ k < w14.heap.size)) hP13 hf14 (fun k hk => by rcases hk with h | h; exact .inl (.inl h); exact .inr h)
      have hsum := HSU.out
      have hcx : ∀ c ∈ cs, ∀ x ∈ c, OkLit g5.n x := by rw [hn5']; exact fun c hc => (HOK.out c hc).2.2
      have hc5 : ∀ c ∈ cs, c.length ≤ 5 := fun c hc => (HOK.out c hc).1
      have hroom : g5.len + (cs.map List.length).sum + cs.length ≤ 8000 := by omega
      have hup := clG_up hm5 hcx hroom
      have HO6 := Lib.hid (pr_call hP14 (fun K' hK hO => gclauses_any hO Ac cs.length cc _ cs hR14 (fun k hk => hK k (.inr hk)) hm5 hcx hc5 hroom (by omega)))
      have HX6 := Lib.hid (fun (W : World) (hf : Frm (fun k => ¬ (k < w1.heap.size ∨ (w13.heap.size ≤ k ∧ k < w14.heap.size))) w14 W) (hP : Pr E0 (fun k => k < w1.heap.size ∨ (w13.heap.size ≤ k ∧ k < w14.heap.size)) W gb (clG g5 cs).2 gx g5) => pr_callX hP (fun K' hK hO => xclauses_any hO Ac cs.length cc _ cs (hR14.frm hf (fun k hk h => h (.inr hk))) (fun k hk => hK k (.inr hk)) hm5 hcx hc5 hroom (by omega)))
      have hn6 : (clG g5 cs).2.n = n := hup.1.num.trans hn5'
      have hb6 : (clG g5 cs).2.bad = 0 := hup.1.bad.trans hb5'
      have hl6 := hup.1.high
      clear hup hm5 hn5' hb5' hR hP13 hf14 hf013 HMK hcx hc5
      generalize clG g5 cs = R6 at *
      obtain ⟨r6, g6⟩ := R6
      simp only at HO6 HX6 hn6 hb6 hl6
      go_wp2_with fail
      refine HO6.out.mono ?_
      rintro e w15 ⟨rfl, hP15, hf15⟩
      have hf015 := frm_kept hf014 hf15 (fun k hk => .inl (by omega))
      go_wp2_with fail
      refine (HX6.out _ hf15 hP15).mono ?_
      rintro e w16 ⟨rfl, hP16, hf16⟩
      have hf016 := frm_kept hf015 hf16 (fun k hk => .inl (by omega))
      clear HO6 HX6 hP14 hP15 hf15 hf16 hf014 hf015 hR14
      have ha6 : g6.ands.length ≤ 1000 := by have h9 : g6.len = g6.n + g6.ands.length := rfl; omega
      go_wp2_with fail
      refine (on_circuit hP16.on none 0 0 (fun _ => False) [] rfl (by omega) (Sl.nil_ _ _ _)).mono ?_
      rintro e w17 ⟨v17, rfl, hC17, hf17⟩
      have hP17 := hP16.frm hf17
      go_wp2_with fail
      refine (onx_circuit hP17.onx none 0 0 (fun _ => False) [] rfl (by omega) (Sl.nil_ _ _ _)).mono ?_
      rintro e w18 ⟨v18, rfl, hC18, hf18⟩
      have hP18 := hP17.frm hf18
      have HSC := Lib.hid (sameCircuit_any (by omega) (by simp) (hC17.frm hf18 (fun _ _ => id)) hC18)
      have hf018 := (hf016.trans hf17).trans hf18
      clear hP16 hP17 hC17 hC18 hf016 hf17 hf18
      go_wp2_with fail
      refine HSC.out.mono ?_
      rintro e w19 ⟨rfl, hf19⟩
      obtain ⟨fp, hG, _⟩ := (hP18.frm hf19).on
      have HER := Lib.hid (err_any E0 fp gb g6 w19 hG .nilIface (by rw [hb6]; rfl))
      have hf019 := hf018.trans hf19
      clear hP18 hG HSC
      go_wp2_with fail
      refine HER.out.mono ?_
      rintro e w' ⟨rfl, rfl⟩
      go_wp2_with fail
      go_ret
      exact ⟨ret_bool (by simp), hf019⟩

set_option maxRecDepth 100000 in
set_option maxHeartbeats 8000000 in
theorem gsl_out (i : Int) (a0 : Option Addr) (len0 cap0 : Nat) (a b c : Int) (a1 : Option Addr) (len1 cap1 : Nat) (a2 : Option Addr) (len2 cap2 : Nat) (w : World)
    (h : ¬ (len0 ≤ 80 ∧ len1 ≤ 30 ∧ len2 ≤ 60 ∧ 1 ≤ i ∧ i ≤ 20)) :
    Calls Tryd.prog 17 #[.int .i64 i, .slice a0 len0 cap0, .int .i64 a, .int .i64 b, .int .i64 c, .slice a1 len1 cap1, .slice a2 len2 cap2] w fun e w' => e = .returned (.bool true) ∧ Frm (fun _ => False) w w' := by
  have HN := Lib.hid h
  clear h
  by_cases g0 : (80 : Int) < len0
  · skip
    go_enter Tryd.func17, Tryd.ntmps17
    go_wp2_with fail
    refine (first9_any _).mono ?_
    rintro e w1 ⟨rfl, hf1⟩
    go_wp2_with fail
    go_ret
    exact ⟨rfl, hf1⟩
  · skip
    by_cases g1 : (30 : Int) < len1
    · skip
      go_enter Tryd.func17, Tryd.ntmps17
      go_wp2_with fail
      refine (first9_any _).mono ?_
      rintro e w1 ⟨rfl, hf1⟩
      go_wp2_with fail
      go_ret
      exact ⟨rfl, hf1⟩
    · skip
      by_cases g2 : (60 : Int) < len2
      · skip
        go_enter Tryd.func17, Tryd.ntmps17
        go_wp2_with fail
        refine (first9_any _).mono ?_
        rintro e w1 ⟨rfl, hf1⟩
        go_wp2_with fail
        go_ret
        exact ⟨rfl, hf1⟩
      · skip
        by_cases g3 : i < 1
        · skip
          go_enter Tryd.func17, Tryd.ntmps17
          go_wp2_with fail
          refine (first9_any _).mono ?_
          rintro e w1 ⟨rfl, hf1⟩
          go_wp2_with fail
          go_ret
          exact ⟨rfl, hf1⟩
        · skip
          have g4 : 20 < i := by have := HN.out; omega
          go_enter Tryd.func17, Tryd.ntmps17
          go_wp2_with fail
          refine (first9_any _).mono ?_
          rintro e w1 ⟨rfl, hf1⟩
          go_wp2_with fail
          go_ret
          exact ⟨rfl, hf1⟩

theorem gsl_law (i : Int) (_ : (Lit.int .i64 i).wf = true)
    (a0 : Option Addr) (len0 cap0 : Nat) (z0 : List Int) (hz0 : z0.length = len0) {w0 : World} (s0 : Sl w0 (fun k => k < w0.heap.size) 1 (.slice a0 len0 cap0) len0 (z0.map (.int .i64))) (_ : ∀ n ∈ z0, (Lit.int .i64 n).wf = true)
    (a : Int) (_ : (Lit.int .i64 a).wf = true) (b : Int) (_ : (Lit.int .i64 b).wf = true) (c : Int) (_ : (Lit.int .i64 c).wf = true)
    (a1 : Option Addr) (len1 cap1 : Nat) (z1 : List Int) (hz1 : z1.length = len1) (s1 : Sl w0 (fun k => k < w0.heap.size) 1 (.slice a1 len1 cap1) len1 (z1.map (.int .i64))) (_ : ∀ n ∈ z1, (Lit.int .i64 n).wf = true)
    (a2 : Option Addr) (len2 cap2 : Nat) (z2 : List Int) (hz2 : z2.length = len2) (s2 : Sl w0 (fun k => k < w0.heap.size) 1 (.slice a2 len2 cap2) len2 (z2.map (.int .i64))) (_ : ∀ n ∈ z2, (Lit.int .i64 n).wf = true)
    (w : World) (e : w = w0) :
    Calls Tryd.prog 17 #[.int .i64 i, .slice a0 len0 cap0, .int .i64 a, .int .i64 b, .int .i64 c, .slice a1 len1 cap1, .slice a2 len2 cap2] w fun e w' => e = .returned (.bool true) ∧ Frm (fun _ => False) w w' := by
  subst e
  by_cases h : len0 ≤ 80 ∧ len1 ≤ 30 ∧ len2 ≤ 60 ∧ 1 ≤ i ∧ i ≤ 20
  · obtain ⟨n, rfl⟩ : ∃ n : Nat, i = n := ⟨i.toNat, by omega⟩
    exact gsl_any n a0 len0 cap0 z0 hz0 a b c a1 len1 cap1 z1 hz1 a2 len2 cap2 z2 hz2 w s0 s1 s2 h.1 h.2.1 h.2.2.1 (by omega) (by omega)
  · exact gsl_out i a0 len0 cap0 a b c a1 len1 cap1 a2 len2 cap2 w h

end Go.Proofs.YtkjlgamggkencaaDoor
