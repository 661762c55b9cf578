/-
  The walk of GateWorth.
-/
import Derived.Test.YtkjlgamggkencaaDoorLaw9
import Derived.Test.YtkjlgamggkencaaDoorGateWorthP
import Derived.Test.YtkjlgamggkencaaDoorRegion
namespace Go.Proofs.YtkjlgamggkencaaDoor
open Go.RowKit

theorem emod22 (x : Int) : 0 ≤ x % 22 ∧ x % 22 ≤ 21 := by omega

set_option maxRecDepth 100000 in
set_option maxHeartbeats 16000000 in
theorem gworth_any (n a b c : Int) (a0 : Option Addr) (len0 cap0 : Nat) (z0 : List Int) (hz0 : z0.length = len0) (w : World)
    (s0 : Sl w (fun k => k < w.heap.size) 1 (.slice a0 len0 cap0) len0 (z0.map (.int .i64))) (h0 : len0 ≤ 20) :
    Calls Tryd.prog 8 #[.int .i64 n, .int .i64 a, .int .i64 b, .int .i64 c, .slice a0 len0 cap0] w fun e w' => e = .returned (.bool true) ∧ Frm (fun _ => False) w w' := by
  have t0 : decide ((20 : Int) < (len0 : Int)) = false := by simp; omega
  have HZ := Lib.hid hz0
  obtain ⟨P, hP⟩ : ∃ P : List Int, P = z0.map (· % 22) := ⟨_, rfl⟩
  have hPl : P.length = len0 := by rw [hP, List.length_map, hz0]
  have hPx : ∀ x ∈ P, 0 ≤ x ∧ x ≤ 21 := by intro x hx; rw [hP] at hx; obtain ⟨y, _, rfl⟩ := List.mem_map.1 hx; exact emod22 y
  have hPk : ∀ k, k < len0 → P.getD k 0 = z0.getD k 0 % 22 := by intro k hk; rw [hP]; simp [List.getD, show k < z0.length by omega]
  have HPL := Lib.hid hPl
  have HPX := Lib.hid hPx
  have HPK := Lib.hid hPk
  clear hz0 hP hPl hPx hPk
  obtain ⟨j0, hj0, hq0, hq1, hq2⟩ := info_parts infoIntG
  go_enter Tryd.func8, Tryd.ntmps8
  go_wp2_with fail
  refine (first9_any w).mono ?_
  rintro e w1 ⟨rfl, hf1⟩
  go_wp2_with fail
  refine (on_new E0 rfl 10 w1).mono ?_
  rintro e w2 ⟨gb, rfl, hO2, hf2⟩
  rw [show clamp 10 = 10 from by decide +kernel] at hO2
  go_wp2_with fail
  refine (values_any n 10 (by omega) w2).mono ?_
  rintro e w3 ⟨Ai, ci, rfl, hown, hf3⟩
  have hO3 := On.wide (K' := fun k => k < w1.heap.size ∨ (w2.heap.size ≤ k ∧ k < w3.heap.size)) hO2 hf3 (fun k hk => hk)
  have hin := own_sl hown
  have hinl := mkVals_length n 10
  have hf03 := (hf1.trans hf2).trans hf3
  have hz1 := hf1.size
  clear hO2 hown hf1 hf2
  generalize mkVals n 10 = inp at *
  go_wp2_with fail
  refine (number_any a 22 _ (by omega) (by omega)).mono ?_
  rintro e w' ⟨rfl, rfl⟩
  go_wp2_with fail
  refine (number_any b 22 _ (by omega) (by omega)).mono ?_
  rintro e w' ⟨rfl, rfl⟩
  go_wp2_with fail
  refine (number_any c 22 _ (by omega) (by omega)).mono ?_
  rintro e w' ⟨rfl, rfl⟩
  have ha := emod22 a
  have hb := emod22 b
  have hc := emod22 c
  have HF := Lib.hid (gw_facts inp (a % 22) (b % 22) (c % 22) P ha hb hc HPX.out (by rw [HPL.out]; exact h0))
  generalize a % 22 = A at *
  generalize b % 22 = B at *
  generalize c % 22 = C at *
  go_wp2_with fail
  refine (on_or hO3 A B (by rw [isL_iff]; show 0 ≤ A ∧ A ≤ 2 * ((10 : Nat) : Int) + 1; omega) (by rw [isL_iff]; show 0 ≤ B ∧ B ≤ 2 * ((10 : Nat) : Int) + 1; omega) (by show 10 + 0 < 8000; omega)).mono ?_
  rintro e w4 ⟨rfl, hO4, hf4⟩
  change On E0 _ w4 gb (gw1 A B).2 at hO4
  have e1 : (orG ⟨10, [], 0⟩ A B).1 = (gw1 A B).1 := rfl
  rw [e1]
  clear e1 hO3
  go_wp2_with fail
  refine (on_xor hO4 A B HF.out.a1.1 HF.out.a1.2 (by have := HF.out.s1; omega)).mono ?_
  rintro e w5 ⟨rfl, hO5, hf5⟩
  change On E0 _ w5 gb (gw2 A B).2 at hO5
  have e1 : (xorG (gw1 A B).2 A B).1 = (gw2 A B).1 := rfl
  rw [e1]
  clear e1 hO4
  go_wp2_with fail
  refine (on_mux hO5 A B C HF.out.a2.1 HF.out.a2.2.1 HF.out.a2.2.2 (by have := HF.out.s2; omega)).mono ?_
  rintro e w6 ⟨rfl, hO6, hf6⟩
  change On E0 _ w6 gb (gw3 A B C).2 at hO6
  have e1 : (muxG (gw2 A B).2 A B C).1 = (gw3 A B C).1 := rfl
  rw [e1]
  have hf46 := (hf4.trans hf5).trans hf6
  have hz6 := hf46.size
  have hf06 := frm_kept hf03 hf46 (fun k hk => .inl (by omega))
  have hin6 := hin.frm hf46 (fun k hk h => h (.inr hk))
  clear e1 hO5 hf4 hf5 hf6 hf46 hin
  go_wp2_with fail
  go_loopw [17, 18, 19, 20] (fun p al an i wr => ∃ (k : Nat) (A' : Option Addr) (c' : Nat), k ≤ len0 ∧ i = .int .i64 k ∧ p = .slice A' k c' ∧ al = .bool (((P.take k)).all (worth (valsN 10 inp))) ∧ an = .bool (((P.take k)).any (worth (valsN 10 inp))) ∧
    wr.ownsRow w6.heap.size 3 1 (.slice A' k c') k ((P.map (.int .i64)).take k) ∧ Frm (fun _ => False) w6 wr) (fun _ _ _ i _ => len0 - (intOf i).toNat)
  case atStart => exact ⟨0, _, 0, by omega, rfl, rfl, rfl, rfl, by simpa using World.ownsRow_nil _ _ _ _, Frm.refl _ _⟩
  case round =>
    obtain ⟨k, A', c', hk, rfl, rfl, rfl, rfl, hown, hfk⟩ := hrel
    have hink := hin6.frm hfk (fun _ _ => id)
    by_cases hlt : k < len0
    · have hlt2 : k < z0.length := by rw [HZ.out]; exact hlt
      obtain ⟨bk, o, u, rfl, _, hu, hcell⟩ := (s0.frm (hf06.trans hfk) (fun _ _ => id)).at_ hlt
      obtain rfl := at_getD hu
      have hx := emod22 (z0.getD k 0)
      have hgx := HPK.out k hlt
      have hlt3 : k < P.length := by rw [HPL.out]; exact hlt
      have hts : P.take (k + 1) = P.take k ++ [z0.getD k 0 % 22] := by rw [← hgx, List.take_succ_eq_append_getElem hlt3]; simp [List.getD, hlt3]
      have hk0 : (0 : Int) ≤ k := by omega
      have hk1 : (k : Int) < len0 := by omega
      have HG := Lib.hid hgx
      have HT := Lib.hid hts
      clear hu hgx hts
      generalize z0.getD k 0 = y at *
      go_wp2_with fail
      refine (number_any y 22 _ (by omega) (by omega)).mono ?_
      rintro e w' ⟨rfl, rfl⟩
      generalize y % 22 = X at *
      have HI := Lib.hid (fun W (h : Frm (fun g => w6.heap.size ≤ g) wr W) => is9_any Ai 10 ci _ inp X W hinl hx.1 (by omega) (by omega) (hink.frm h (fun g hg h => by omega)))
      go_wp2_with (at_builtin; refine wpList_append_own _ rfl (.tmp 68) (.tmp 70) 22 rfl w6.heap.size 3 j0 (.int .i64 0) 1 8 Tryd.underlying22 hj0 hq0 hq1 hq2 rfl (by decide) _ _ _ rfl (hown.alloc (.cells #[.int .i64 X] 3)) ⟨wr.heap.size, 0, none⟩ 1 1 [.int .i64 X] rfl rfl (cell_one_new _ _ _) ?c2 ?c3 ?c4 ?c5 ?_)
      case c2 => intro u hu; simp at hu; subst hu; rfl
      case c3 => unfold maxLen; omega
      case c4 => omega
      case c5 => have := hfk.size; simp; omega
      intro v' w7 hown7 hgrow _
      have hgr : Frm (fun g => w6.heap.size ≤ g) wr w7 := (((Frm.refl (fun g => w6.heap.size ≤ g) wr).alloc (.cells #[.int .i64 X] 3)).grown hgrow (fun g hg hlt => (hown.lt g hg).1))
      have hfk2 : Frm (fun _ => False) w6 w7 := hfk.then' hgr (fun g hg h => by omega)
      obtain ⟨A2, c2, rfl, hown8⟩ := own_step (f := fun n => .int .i64 n) (l := P) hlt3 (by rw [HG.out]) hown7
      clear hown hown7 hgrow hcell hfk hink
      generalize hal : (P.take k).all (worth (valsN 10 inp)) = al at *
      generalize han : (P.take k).any (worth (valsN 10 inp)) = an at *
      have HAL := Lib.hid hal
      have HAN := Lib.hid han
      clear hal han
      cases al <;> cases an
      · go_wp2_with fail
        refine (HI.out _ hgr).mono ?_
        rintro e w' ⟨rfl, rfl⟩
        go_wp2_with fail
        go_roundw
        case rel => exact ⟨k + 1, A2, c2, by omega, by go_num, rfl, by rw [HT.out, List.all_append, HAL.out]; simp, by rw [HT.out, List.any_append, HAN.out]; simp, hown8, hfk2⟩
        case measure => simp [intOf]; omega
      · go_wp2_with fail
        go_roundw
        case rel => exact ⟨k + 1, A2, c2, by omega, by go_num, rfl, by rw [HT.out, List.all_append, HAL.out]; simp, by rw [HT.out, List.any_append, HAN.out]; simp, hown8, hfk2⟩
        case measure => simp [intOf]; omega
      · go_wp2_with fail
        refine (HI.out _ hgr).mono ?_
        rintro e w' ⟨rfl, rfl⟩
        go_wp2_with fail
        refine (HI.out _ hgr).mono ?_
        rintro e w' ⟨rfl, rfl⟩
        go_wp2_with fail
        go_roundw
        case rel => exact ⟨k + 1, A2, c2, by omega, by go_num, rfl, by rw [HT.out, List.all_append, HAL.out]; simp, by rw [HT.out, List.any_append, HAN.out]; simp, hown8, hfk2⟩
        case measure => simp [intOf]; omega
      · go_wp2_with fail
        refine (HI.out _ hgr).mono ?_
        rintro e w' ⟨rfl, rfl⟩
        go_wp2_with fail
        go_roundw
        case rel => exact ⟨k + 1, A2, c2, by omega, by go_num, rfl, by rw [HT.out, List.all_append, HAL.out]; simp, by rw [HT.out, List.any_append, HAN.out]; simp, hown8, hfk2⟩
        case measure => simp [intOf]; omega
    · obtain rfl : len0 = k := by omega
      have ht : P.take len0 = P := List.take_of_length_le (by rw [HPL.out]; exact Nat.le_refl _)
      rw [List.take_of_length_le (by simp [HPL.out])] at hown
      rw [ht]
      clear ht
      have hps := own_sl hown
      have hO7 := On.wide (K' := fun k => (k < w1.heap.size ∨ (w2.heap.size ≤ k ∧ k < w3.heap.size)) ∨ (w6.heap.size ≤ k ∧ k < wr.heap.size)) hO6 hfk (fun k hk => hk)
      have hf07 := hf06.trans hfk
      clear hO6 hown hf06 hin6 s0
      have hz7 := hfk.size
      have HA := Lib.hid (on_all hO7 A' len0 c' _ P HPL.out hps (fun k hk => .inr hk) HF.out.a3 (by have := HF.out.s3; omega))
      go_wp2_with fail
      refine HA.out.mono ?_
      rintro e w8 ⟨rfl, hO8, hf8⟩
      change On E0 _ w8 gb (gw4 A B C P).2 at hO8
      have e1 : (allG (gw3 A B C).2 P).1 = (gw4 A B C P).1 := rfl
      rw [e1]
      clear e1 HA
      have HA := Lib.hid (on_any hO8 A' len0 c' _ P HPL.out (hps.frm hf8 (fun k hk h => h (.inr hk))) (fun k hk => .inr hk) HF.out.a4 (by have := HF.out.s4; omega))
      go_wp2_with fail
      refine HA.out.mono ?_
      rintro e w9 ⟨rfl, hO9, hf9⟩
      change On E0 _ w9 gb (gw5 A B C P).2 at hO9
      have e1 : (anyG (gw4 A B C P).2 P).1 = (gw5 A B C P).1 := rfl
      rw [e1]
      clear e1 HA
      have hink2 := (hink.frm hf8 (fun k hk h => h (.inl (.inr hk)))).frm hf9 (fun k hk h => h (.inl (.inr hk)))
      have hf09 := frm_kept (frm_kept hf07 hf8 (fun k hk => .inl (.inl (by omega)))) hf9 (fun k hk => .inl (.inl (by omega)))
      go_wp2_with fail
      have hfa := (Frm.refl (fun _ => False) w9).alloc (.cells #[.int .i64 (gw1 A B).1, .int .i64 (gw2 A B).1, .int .i64 (gw3 A B C).1, .int .i64 (gw4 A B C P).1, .int .i64 (gw5 A B C P).1] 3)
      have hOa := hO9.frm hfa
      have hsl := (Blk.new w9 3 [.int .i64 (gw1 A B).1, .int .i64 (gw2 A B).1, .int .i64 (gw3 A B C).1, .int .i64 (gw4 A B C P).1, .int .i64 (gw5 A B C P).1]).sl 1 5 rfl
      have hlen5 := HF.out.s5
      have hnum5 := HF.out.n5
      have hsz5 : 10 + (gw5 A B C P).2.ands.length ≤ 57 := by have : (gw5 A B C P).2.n + (gw5 A B C P).2.ands.length ≤ 57 := hlen5; omega
      refine (on_circuit hOa (some ⟨w9.heap.size, 0, none⟩) 5 5 _ [(gw1 A B).1, (gw2 A B).1, (gw3 A B C).1, (gw4 A B C P).1, (gw5 A B C P).1] rfl (by omega) hsl).mono ?_
      rw [hnum5]
      rintro e w10 ⟨v, rfl, hC, hf10⟩
      have hf0x := (hf09.trans hfa).trans hf10
      have hinx := ((hink2.frm hfa (fun _ _ => id)).frm hf10 (fun _ _ => id))
      have HE := Lib.hid (reval_isC hC Ai 10 ci inp hinl HF.out.right (by omega) (by omega) (by simp) HF.out.lits hinx)
      clear hO9 hOa hsl hC hfa hf10 hink hink2 hf8 hf9 hps hf07 hO7 hO8
      go_wp2_with fail
      refine HE.out.mono ?_
      rw [HF.out.eval]
      rintro e w11 ⟨A5, c5, rfl, hown5, hf11⟩
      have hf11' := hf0x.trans hf11
      have hin11 := hinx.frm hf11 (fun _ _ => id)
      have hV := own_sl hown5
      clear HE hown5 hf0x hinx hf11
      have HI := Lib.hid (fun (X : Int) (W : World) (hX : 0 ≤ X ∧ X ≤ 21) (h : Frm (fun _ => False) w11 W) => is9_any Ai 10 ci _ inp X W hinl hX.1 (by omega) (by omega) (hin11.frm h (fun _ _ => id)))
      obtain ⟨b5, o5, u0, rfl, _, hu0, hc0⟩ := hV.at_ (k := 0) (by simp)
      obtain ⟨b5', o5', u1, e', _, hu1, hc1⟩ := hV.at_ (k := 1) (by simp)
      cases e'
      obtain ⟨b5', o5', u2, e', _, hu2, hc2⟩ := hV.at_ (k := 2) (by simp)
      cases e'
      obtain ⟨b5', o5', u3, e', _, hu3, hc3⟩ := hV.at_ (k := 3) (by simp)
      cases e'
      obtain ⟨b5', o5', u4, e', _, hu4, hc4⟩ := hV.at_ (k := 4) (by simp)
      cases e'
      simp only [List.map_cons, List.map_nil, List.getElem?_cons_zero, List.getElem?_cons_succ, Option.some.injEq] at hu0 hu1 hu2 hu3 hu4
      subst hu0 hu1 hu2 hu3 hu4
      have IA := Lib.hid (fun W h => HI.out A W ha h)
      have IB := Lib.hid (fun W h => HI.out B W hb h)
      have IC := Lib.hid (fun W h => HI.out C W hc h)
      clear HI hV hin11 HF
      generalize worth (valsN 10 inp) A = x at *
      generalize worth (valsN 10 inp) B = y at *
      generalize worth (valsN 10 inp) C = z at *
      generalize P.all (worth (valsN 10 inp)) = al at *
      generalize P.any (worth (valsN 10 inp)) = an at *
      go_wp2_with fail
      refine (IC.out _ (Frm.refl _ _)).mono ?_
      rintro e w' ⟨rfl, rfl⟩
      rw [Nat.add_zero] at hc0
      clear HPL HPX HPK HZ hlen5 hnum5 hsz5 hz7 hz6 hz1 hinl ha hb hc hj0 hq0 hq1 hq2 hf3
      cases x
      · replace hc0 : w11.cell? ⟨b5, o5, none⟩ = some (.bool y) := by simpa using hc0
        replace hc1 : w11.cell? ⟨b5, o5 + 1, none⟩ = some (.bool y) := by simpa using hc1
        replace hc2 : w11.cell? ⟨b5, o5 + 2, none⟩ = some (.bool z) := by simpa using hc2
        go_wp2_with fail
        refine (IA.out _ (Frm.refl _ _)).mono ?_
        rintro e w' ⟨rfl, rfl⟩
        go_wp2_with fail
        have hH0 : w11.drew.cell? ⟨b5, o5, none⟩ = some (.bool y) ∧ w11.drew.cell? ⟨b5, o5 + 1, none⟩ = some (.bool y) ∧ w11.drew.cell? ⟨b5, o5 + 2, none⟩ = some (.bool z) ∧ w11.drew.cell? ⟨b5, o5 + 3, none⟩ = some (.bool al) ∧ w11.drew.cell? ⟨b5, o5 + 4, none⟩ = some (.bool an) := ⟨hc0, hc1, hc2, hc3, hc4⟩
        have hHeld := hH0
        refine Held.begin (fun w' => w'.cell? ⟨b5, o5, none⟩ = some (.bool y) ∧ w'.cell? ⟨b5, o5 + 1, none⟩ = some (.bool y) ∧ w'.cell? ⟨b5, o5 + 2, none⟩ = some (.bool z) ∧ w'.cell? ⟨b5, o5 + 3, none⟩ = some (.bool al) ∧ w'.cell? ⟨b5, o5 + 4, none⟩ = some (.bool an)) 55 (by kernel_rfl) ?_
        refine Held.take (i := 0) (oi := ?oa0) (v := ?va0) ?hia0 (by kernel_rfl) (by kernel_rfl) (by kernel_rfl) (by kernel_rfl) (fun _ _ _ h => h) (Or.inl ⟨?hwa0, ?hya0⟩) (by assumption) ?resta0
        case hia0 => (simp only [List.getElem?_toArray, List.getElem?_cons_zero]; rfl)
        case hwa0 => rfl
        case hya0 => (intro w hSw; (try dsimp only at hSw); go_simp; try with_reducible rfl)
        (try simp only [Act.put, List.setIfInBounds_toArray, List.set_cons_zero, List.set_cons_succ])
        refine Held.take (i := 1) (oi := ?oa1) (v := ?va1) ?hia1 (by kernel_rfl) (by kernel_rfl) (by kernel_rfl) (by kernel_rfl) (fun _ _ _ h => h) (Or.inl ⟨?hwa1, ?hya1⟩) (by assumption) ?resta1
        case hia1 => (simp only [List.getElem?_toArray, List.getElem?_cons_succ, List.getElem?_cons_zero]; rfl)
        case hwa1 => rfl
        case hya1 => (intro w hSw; (try dsimp only at hSw); go_simp; try with_reducible rfl)
        (try simp only [Act.put, List.setIfInBounds_toArray, List.set_cons_zero, List.set_cons_succ])
        refine Held.take (i := 2) (oi := ?oa2) (v := ?va2) ?hia2 (by kernel_rfl) (by kernel_rfl) (by kernel_rfl) (by kernel_rfl) (fun _ _ _ h => h) (Or.inl ⟨?hwa2, ?hya2⟩) (by assumption) ?resta2
        case hia2 => (simp only [List.getElem?_toArray, List.getElem?_cons_succ, List.getElem?_cons_zero]; rfl)
        case hwa2 => rfl
        case hya2 => (intro w hSw; (try dsimp only at hSw); go_simp; try with_reducible rfl)
        (try simp only [Act.put, List.setIfInBounds_toArray, List.set_cons_zero, List.set_cons_succ])
        refine Held.take (i := 3) (oi := ?oa3) (v := ?va3) ?hia3 (by kernel_rfl) (by kernel_rfl) (by kernel_rfl) (by kernel_rfl) (fun _ _ _ h => h) (Or.inl ⟨?hwa3, ?hya3⟩) (by assumption) ?resta3
        case hia3 => (simp only [List.getElem?_toArray, List.getElem?_cons_succ, List.getElem?_cons_zero]; rfl)
        case hwa3 => rfl
        case hya3 => (intro w hSw; (try dsimp only at hSw); go_simp; try with_reducible rfl)
        (try simp only [Act.put, List.setIfInBounds_toArray, List.set_cons_zero, List.set_cons_succ])
        refine Held.take (i := 4) (oi := ?oa4) (v := ?va4) ?hia4 (by kernel_rfl) (by kernel_rfl) (by kernel_rfl) (by kernel_rfl) (fun _ _ _ h => h) (Or.inl ⟨?hwa4, ?hya4⟩) (by assumption) ?resta4
        case hia4 => (simp only [List.getElem?_toArray, List.getElem?_cons_succ, List.getElem?_cons_zero]; rfl)
        case hwa4 => rfl
        case hya4 => (intro w hSw; (try dsimp only at hSw); go_simp; try with_reducible rfl)
        (try simp only [Act.put, List.setIfInBounds_toArray, List.set_cons_zero, List.set_cons_succ])
        refine Held.take (i := 5) (oi := ?oa5) (v := ?va5) ?hia5 (by kernel_rfl) (by kernel_rfl) (by kernel_rfl) (by kernel_rfl) (fun _ _ _ h => h) (Or.inl ⟨?hwa5, ?hya5⟩) (by assumption) ?resta5
        case hia5 => (simp only [List.getElem?_toArray, List.getElem?_cons_succ, List.getElem?_cons_zero]; rfl)
        case hwa5 => rfl
        case hya5 => (intro w hSw; (try dsimp only at hSw); go_simp; try with_reducible rfl)
        (try simp only [Act.put, List.setIfInBounds_toArray, List.set_cons_zero, List.set_cons_succ])
        refine Held.take (i := 6) (oi := ?oa6) (v := ?va6) ?hia6 (by kernel_rfl) (by kernel_rfl) (by kernel_rfl) (by kernel_rfl) (fun _ _ _ h => h) (Or.inl ⟨?hwa6, ?hya6⟩) (by assumption) ?resta6
        case hia6 => (simp only [List.getElem?_toArray, List.getElem?_cons_succ, List.getElem?_cons_zero]; rfl)
        case hwa6 => rfl
        case hya6 => (intro w hSw; (try dsimp only at hSw); go_simp; try with_reducible rfl)
        (try simp only [Act.put, List.setIfInBounds_toArray, List.set_cons_zero, List.set_cons_succ])
        refine Held.take (i := 7) (oi := ?oa7) (v := ?va7) ?hia7 (by kernel_rfl) (by kernel_rfl) (by kernel_rfl) (by kernel_rfl) (fun _ _ _ h => h) (Or.inl ⟨?hwa7, ?hya7⟩) (by assumption) ?resta7
        case hia7 => (simp only [List.getElem?_toArray, List.getElem?_cons_succ, List.getElem?_cons_zero]; rfl)
        case hwa7 => rfl
        case hya7 => (intro w hSw; (try dsimp only at hSw); go_simp; try with_reducible rfl)
        (try simp only [Act.put, List.setIfInBounds_toArray, List.set_cons_zero, List.set_cons_succ])
        refine Held.take (i := 8) (oi := ?oa8) (v := ?va8) ?hia8 (by kernel_rfl) (by kernel_rfl) (by kernel_rfl) (by kernel_rfl) (fun _ _ _ h => h) (Or.inl ⟨?hwa8, ?hya8⟩) (by assumption) ?resta8
        case hia8 => (simp only [List.getElem?_toArray, List.getElem?_cons_succ, List.getElem?_cons_zero]; rfl)
        case hwa8 => rfl
        case hya8 => (intro w hSw; (try dsimp only at hSw); go_simp; try with_reducible rfl)
        (try simp only [Act.put, List.setIfInBounds_toArray, List.set_cons_zero, List.set_cons_succ])
        refine Held.take (i := 9) (oi := ?oa9) (v := ?va9) ?hia9 (by kernel_rfl) (by kernel_rfl) (by kernel_rfl) (by kernel_rfl) (fun _ _ _ h => h) (Or.inl ⟨?hwa9, ?hya9⟩) (by assumption) ?resta9
        case hia9 => (simp only [List.getElem?_toArray, List.getElem?_cons_succ, List.getElem?_cons_zero]; rfl)
        case hwa9 => rfl
        case hya9 => (intro w hSw; (try dsimp only at hSw); go_simp; try with_reducible rfl)
        (try simp only [Act.put, List.setIfInBounds_toArray, List.set_cons_zero, List.set_cons_succ])
        refine Held.take (i := 10) (oi := ?oa10) (v := ?va10) ?hia10 (by kernel_rfl) (by kernel_rfl) (by kernel_rfl) (by kernel_rfl) (fun _ _ _ h => h) (Or.inl ⟨?hwa10, ?hya10⟩) (by assumption) ?resta10
        case hia10 => (simp only [List.getElem?_toArray, List.getElem?_cons_succ, List.getElem?_cons_zero]; rfl)
        case hwa10 => rfl
        case hya10 => (intro w hSw; (try dsimp only at hSw); go_simp; try with_reducible rfl)
        (try simp only [Act.put, List.setIfInBounds_toArray, List.set_cons_zero, List.set_cons_succ])
        refine Held.take (i := 11) (oi := ?oa11) (v := ?va11) ?hia11 (by kernel_rfl) (by kernel_rfl) (by kernel_rfl) (by kernel_rfl) (fun _ _ _ h => h) (Or.inl ⟨?hwa11, ?hya11⟩) (by assumption) ?resta11
        case hia11 => (simp only [List.getElem?_toArray, List.getElem?_cons_succ, List.getElem?_cons_zero]; rfl)
        case hwa11 => rfl
        case hya11 => (intro w hSw; (try dsimp only at hSw); go_simp; try with_reducible rfl)
        (try simp only [Act.put, List.setIfInBounds_toArray, List.set_cons_zero, List.set_cons_succ])
        refine Held.next (i := 12) (o := ?oa12) (by kernel_rfl) ?hia12 (fun K hK => ?sta12)
        case hia12 => (simp only [List.getElem?_toArray, List.getElem?_cons_succ, List.getElem?_cons_zero]; rfl)
        go_simp
        (go_at_call 57; refine (IA.out _ ((Frm.refl _ _).drewN 1)).mono ?_; rintro e w' ⟨rfl, rfl⟩)
        (try go_wp2_with fail)
        refine hK.out _ _ (fun _ => by assumption) ?_
        clear hK K
        (try simp only [Act.put, List.setIfInBounds_toArray, List.set_cons_zero, List.set_cons_succ])
        refine Held.take (i := 13) (oi := ?oa13) (v := ?va13) ?hia13 (by kernel_rfl) (by kernel_rfl) (by kernel_rfl) (by kernel_rfl) (fun _ _ _ h => h) (Or.inl ⟨?hwa13, ?hya13⟩) (by assumption) ?resta13
        case hia13 => (simp only [List.getElem?_toArray, List.getElem?_cons_succ, List.getElem?_cons_zero]; rfl)
        case hwa13 => rfl
        case hya13 => (intro w hSw; (try dsimp only at hSw); go_simp; try with_reducible rfl)
        (try simp only [Act.put, List.setIfInBounds_toArray, List.set_cons_zero, List.set_cons_succ])
        refine Held.take (i := 14) (oi := ?oa14) (v := ?va14) ?hia14 (by kernel_rfl) (by kernel_rfl) (by kernel_rfl) (by kernel_rfl) (fun _ _ _ h => h) (Or.inl ⟨?hwa14, ?hya14⟩) (by assumption) ?resta14
        case hia14 => (simp only [List.getElem?_toArray, List.getElem?_cons_succ, List.getElem?_cons_zero]; rfl)
        case hwa14 => rfl
        case hya14 => (intro w hSw; (try dsimp only at hSw); go_simp; try with_reducible rfl)
        (try simp only [Act.put, List.setIfInBounds_toArray, List.set_cons_zero, List.set_cons_succ])
        refine Held.take (i := 15) (oi := ?oa15) (v := ?va15) ?hia15 (by kernel_rfl) (by kernel_rfl) (by kernel_rfl) (by kernel_rfl) (fun _ _ _ h => h) (Or.inl ⟨?hwa15, ?hya15⟩) (by assumption) ?resta15
        case hia15 => (simp only [List.getElem?_toArray, List.getElem?_cons_succ, List.getElem?_cons_zero]; rfl)
        case hwa15 => rfl
        case hya15 => (intro w hSw; (try dsimp only at hSw); go_simp; try with_reducible rfl)
        (try simp only [Act.put, List.setIfInBounds_toArray, List.set_cons_zero, List.set_cons_succ])
        refine Held.next (i := 16) (o := ?oa16) (by kernel_rfl) ?hia16 (fun K hK => ?sta16)
        case hia16 => (simp only [List.getElem?_toArray, List.getElem?_cons_succ, List.getElem?_cons_zero]; rfl)
        go_simp
        (go_at_call 57; refine (IB.out _ ((Frm.refl _ _).drewN 1)).mono ?_; rintro e w' ⟨rfl, rfl⟩)
        (try go_wp2_with fail)
        refine hK.out _ _ (fun _ => by assumption) ?_
        clear hK K
        (try simp only [Act.put, List.setIfInBounds_toArray, List.set_cons_zero, List.set_cons_succ])
        refine Held.take (i := 17) (oi := ?oa17) (v := ?va17) ?hia17 (by kernel_rfl) (by kernel_rfl) (by kernel_rfl) (by kernel_rfl) (fun _ _ _ h => h) (Or.inl ⟨?hwa17, ?hya17⟩) (by assumption) ?resta17
        case hia17 => (simp only [List.getElem?_toArray, List.getElem?_cons_succ, List.getElem?_cons_zero]; rfl)
        case hwa17 => rfl
        case hya17 => (intro w hSw; (try dsimp only at hSw); go_simp; try with_reducible rfl)
        (try simp only [Act.put, List.setIfInBounds_toArray, List.set_cons_zero, List.set_cons_succ])
        refine Held.take (i := 18) (oi := ?oa18) (v := ?va18) ?hia18 (by kernel_rfl) (by kernel_rfl) (by kernel_rfl) (by kernel_rfl) (fun _ _ _ h => h) (Or.inl ⟨?hwa18, ?hya18⟩) (by assumption) ?resta18
        case hia18 => (simp only [List.getElem?_toArray, List.getElem?_cons_succ, List.getElem?_cons_zero]; rfl)
        case hwa18 => rfl
        case hya18 => (intro w hSw; (try dsimp only at hSw); go_simp; try with_reducible rfl)
        (try simp only [Act.put, List.setIfInBounds_toArray, List.set_cons_zero, List.set_cons_succ])
        refine Held.take (i := 19) (oi := ?oa19) (v := ?va19) ?hia19 (by kernel_rfl) (by kernel_rfl) (by kernel_rfl) (by kernel_rfl) (fun _ _ _ h => h) (Or.inl ⟨?hwa19, ?hya19⟩) (by assumption) ?resta19
        case hia19 => (simp only [List.getElem?_toArray, List.getElem?_cons_succ, List.getElem?_cons_zero]; rfl)
        case hwa19 => rfl
        case hya19 => (intro w hSw; (try dsimp only at hSw); go_simp; try with_reducible rfl)
        (try simp only [Act.put, List.setIfInBounds_toArray, List.set_cons_zero, List.set_cons_succ])
        refine Held.take (i := 20) (oi := ?oa20) (v := ?va20) ?hia20 (by kernel_rfl) (by kernel_rfl) (by kernel_rfl) (by kernel_rfl) (fun _ _ _ h => h) (Or.inl ⟨?hwa20, ?hya20⟩) (by assumption) ?resta20
        case hia20 => (simp only [List.getElem?_toArray, List.getElem?_cons_succ, List.getElem?_cons_zero]; rfl)
        case hwa20 => rfl
        case hya20 => (intro w hSw; (try dsimp only at hSw); go_simp; try with_reducible rfl)
        (try simp only [Act.put, List.setIfInBounds_toArray, List.set_cons_zero, List.set_cons_succ])
        refine Held.take (i := 21) (oi := ?oa21) (v := ?va21) ?hia21 (by kernel_rfl) (by kernel_rfl) (by kernel_rfl) (by kernel_rfl) (fun _ _ _ h => h) (Or.inl ⟨?hwa21, ?hya21⟩) (by assumption) ?resta21
        case hia21 => (simp only [List.getElem?_toArray, List.getElem?_cons_succ, List.getElem?_cons_zero]; rfl)
        case hwa21 => rfl
        case hya21 => (intro w hSw; (try dsimp only at hSw); go_simp; try with_reducible rfl)
        (try simp only [Act.put, List.setIfInBounds_toArray, List.set_cons_zero, List.set_cons_succ])
        refine Held.take (i := 22) (oi := ?oa22) (v := ?va22) ?hia22 (by kernel_rfl) (by kernel_rfl) (by kernel_rfl) (by kernel_rfl) (fun _ _ _ h => h) (Or.inl ⟨?hwa22, ?hya22⟩) (by assumption) ?resta22
        case hia22 => (simp only [List.getElem?_toArray, List.getElem?_cons_succ, List.getElem?_cons_zero]; rfl)
        case hwa22 => rfl
        case hya22 => (intro w hSw; (try dsimp only at hSw); go_simp; try with_reducible rfl)
        (try simp only [Act.put, List.setIfInBounds_toArray, List.set_cons_zero, List.set_cons_succ])
        refine Held.take (i := 23) (oi := ?oa23) (v := ?va23) ?hia23 (by kernel_rfl) (by kernel_rfl) (by kernel_rfl) (by kernel_rfl) (fun _ _ _ h => h) (Or.inl ⟨?hwa23, ?hya23⟩) (by assumption) ?resta23
        case hia23 => (simp only [List.getElem?_toArray, List.getElem?_cons_succ, List.getElem?_cons_zero]; rfl)
        case hwa23 => rfl
        case hya23 => (intro w hSw; (try dsimp only at hSw); go_simp; try with_reducible rfl)
        (try simp only [Act.put, List.setIfInBounds_toArray, List.set_cons_zero, List.set_cons_succ])
        refine Held.take (i := 24) (oi := ?oa24) (v := ?va24) ?hia24 (by kernel_rfl) (by kernel_rfl) (by kernel_rfl) (by kernel_rfl) (fun _ _ _ h => h) (Or.inl ⟨?hwa24, ?hya24⟩) (by assumption) ?resta24
        case hia24 => (simp only [List.getElem?_toArray, List.getElem?_cons_succ, List.getElem?_cons_zero]; rfl)
        case hwa24 => rfl
        case hya24 => (intro w hSw; (try dsimp only at hSw); go_simp; try with_reducible rfl)
        (try simp only [Act.put, List.setIfInBounds_toArray, List.set_cons_zero, List.set_cons_succ])
        refine Held.take (i := 25) (oi := ?oa25) (v := ?va25) ?hia25 (by kernel_rfl) (by kernel_rfl) (by kernel_rfl) (by kernel_rfl) (fun _ _ _ h => h) (Or.inl ⟨?hwa25, ?hya25⟩) (by assumption) ?resta25
        case hia25 => (simp only [List.getElem?_toArray, List.getElem?_cons_succ, List.getElem?_cons_zero]; rfl)
        case hwa25 => rfl
        case hya25 => (intro w hSw; (try dsimp only at hSw); go_simp; try with_reducible rfl)
        (try simp only [Act.put, List.setIfInBounds_toArray, List.set_cons_zero, List.set_cons_succ])
        refine Held.take (i := 27) (oi := ?oa27) (v := ?va27) ?hia27 (by kernel_rfl) (by kernel_rfl) (by kernel_rfl) (by kernel_rfl) (fun _ _ _ h => h) (Or.inl ⟨?hwa27, ?hya27⟩) (by assumption) ?resta27
        case hia27 => (simp only [List.getElem?_toArray, List.getElem?_cons_succ, List.getElem?_cons_zero]; rfl)
        case hwa27 => rfl
        case hya27 => (intro w hSw; (try dsimp only at hSw); go_simp; try with_reducible rfl)
        (try simp only [Act.put, List.setIfInBounds_toArray, List.set_cons_zero, List.set_cons_succ])
        refine Held.take (i := 28) (oi := ?oa28) (v := ?va28) ?hia28 (by kernel_rfl) (by kernel_rfl) (by kernel_rfl) (by kernel_rfl) (fun _ _ _ h => h) (Or.inl ⟨?hwa28, ?hya28⟩) (by assumption) ?resta28
        case hia28 => (simp only [List.getElem?_toArray, List.getElem?_cons_succ, List.getElem?_cons_zero]; rfl)
        case hwa28 => rfl
        case hya28 => (intro w hSw; (try dsimp only at hSw); go_simp; try with_reducible rfl)
        (try simp only [Act.put, List.setIfInBounds_toArray, List.set_cons_zero, List.set_cons_succ])
        refine Held.next (i := 26) (o := ?oa26) (by kernel_rfl) ?hia26 (fun K hK => ?sta26)
        case hia26 => (simp only [List.getElem?_toArray, List.getElem?_cons_succ, List.getElem?_cons_zero]; rfl)
        go_simp
        (go_at_call 57; refine (IA.out _ ((Frm.refl _ _).drewN 1)).mono ?_; rintro e w' ⟨rfl, rfl⟩)
        (try go_wp2_with fail)
        refine hK.out _ _ (fun _ => by assumption) ?_
        clear hK K
        (try simp only [Act.put, List.setIfInBounds_toArray, List.set_cons_zero, List.set_cons_succ])
        refine Held.next (i := 29) (o := ?oa29) (by kernel_rfl) ?hia29 (fun K hK => ?sta29)
        case hia29 => (simp only [List.getElem?_toArray, List.getElem?_cons_succ, List.getElem?_cons_zero]; rfl)
        go_simp
        (go_at_call 57; refine (IB.out _ ((Frm.refl _ _).drewN 1)).mono ?_; rintro e w' ⟨rfl, rfl⟩)
        (try go_wp2_with fail)
        refine hK.out _ _ (fun _ => by assumption) ?_
        clear hK K
        (try simp only [Act.put, List.setIfInBounds_toArray, List.set_cons_zero, List.set_cons_succ])
        refine Held.take (i := 30) (oi := ?oa30) (v := ?va30) ?hia30 (by kernel_rfl) (by kernel_rfl) (by kernel_rfl) (by kernel_rfl) (fun _ _ _ h => h) (Or.inl ⟨?hwa30, ?hya30⟩) (by assumption) ?resta30
        case hia30 => (simp only [List.getElem?_toArray, List.getElem?_cons_succ, List.getElem?_cons_zero]; rfl)
        case hwa30 => rfl
        case hya30 => (intro w hSw; (try dsimp only at hSw); go_simp; try with_reducible rfl)
        (try simp only [Act.put, List.setIfInBounds_toArray, List.set_cons_zero, List.set_cons_succ])
        refine Held.take (i := 31) (oi := ?oa31) (v := ?va31) ?hia31 (by kernel_rfl) (by kernel_rfl) (by kernel_rfl) (by kernel_rfl) (fun _ _ _ h => h) (Or.inl ⟨?hwa31, ?hya31⟩) (by assumption) ?resta31
        case hia31 => (simp only [List.getElem?_toArray, List.getElem?_cons_succ, List.getElem?_cons_zero]; rfl)
        case hwa31 => rfl
        case hya31 => (intro w hSw; (try dsimp only at hSw); go_simp; try with_reducible rfl)
        (try simp only [Act.put, List.setIfInBounds_toArray, List.set_cons_zero, List.set_cons_succ])
        refine Held.take (i := 32) (oi := ?oa32) (v := ?va32) ?hia32 (by kernel_rfl) (by kernel_rfl) (by kernel_rfl) (by kernel_rfl) (fun _ _ _ h => h) (Or.inl ⟨?hwa32, ?hya32⟩) (by assumption) ?resta32
        case hia32 => (simp only [List.getElem?_toArray, List.getElem?_cons_succ, List.getElem?_cons_zero]; rfl)
        case hwa32 => rfl
        case hya32 => (intro w hSw; (try dsimp only at hSw); go_simp; try with_reducible rfl)
        (try simp only [Act.put, List.setIfInBounds_toArray, List.set_cons_zero, List.set_cons_succ])
        refine Held.take (i := 33) (oi := ?oa33) (v := ?va33) ?hia33 (by kernel_rfl) (by kernel_rfl) (by kernel_rfl) (by kernel_rfl) (fun _ _ _ h => h) (Or.inl ⟨?hwa33, ?hya33⟩) (by assumption) ?resta33
        case hia33 => (simp only [List.getElem?_toArray, List.getElem?_cons_succ, List.getElem?_cons_zero]; rfl)
        case hwa33 => rfl
        case hya33 => (intro w hSw; (try dsimp only at hSw); go_simp; try with_reducible rfl)
        (try simp only [Act.put, List.setIfInBounds_toArray, List.set_cons_zero, List.set_cons_succ])
        refine Held.take (i := 34) (oi := ?oa34) (v := ?va34) ?hia34 (by kernel_rfl) (by kernel_rfl) (by kernel_rfl) (by kernel_rfl) (fun _ _ _ h => h) (Or.inl ⟨?hwa34, ?hya34⟩) (by assumption) ?resta34
        case hia34 => (simp only [List.getElem?_toArray, List.getElem?_cons_succ, List.getElem?_cons_zero]; rfl)
        case hwa34 => rfl
        case hya34 => (intro w hSw; (try dsimp only at hSw); go_simp; try with_reducible rfl)
        (try simp only [Act.put, List.setIfInBounds_toArray, List.set_cons_zero, List.set_cons_succ])
        refine Held.take (i := 35) (oi := ?oa35) (v := ?va35) ?hia35 (by kernel_rfl) (by kernel_rfl) (by kernel_rfl) (by kernel_rfl) (fun _ _ _ h => h) (Or.inl ⟨?hwa35, ?hya35⟩) (by assumption) ?resta35
        case hia35 => (simp only [List.getElem?_toArray, List.getElem?_cons_succ, List.getElem?_cons_zero]; rfl)
        case hwa35 => rfl
        case hya35 => (intro w hSw; (try dsimp only at hSw); go_simp; try with_reducible rfl)
        (try simp only [Act.put, List.setIfInBounds_toArray, List.set_cons_zero, List.set_cons_succ])
        refine Held.take (i := 36) (oi := ?oa36) (v := ?va36) ?hia36 (by kernel_rfl) (by kernel_rfl) (by kernel_rfl) (by kernel_rfl) (fun _ _ _ h => h) (Or.inl ⟨?hwa36, ?hya36⟩) (by assumption) ?resta36
        case hia36 => (simp only [List.getElem?_toArray, List.getElem?_cons_succ, List.getElem?_cons_zero]; rfl)
        case hwa36 => rfl
        case hya36 => (intro w hSw; (try dsimp only at hSw); go_simp; try with_reducible rfl)
        (try simp only [Act.put, List.setIfInBounds_toArray, List.set_cons_zero, List.set_cons_succ])
        refine Held.take (i := 37) (oi := ?oa37) (v := ?va37) ?hia37 (by kernel_rfl) (by kernel_rfl) (by kernel_rfl) (by kernel_rfl) (fun _ _ _ h => h) (Or.inl ⟨?hwa37, ?hya37⟩) (by assumption) ?resta37
        case hia37 => (simp only [List.getElem?_toArray, List.getElem?_cons_succ, List.getElem?_cons_zero]; rfl)
        case hwa37 => rfl
        case hya37 => (intro w hSw; (try dsimp only at hSw); go_simp; try with_reducible rfl)
        (try simp only [Act.put, List.setIfInBounds_toArray, List.set_cons_zero, List.set_cons_succ])
        refine Held.take (i := 38) (oi := ?oa38) (v := ?va38) ?hia38 (by kernel_rfl) (by kernel_rfl) (by kernel_rfl) (by kernel_rfl) (fun _ _ _ h => h) (Or.inl ⟨?hwa38, ?hya38⟩) (by assumption) ?resta38
        case hia38 => (simp only [List.getElem?_toArray, List.getElem?_cons_succ, List.getElem?_cons_zero]; rfl)
        case hwa38 => rfl
        case hya38 => (intro w hSw; (try dsimp only at hSw); go_simp; try with_reducible rfl)
        (try simp only [Act.put, List.setIfInBounds_toArray, List.set_cons_zero, List.set_cons_succ])
        refine Held.take (i := 39) (oi := ?oa39) (v := ?va39) ?hia39 (by kernel_rfl) (by kernel_rfl) (by kernel_rfl) (by kernel_rfl) (fun _ _ _ h => h) (Or.inl ⟨?hwa39, ?hya39⟩) (by assumption) ?resta39
        case hia39 => (simp only [List.getElem?_toArray, List.getElem?_cons_succ, List.getElem?_cons_zero]; rfl)
        case hwa39 => rfl
        case hya39 => (intro w hSw; (try dsimp only at hSw); go_simp; try with_reducible rfl)
        (try simp only [Act.put, List.setIfInBounds_toArray, List.set_cons_zero, List.set_cons_succ])
        refine Held.take (i := 40) (oi := ?oa40) (v := ?va40) ?hia40 (by kernel_rfl) (by kernel_rfl) (by kernel_rfl) (by kernel_rfl) (fun _ _ _ h => h) (Or.inl ⟨?hwa40, ?hya40⟩) (by assumption) ?resta40
        case hia40 => (simp only [List.getElem?_toArray, List.getElem?_cons_succ, List.getElem?_cons_zero]; rfl)
        case hwa40 => rfl
        case hya40 => (intro w hSw; (try dsimp only at hSw); go_simp; try with_reducible rfl)
        (try simp only [Act.put, List.setIfInBounds_toArray, List.set_cons_zero, List.set_cons_succ])
        refine Held.take (i := 41) (oi := ?oa41) (v := ?va41) ?hia41 (by kernel_rfl) (by kernel_rfl) (by kernel_rfl) (by kernel_rfl) (fun _ _ _ h => h) (Or.inl ⟨?hwa41, ?hya41⟩) (by assumption) ?resta41
        case hia41 => (simp only [List.getElem?_toArray, List.getElem?_cons_succ, List.getElem?_cons_zero]; rfl)
        case hwa41 => rfl
        case hya41 => (intro w hSw; (try dsimp only at hSw); go_simp; try with_reducible rfl)
        (try simp only [Act.put, List.setIfInBounds_toArray, List.set_cons_zero, List.set_cons_succ])
        refine Held.take (i := 42) (oi := ?oa42) (v := ?va42) ?hia42 (by kernel_rfl) (by kernel_rfl) (by kernel_rfl) (by kernel_rfl) (fun _ _ _ h => h) (Or.inl ⟨?hwa42, ?hya42⟩) (by assumption) ?resta42
        case hia42 => (simp only [List.getElem?_toArray, List.getElem?_cons_succ, List.getElem?_cons_zero]; rfl)
        case hwa42 => rfl
        case hya42 => (intro w hSw; (try dsimp only at hSw); go_simp; try with_reducible rfl)
        (try simp only [Act.put, List.setIfInBounds_toArray, List.set_cons_zero, List.set_cons_succ])
        refine Held.take (i := 43) (oi := ?oa43) (v := ?va43) ?hia43 (by kernel_rfl) (by kernel_rfl) (by kernel_rfl) (by kernel_rfl) (fun _ _ _ h => h) (Or.inl ⟨?hwa43, ?hya43⟩) (by assumption) ?resta43
        case hia43 => (simp only [List.getElem?_toArray, List.getElem?_cons_succ, List.getElem?_cons_zero]; rfl)
        case hwa43 => rfl
        case hya43 => (intro w hSw; (try dsimp only at hSw); go_simp; try with_reducible rfl)
        (try simp only [Act.put, List.setIfInBounds_toArray, List.set_cons_zero, List.set_cons_succ])
        refine Held.take (i := 44) (oi := ?oa44) (v := ?va44) ?hia44 (by kernel_rfl) (by kernel_rfl) (by kernel_rfl) (by kernel_rfl) (fun _ _ _ h => h) (Or.inl ⟨?hwa44, ?hya44⟩) (by assumption) ?resta44
        case hia44 => (simp only [List.getElem?_toArray, List.getElem?_cons_succ, List.getElem?_cons_zero]; rfl)
        case hwa44 => rfl
        case hya44 => (intro w hSw; (try dsimp only at hSw); go_simp; try with_reducible rfl)
        (try simp only [Act.put, List.setIfInBounds_toArray, List.set_cons_zero, List.set_cons_succ])
        refine Held.take (i := 45) (oi := ?oa45) (v := ?va45) ?hia45 (by kernel_rfl) (by kernel_rfl) (by kernel_rfl) (by kernel_rfl) (fun _ _ _ h => h) (Or.inl ⟨?hwa45, ?hya45⟩) (by assumption) ?resta45
        case hia45 => (simp only [List.getElem?_toArray, List.getElem?_cons_succ, List.getElem?_cons_zero]; rfl)
        case hwa45 => rfl
        case hya45 => (intro w hSw; (try dsimp only at hSw); go_simp; try with_reducible rfl)
        (try simp only [Act.put, List.setIfInBounds_toArray, List.set_cons_zero, List.set_cons_succ])
        refine Held.take (i := 46) (oi := ?oa46) (v := ?va46) ?hia46 (by kernel_rfl) (by kernel_rfl) (by kernel_rfl) (by kernel_rfl) (fun _ _ _ h => h) (Or.inl ⟨?hwa46, ?hya46⟩) (by assumption) ?resta46
        case hia46 => (simp only [List.getElem?_toArray, List.getElem?_cons_succ, List.getElem?_cons_zero]; rfl)
        case hwa46 => rfl
        case hya46 => (intro w hSw; (try dsimp only at hSw); go_simp; try with_reducible rfl)
        (try simp only [Act.put, List.setIfInBounds_toArray, List.set_cons_zero, List.set_cons_succ])
        refine Held.take (i := 47) (oi := ?oa47) (v := ?va47) ?hia47 (by kernel_rfl) (by kernel_rfl) (by kernel_rfl) (by kernel_rfl) (fun _ _ _ h => h) (Or.inl ⟨?hwa47, ?hya47⟩) (by assumption) ?resta47
        case hia47 => (simp only [List.getElem?_toArray, List.getElem?_cons_succ, List.getElem?_cons_zero]; rfl)
        case hwa47 => rfl
        case hya47 => (intro w hSw; (try dsimp only at hSw); go_simp; try with_reducible rfl)
        (try simp only [Act.put, List.setIfInBounds_toArray, List.set_cons_zero, List.set_cons_succ])
        refine Held.take (i := 48) (oi := ?oa48) (v := ?va48) ?hia48 (by kernel_rfl) (by kernel_rfl) (by kernel_rfl) (by kernel_rfl) (fun _ _ _ h => h) (Or.inl ⟨?hwa48, ?hya48⟩) (by assumption) ?resta48
        case hia48 => (simp only [List.getElem?_toArray, List.getElem?_cons_succ, List.getElem?_cons_zero]; rfl)
        case hwa48 => rfl
        case hya48 => (intro w hSw; (try dsimp only at hSw); go_simp; try with_reducible rfl)
        (try simp only [Act.put, List.setIfInBounds_toArray, List.set_cons_zero, List.set_cons_succ])
        refine Held.take (i := 49) (oi := ?oa49) (v := ?va49) ?hia49 (by kernel_rfl) (by kernel_rfl) (by kernel_rfl) (by kernel_rfl) (fun _ _ _ h => h) (Or.inl ⟨?hwa49, ?hya49⟩) (by assumption) ?resta49
        case hia49 => (simp only [List.getElem?_toArray, List.getElem?_cons_succ, List.getElem?_cons_zero]; rfl)
        case hwa49 => rfl
        case hya49 => (intro w hSw; (try dsimp only at hSw); go_simp; try with_reducible rfl)
        (try simp only [Act.put, List.setIfInBounds_toArray, List.set_cons_zero, List.set_cons_succ])
        refine Held.take (i := 50) (oi := ?oa50) (v := ?va50) ?hia50 (by kernel_rfl) (by kernel_rfl) (by kernel_rfl) (by kernel_rfl) (fun _ _ _ h => h) (Or.inl ⟨?hwa50, ?hya50⟩) (by assumption) ?resta50
        case hia50 => (simp only [List.getElem?_toArray, List.getElem?_cons_succ, List.getElem?_cons_zero]; rfl)
        case hwa50 => rfl
        case hya50 => (intro w hSw; (try dsimp only at hSw); go_simp; try with_reducible rfl)
        (try simp only [Act.put, List.setIfInBounds_toArray, List.set_cons_zero, List.set_cons_succ])
        refine Held.take (i := 51) (oi := ?oa51) (v := ?va51) ?hia51 (by kernel_rfl) (by kernel_rfl) (by kernel_rfl) (by kernel_rfl) (fun _ _ _ h => h) (Or.inl ⟨?hwa51, ?hya51⟩) (by assumption) ?resta51
        case hia51 => (simp only [List.getElem?_toArray, List.getElem?_cons_succ, List.getElem?_cons_zero]; rfl)
        case hwa51 => rfl
        case hya51 => (intro w hSw; (try dsimp only at hSw); go_simp; try with_reducible rfl)
        (try simp only [Act.put, List.setIfInBounds_toArray, List.set_cons_zero, List.set_cons_succ])
        refine Held.take (i := 52) (oi := ?oa52) (v := ?va52) ?hia52 (by kernel_rfl) (by kernel_rfl) (by kernel_rfl) (by kernel_rfl) (fun _ _ _ h => h) (Or.inl ⟨?hwa52, ?hya52⟩) (by assumption) ?resta52
        case hia52 => (simp only [List.getElem?_toArray, List.getElem?_cons_succ, List.getElem?_cons_zero]; rfl)
        case hwa52 => rfl
        case hya52 => (intro w hSw; (try dsimp only at hSw); go_simp; try with_reducible rfl)
        (try simp only [Act.put, List.setIfInBounds_toArray, List.set_cons_zero, List.set_cons_succ])
        refine Held.take (i := 53) (oi := ?oa53) (v := ?va53) ?hia53 (by kernel_rfl) (by kernel_rfl) (by kernel_rfl) (by kernel_rfl) (fun _ _ _ h => h) (Or.inl ⟨?hwa53, ?hya53⟩) (by assumption) ?resta53
        case hia53 => (simp only [List.getElem?_toArray, List.getElem?_cons_succ, List.getElem?_cons_zero]; rfl)
        case hwa53 => rfl
        case hya53 => (intro w hSw; (try dsimp only at hSw); go_simp; try with_reducible rfl)
        (try simp only [Act.put, List.setIfInBounds_toArray, List.set_cons_zero, List.set_cons_succ])
        refine Held.take (i := 54) (oi := ?oa54) (v := ?va54) ?hia54 (by kernel_rfl) (by kernel_rfl) (by kernel_rfl) (by kernel_rfl) (fun _ _ _ h => h) (Or.inl ⟨?hwa54, ?hya54⟩) (by assumption) ?resta54
        case hia54 => (simp only [List.getElem?_toArray, List.getElem?_cons_succ, List.getElem?_cons_zero]; rfl)
        case hwa54 => rfl
        case hya54 => (intro w hSw; (try dsimp only at hSw); go_simp; try with_reducible rfl)
        (try simp only [Act.put, List.setIfInBounds_toArray, List.set_cons_zero, List.set_cons_succ])
        refine Held.done (by kernel_rfl) ?_ _
        refine NoPanic.normal ?_
        all_goals
          go_wp2_with fail
          go_ret
          exact ⟨rfl, hf11'.drewN _⟩
      · replace hc0 : w11.cell? ⟨b5, o5, none⟩ = some (.bool true) := by simpa using hc0
        replace hc1 : w11.cell? ⟨b5, o5 + 1, none⟩ = some (.bool (!y)) := by simpa using hc1
        replace hc2 : w11.cell? ⟨b5, o5 + 2, none⟩ = some (.bool y) := by simpa using hc2
        go_wp2_with fail
        refine (IA.out _ (Frm.refl _ _)).mono ?_
        rintro e w' ⟨rfl, rfl⟩
        go_wp2_with fail
        refine (IB.out _ (Frm.refl _ _)).mono ?_
        rintro e w' ⟨rfl, rfl⟩
        go_wp2_with fail
        have hH0 : w11.drew.cell? ⟨b5, o5, none⟩ = some (.bool true) ∧ w11.drew.cell? ⟨b5, o5 + 1, none⟩ = some (.bool (!y)) ∧ w11.drew.cell? ⟨b5, o5 + 2, none⟩ = some (.bool y) ∧ w11.drew.cell? ⟨b5, o5 + 3, none⟩ = some (.bool al) ∧ w11.drew.cell? ⟨b5, o5 + 4, none⟩ = some (.bool an) := ⟨hc0, hc1, hc2, hc3, hc4⟩
        have hHeld := hH0
        refine Held.begin (fun w' => w'.cell? ⟨b5, o5, none⟩ = some (.bool true) ∧ w'.cell? ⟨b5, o5 + 1, none⟩ = some (.bool (!y)) ∧ w'.cell? ⟨b5, o5 + 2, none⟩ = some (.bool y) ∧ w'.cell? ⟨b5, o5 + 3, none⟩ = some (.bool al) ∧ w'.cell? ⟨b5, o5 + 4, none⟩ = some (.bool an)) 55 (by kernel_rfl) ?_
        refine Held.take (i := 0) (oi := ?ob0) (v := ?vb0) ?hib0 (by kernel_rfl) (by kernel_rfl) (by kernel_rfl) (by kernel_rfl) (fun _ _ _ h => h) (Or.inl ⟨?hwb0, ?hyb0⟩) (by assumption) ?restb0
        case hib0 => (simp only [List.getElem?_toArray, List.getElem?_cons_zero]; rfl)
        case hwb0 => rfl
        case hyb0 => (intro w hSw; (try dsimp only at hSw); go_simp; try with_reducible rfl)
        (try simp only [Act.put, List.setIfInBounds_toArray, List.set_cons_zero, List.set_cons_succ])
        refine Held.take (i := 1) (oi := ?ob1) (v := ?vb1) ?hib1 (by kernel_rfl) (by kernel_rfl) (by kernel_rfl) (by kernel_rfl) (fun _ _ _ h => h) (Or.inl ⟨?hwb1, ?hyb1⟩) (by assumption) ?restb1
        case hib1 => (simp only [List.getElem?_toArray, List.getElem?_cons_succ, List.getElem?_cons_zero]; rfl)
        case hwb1 => rfl
        case hyb1 => (intro w hSw; (try dsimp only at hSw); go_simp; try with_reducible rfl)
        (try simp only [Act.put, List.setIfInBounds_toArray, List.set_cons_zero, List.set_cons_succ])
        refine Held.take (i := 2) (oi := ?ob2) (v := ?vb2) ?hib2 (by kernel_rfl) (by kernel_rfl) (by kernel_rfl) (by kernel_rfl) (fun _ _ _ h => h) (Or.inl ⟨?hwb2, ?hyb2⟩) (by assumption) ?restb2
        case hib2 => (simp only [List.getElem?_toArray, List.getElem?_cons_succ, List.getElem?_cons_zero]; rfl)
        case hwb2 => rfl
        case hyb2 => (intro w hSw; (try dsimp only at hSw); go_simp; try with_reducible rfl)
        (try simp only [Act.put, List.setIfInBounds_toArray, List.set_cons_zero, List.set_cons_succ])
        refine Held.take (i := 3) (oi := ?ob3) (v := ?vb3) ?hib3 (by kernel_rfl) (by kernel_rfl) (by kernel_rfl) (by kernel_rfl) (fun _ _ _ h => h) (Or.inl ⟨?hwb3, ?hyb3⟩) (by assumption) ?restb3
        case hib3 => (simp only [List.getElem?_toArray, List.getElem?_cons_succ, List.getElem?_cons_zero]; rfl)
        case hwb3 => rfl
        case hyb3 => (intro w hSw; (try dsimp only at hSw); go_simp; try with_reducible rfl)
        (try simp only [Act.put, List.setIfInBounds_toArray, List.set_cons_zero, List.set_cons_succ])
        refine Held.take (i := 4) (oi := ?ob4) (v := ?vb4) ?hib4 (by kernel_rfl) (by kernel_rfl) (by kernel_rfl) (by kernel_rfl) (fun _ _ _ h => h) (Or.inl ⟨?hwb4, ?hyb4⟩) (by assumption) ?restb4
        case hib4 => (simp only [List.getElem?_toArray, List.getElem?_cons_succ, List.getElem?_cons_zero]; rfl)
        case hwb4 => rfl
        case hyb4 => (intro w hSw; (try dsimp only at hSw); go_simp; try with_reducible rfl)
        (try simp only [Act.put, List.setIfInBounds_toArray, List.set_cons_zero, List.set_cons_succ])
        refine Held.take (i := 5) (oi := ?ob5) (v := ?vb5) ?hib5 (by kernel_rfl) (by kernel_rfl) (by kernel_rfl) (by kernel_rfl) (fun _ _ _ h => h) (Or.inl ⟨?hwb5, ?hyb5⟩) (by assumption) ?restb5
        case hib5 => (simp only [List.getElem?_toArray, List.getElem?_cons_succ, List.getElem?_cons_zero]; rfl)
        case hwb5 => rfl
        case hyb5 => (intro w hSw; (try dsimp only at hSw); go_simp; try with_reducible rfl)
        (try simp only [Act.put, List.setIfInBounds_toArray, List.set_cons_zero, List.set_cons_succ])
        refine Held.take (i := 6) (oi := ?ob6) (v := ?vb6) ?hib6 (by kernel_rfl) (by kernel_rfl) (by kernel_rfl) (by kernel_rfl) (fun _ _ _ h => h) (Or.inl ⟨?hwb6, ?hyb6⟩) (by assumption) ?restb6
        case hib6 => (simp only [List.getElem?_toArray, List.getElem?_cons_succ, List.getElem?_cons_zero]; rfl)
        case hwb6 => rfl
        case hyb6 => (intro w hSw; (try dsimp only at hSw); go_simp; try with_reducible rfl)
        (try simp only [Act.put, List.setIfInBounds_toArray, List.set_cons_zero, List.set_cons_succ])
        refine Held.take (i := 7) (oi := ?ob7) (v := ?vb7) ?hib7 (by kernel_rfl) (by kernel_rfl) (by kernel_rfl) (by kernel_rfl) (fun _ _ _ h => h) (Or.inl ⟨?hwb7, ?hyb7⟩) (by assumption) ?restb7
        case hib7 => (simp only [List.getElem?_toArray, List.getElem?_cons_succ, List.getElem?_cons_zero]; rfl)
        case hwb7 => rfl
        case hyb7 => (intro w hSw; (try dsimp only at hSw); go_simp; try with_reducible rfl)
        (try simp only [Act.put, List.setIfInBounds_toArray, List.set_cons_zero, List.set_cons_succ])
        refine Held.take (i := 8) (oi := ?ob8) (v := ?vb8) ?hib8 (by kernel_rfl) (by kernel_rfl) (by kernel_rfl) (by kernel_rfl) (fun _ _ _ h => h) (Or.inl ⟨?hwb8, ?hyb8⟩) (by assumption) ?restb8
        case hib8 => (simp only [List.getElem?_toArray, List.getElem?_cons_succ, List.getElem?_cons_zero]; rfl)
        case hwb8 => rfl
        case hyb8 => (intro w hSw; (try dsimp only at hSw); go_simp; try with_reducible rfl)
        (try simp only [Act.put, List.setIfInBounds_toArray, List.set_cons_zero, List.set_cons_succ])
        refine Held.take (i := 9) (oi := ?ob9) (v := ?vb9) ?hib9 (by kernel_rfl) (by kernel_rfl) (by kernel_rfl) (by kernel_rfl) (fun _ _ _ h => h) (Or.inl ⟨?hwb9, ?hyb9⟩) (by assumption) ?restb9
        case hib9 => (simp only [List.getElem?_toArray, List.getElem?_cons_succ, List.getElem?_cons_zero]; rfl)
        case hwb9 => rfl
        case hyb9 => (intro w hSw; (try dsimp only at hSw); go_simp; try with_reducible rfl)
        (try simp only [Act.put, List.setIfInBounds_toArray, List.set_cons_zero, List.set_cons_succ])
        refine Held.take (i := 10) (oi := ?ob10) (v := ?vb10) ?hib10 (by kernel_rfl) (by kernel_rfl) (by kernel_rfl) (by kernel_rfl) (fun _ _ _ h => h) (Or.inl ⟨?hwb10, ?hyb10⟩) (by assumption) ?restb10
        case hib10 => (simp only [List.getElem?_toArray, List.getElem?_cons_succ, List.getElem?_cons_zero]; rfl)
        case hwb10 => rfl
        case hyb10 => (intro w hSw; (try dsimp only at hSw); go_simp; try with_reducible rfl)
        (try simp only [Act.put, List.setIfInBounds_toArray, List.set_cons_zero, List.set_cons_succ])
        refine Held.take (i := 11) (oi := ?ob11) (v := ?vb11) ?hib11 (by kernel_rfl) (by kernel_rfl) (by kernel_rfl) (by kernel_rfl) (fun _ _ _ h => h) (Or.inl ⟨?hwb11, ?hyb11⟩) (by assumption) ?restb11
        case hib11 => (simp only [List.getElem?_toArray, List.getElem?_cons_succ, List.getElem?_cons_zero]; rfl)
        case hwb11 => rfl
        case hyb11 => (intro w hSw; (try dsimp only at hSw); go_simp; try with_reducible rfl)
        (try simp only [Act.put, List.setIfInBounds_toArray, List.set_cons_zero, List.set_cons_succ])
        refine Held.next (i := 12) (o := ?ob12) (by kernel_rfl) ?hib12 (fun K hK => ?stb12)
        case hib12 => (simp only [List.getElem?_toArray, List.getElem?_cons_succ, List.getElem?_cons_zero]; rfl)
        go_simp
        (go_at_call 57; refine (IA.out _ ((Frm.refl _ _).drewN 1)).mono ?_; rintro e w' ⟨rfl, rfl⟩)
        (try go_wp2_with fail)
        refine hK.out _ _ (fun _ => by assumption) ?_
        clear hK K
        (try simp only [Act.put, List.setIfInBounds_toArray, List.set_cons_zero, List.set_cons_succ])
        refine Held.take (i := 13) (oi := ?ob13) (v := ?vb13) ?hib13 (by kernel_rfl) (by kernel_rfl) (by kernel_rfl) (by kernel_rfl) (fun _ _ _ h => h) (Or.inl ⟨?hwb13, ?hyb13⟩) (by assumption) ?restb13
        case hib13 => (simp only [List.getElem?_toArray, List.getElem?_cons_succ, List.getElem?_cons_zero]; rfl)
        case hwb13 => rfl
        case hyb13 => (intro w hSw; (try dsimp only at hSw); go_simp; try with_reducible rfl)
        (try simp only [Act.put, List.setIfInBounds_toArray, List.set_cons_zero, List.set_cons_succ])
        refine Held.take (i := 14) (oi := ?ob14) (v := undef) ?hib14 (by kernel_rfl) (by kernel_rfl) (by kernel_rfl) (by kernel_rfl) (fun _ _ _ h => h) (Or.inr ⟨?hwb14, rfl⟩) (by assumption) ?restb14
        case hib14 => (simp only [List.getElem?_toArray, List.getElem?_cons_succ, List.getElem?_cons_zero]; rfl)
        case hwb14 => rfl
        (try simp only [Act.put, List.setIfInBounds_toArray, List.set_cons_zero, List.set_cons_succ])
        refine Held.take (i := 15) (oi := ?ob15) (v := undef) ?hib15 (by kernel_rfl) (by kernel_rfl) (by kernel_rfl) (by kernel_rfl) (fun _ _ _ h => h) (Or.inr ⟨?hwb15, rfl⟩) (by assumption) ?restb15
        case hib15 => (simp only [List.getElem?_toArray, List.getElem?_cons_succ, List.getElem?_cons_zero]; rfl)
        case hwb15 => rfl
        (try simp only [Act.put, List.setIfInBounds_toArray, List.set_cons_zero, List.set_cons_succ])
        refine Held.take (i := 16) (oi := ?ob16) (v := undef) ?hib16 (by kernel_rfl) (by kernel_rfl) (by kernel_rfl) (by kernel_rfl) (fun _ _ _ h => h) (Or.inr ⟨?hwb16, rfl⟩) (by assumption) ?restb16
        case hib16 => (simp only [List.getElem?_toArray, List.getElem?_cons_succ, List.getElem?_cons_zero]; rfl)
        case hwb16 => rfl
        (try simp only [Act.put, List.setIfInBounds_toArray, List.set_cons_zero, List.set_cons_succ])
        refine Held.take (i := 17) (oi := ?ob17) (v := ?vb17) ?hib17 (by kernel_rfl) (by kernel_rfl) (by kernel_rfl) (by kernel_rfl) (fun _ _ _ h => h) (Or.inl ⟨?hwb17, ?hyb17⟩) (by assumption) ?restb17
        case hib17 => (simp only [List.getElem?_toArray, List.getElem?_cons_succ, List.getElem?_cons_zero]; rfl)
        case hwb17 => rfl
        case hyb17 => (intro w hSw; (try dsimp only at hSw); go_simp; try with_reducible rfl)
        (try simp only [Act.put, List.setIfInBounds_toArray, List.set_cons_zero, List.set_cons_succ])
        refine Held.take (i := 18) (oi := ?ob18) (v := ?vb18) ?hib18 (by kernel_rfl) (by kernel_rfl) (by kernel_rfl) (by kernel_rfl) (fun _ _ _ h => h) (Or.inl ⟨?hwb18, ?hyb18⟩) (by assumption) ?restb18
        case hib18 => (simp only [List.getElem?_toArray, List.getElem?_cons_succ, List.getElem?_cons_zero]; rfl)
        case hwb18 => rfl
        case hyb18 => (intro w hSw; (try dsimp only at hSw); go_simp; try with_reducible rfl)
        (try simp only [Act.put, List.setIfInBounds_toArray, List.set_cons_zero, List.set_cons_succ])
        refine Held.take (i := 19) (oi := ?ob19) (v := ?vb19) ?hib19 (by kernel_rfl) (by kernel_rfl) (by kernel_rfl) (by kernel_rfl) (fun _ _ _ h => h) (Or.inl ⟨?hwb19, ?hyb19⟩) (by assumption) ?restb19
        case hib19 => (simp only [List.getElem?_toArray, List.getElem?_cons_succ, List.getElem?_cons_zero]; rfl)
        case hwb19 => rfl
        case hyb19 => (intro w hSw; (try dsimp only at hSw); go_simp; try with_reducible rfl)
        (try simp only [Act.put, List.setIfInBounds_toArray, List.set_cons_zero, List.set_cons_succ])
        refine Held.take (i := 20) (oi := ?ob20) (v := ?vb20) ?hib20 (by kernel_rfl) (by kernel_rfl) (by kernel_rfl) (by kernel_rfl) (fun _ _ _ h => h) (Or.inl ⟨?hwb20, ?hyb20⟩) (by assumption) ?restb20
        case hib20 => (simp only [List.getElem?_toArray, List.getElem?_cons_succ, List.getElem?_cons_zero]; rfl)
        case hwb20 => rfl
        case hyb20 => (intro w hSw; (try dsimp only at hSw); go_simp; try with_reducible rfl)
        (try simp only [Act.put, List.setIfInBounds_toArray, List.set_cons_zero, List.set_cons_succ])
        refine Held.take (i := 21) (oi := ?ob21) (v := ?vb21) ?hib21 (by kernel_rfl) (by kernel_rfl) (by kernel_rfl) (by kernel_rfl) (fun _ _ _ h => h) (Or.inl ⟨?hwb21, ?hyb21⟩) (by assumption) ?restb21
        case hib21 => (simp only [List.getElem?_toArray, List.getElem?_cons_succ, List.getElem?_cons_zero]; rfl)
        case hwb21 => rfl
        case hyb21 => (intro w hSw; (try dsimp only at hSw); go_simp; try with_reducible rfl)
        (try simp only [Act.put, List.setIfInBounds_toArray, List.set_cons_zero, List.set_cons_succ])
        refine Held.take (i := 22) (oi := ?ob22) (v := ?vb22) ?hib22 (by kernel_rfl) (by kernel_rfl) (by kernel_rfl) (by kernel_rfl) (fun _ _ _ h => h) (Or.inl ⟨?hwb22, ?hyb22⟩) (by assumption) ?restb22
        case hib22 => (simp only [List.getElem?_toArray, List.getElem?_cons_succ, List.getElem?_cons_zero]; rfl)
        case hwb22 => rfl
        case hyb22 => (intro w hSw; (try dsimp only at hSw); go_simp; try with_reducible rfl)
        (try simp only [Act.put, List.setIfInBounds_toArray, List.set_cons_zero, List.set_cons_succ])
        refine Held.take (i := 23) (oi := ?ob23) (v := ?vb23) ?hib23 (by kernel_rfl) (by kernel_rfl) (by kernel_rfl) (by kernel_rfl) (fun _ _ _ h => h) (Or.inl ⟨?hwb23, ?hyb23⟩) (by assumption) ?restb23
        case hib23 => (simp only [List.getElem?_toArray, List.getElem?_cons_succ, List.getElem?_cons_zero]; rfl)
        case hwb23 => rfl
        case hyb23 => (intro w hSw; (try dsimp only at hSw); go_simp; try with_reducible rfl)
        (try simp only [Act.put, List.setIfInBounds_toArray, List.set_cons_zero, List.set_cons_succ])
        refine Held.take (i := 24) (oi := ?ob24) (v := ?vb24) ?hib24 (by kernel_rfl) (by kernel_rfl) (by kernel_rfl) (by kernel_rfl) (fun _ _ _ h => h) (Or.inl ⟨?hwb24, ?hyb24⟩) (by assumption) ?restb24
        case hib24 => (simp only [List.getElem?_toArray, List.getElem?_cons_succ, List.getElem?_cons_zero]; rfl)
        case hwb24 => rfl
        case hyb24 => (intro w hSw; (try dsimp only at hSw); go_simp; try with_reducible rfl)
        (try simp only [Act.put, List.setIfInBounds_toArray, List.set_cons_zero, List.set_cons_succ])
        refine Held.take (i := 25) (oi := ?ob25) (v := ?vb25) ?hib25 (by kernel_rfl) (by kernel_rfl) (by kernel_rfl) (by kernel_rfl) (fun _ _ _ h => h) (Or.inl ⟨?hwb25, ?hyb25⟩) (by assumption) ?restb25
        case hib25 => (simp only [List.getElem?_toArray, List.getElem?_cons_succ, List.getElem?_cons_zero]; rfl)
        case hwb25 => rfl
        case hyb25 => (intro w hSw; (try dsimp only at hSw); go_simp; try with_reducible rfl)
        (try simp only [Act.put, List.setIfInBounds_toArray, List.set_cons_zero, List.set_cons_succ])
        refine Held.take (i := 27) (oi := ?ob27) (v := ?vb27) ?hib27 (by kernel_rfl) (by kernel_rfl) (by kernel_rfl) (by kernel_rfl) (fun _ _ _ h => h) (Or.inl ⟨?hwb27, ?hyb27⟩) (by assumption) ?restb27
        case hib27 => (simp only [List.getElem?_toArray, List.getElem?_cons_succ, List.getElem?_cons_zero]; rfl)
        case hwb27 => rfl
        case hyb27 => (intro w hSw; (try dsimp only at hSw); go_simp; try with_reducible rfl)
        (try simp only [Act.put, List.setIfInBounds_toArray, List.set_cons_zero, List.set_cons_succ])
        refine Held.take (i := 28) (oi := ?ob28) (v := ?vb28) ?hib28 (by kernel_rfl) (by kernel_rfl) (by kernel_rfl) (by kernel_rfl) (fun _ _ _ h => h) (Or.inl ⟨?hwb28, ?hyb28⟩) (by assumption) ?restb28
        case hib28 => (simp only [List.getElem?_toArray, List.getElem?_cons_succ, List.getElem?_cons_zero]; rfl)
        case hwb28 => rfl
        case hyb28 => (intro w hSw; (try dsimp only at hSw); go_simp; try with_reducible rfl)
        (try simp only [Act.put, List.setIfInBounds_toArray, List.set_cons_zero, List.set_cons_succ])
        refine Held.next (i := 26) (o := ?ob26) (by kernel_rfl) ?hib26 (fun K hK => ?stb26)
        case hib26 => (simp only [List.getElem?_toArray, List.getElem?_cons_succ, List.getElem?_cons_zero]; rfl)
        go_simp
        (go_at_call 57; refine (IA.out _ ((Frm.refl _ _).drewN 1)).mono ?_; rintro e w' ⟨rfl, rfl⟩)
        (try go_wp2_with fail)
        refine hK.out _ _ (fun _ => by assumption) ?_
        clear hK K
        (try simp only [Act.put, List.setIfInBounds_toArray, List.set_cons_zero, List.set_cons_succ])
        refine Held.next (i := 29) (o := ?ob29) (by kernel_rfl) ?hib29 (fun K hK => ?stb29)
        case hib29 => (simp only [List.getElem?_toArray, List.getElem?_cons_succ, List.getElem?_cons_zero]; rfl)
        go_simp
        (go_at_call 57; refine (IB.out _ ((Frm.refl _ _).drewN 1)).mono ?_; rintro e w' ⟨rfl, rfl⟩)
        (try go_wp2_with fail)
        refine hK.out _ _ (fun _ => by assumption) ?_
        clear hK K
        (try simp only [Act.put, List.setIfInBounds_toArray, List.set_cons_zero, List.set_cons_succ])
        refine Held.take (i := 30) (oi := ?ob30) (v := ?vb30) ?hib30 (by kernel_rfl) (by kernel_rfl) (by kernel_rfl) (by kernel_rfl) (fun _ _ _ h => h) (Or.inl ⟨?hwb30, ?hyb30⟩) (by assumption) ?restb30
        case hib30 => (simp only [List.getElem?_toArray, List.getElem?_cons_succ, List.getElem?_cons_zero]; rfl)
        case hwb30 => rfl
        case hyb30 => (intro w hSw; (try dsimp only at hSw); go_simp; try with_reducible rfl)
        (try simp only [Act.put, List.setIfInBounds_toArray, List.set_cons_zero, List.set_cons_succ])
        refine Held.take (i := 31) (oi := ?ob31) (v := ?vb31) ?hib31 (by kernel_rfl) (by kernel_rfl) (by kernel_rfl) (by kernel_rfl) (fun _ _ _ h => h) (Or.inl ⟨?hwb31, ?hyb31⟩) (by assumption) ?restb31
        case hib31 => (simp only [List.getElem?_toArray, List.getElem?_cons_succ, List.getElem?_cons_zero]; rfl)
        case hwb31 => rfl
        case hyb31 => (intro w hSw; (try dsimp only at hSw); go_simp; try with_reducible rfl)
        (try simp only [Act.put, List.setIfInBounds_toArray, List.set_cons_zero, List.set_cons_succ])
        refine Held.take (i := 32) (oi := ?ob32) (v := ?vb32) ?hib32 (by kernel_rfl) (by kernel_rfl) (by kernel_rfl) (by kernel_rfl) (fun _ _ _ h => h) (Or.inl ⟨?hwb32, ?hyb32⟩) (by assumption) ?restb32
        case hib32 => (simp only [List.getElem?_toArray, List.getElem?_cons_succ, List.getElem?_cons_zero]; rfl)
        case hwb32 => rfl
        case hyb32 => (intro w hSw; (try dsimp only at hSw); go_simp; try with_reducible rfl)
        (try simp only [Act.put, List.setIfInBounds_toArray, List.set_cons_zero, List.set_cons_succ])
        refine Held.take (i := 33) (oi := ?ob33) (v := ?vb33) ?hib33 (by kernel_rfl) (by kernel_rfl) (by kernel_rfl) (by kernel_rfl) (fun _ _ _ h => h) (Or.inl ⟨?hwb33, ?hyb33⟩) (by assumption) ?restb33
        case hib33 => (simp only [List.getElem?_toArray, List.getElem?_cons_succ, List.getElem?_cons_zero]; rfl)
        case hwb33 => rfl
        case hyb33 => (intro w hSw; (try dsimp only at hSw); go_simp; try with_reducible rfl)
        (try simp only [Act.put, List.setIfInBounds_toArray, List.set_cons_zero, List.set_cons_succ])
        refine Held.take (i := 34) (oi := ?ob34) (v := ?vb34) ?hib34 (by kernel_rfl) (by kernel_rfl) (by kernel_rfl) (by kernel_rfl) (fun _ _ _ h => h) (Or.inl ⟨?hwb34, ?hyb34⟩) (by assumption) ?restb34
        case hib34 => (simp only [List.getElem?_toArray, List.getElem?_cons_succ, List.getElem?_cons_zero]; rfl)
        case hwb34 => rfl
        case hyb34 => (intro w hSw; (try dsimp only at hSw); go_simp; try with_reducible rfl)
        (try simp only [Act.put, List.setIfInBounds_toArray, List.set_cons_zero, List.set_cons_succ])
        refine Held.take (i := 35) (oi := ?ob35) (v := ?vb35) ?hib35 (by kernel_rfl) (by kernel_rfl) (by kernel_rfl) (by kernel_rfl) (fun _ _ _ h => h) (Or.inl ⟨?hwb35, ?hyb35⟩) (by assumption) ?restb35
        case hib35 => (simp only [List.getElem?_toArray, List.getElem?_cons_succ, List.getElem?_cons_zero]; rfl)
        case hwb35 => rfl
        case hyb35 => (intro w hSw; (try dsimp only at hSw); go_simp; try with_reducible rfl)
        (try simp only [Act.put, List.setIfInBounds_toArray, List.set_cons_zero, List.set_cons_succ])
        refine Held.take (i := 36) (oi := ?ob36) (v := ?vb36) ?hib36 (by kernel_rfl) (by kernel_rfl) (by kernel_rfl) (by kernel_rfl) (fun _ _ _ h => h) (Or.inl ⟨?hwb36, ?hyb36⟩) (by assumption) ?restb36
        case hib36 => (simp only [List.getElem?_toArray, List.getElem?_cons_succ, List.getElem?_cons_zero]; rfl)
        case hwb36 => rfl
        case hyb36 => (intro w hSw; (try dsimp only at hSw); go_simp; try with_reducible rfl)
        (try simp only [Act.put, List.setIfInBounds_toArray, List.set_cons_zero, List.set_cons_succ])
        refine Held.take (i := 37) (oi := ?ob37) (v := ?vb37) ?hib37 (by kernel_rfl) (by kernel_rfl) (by kernel_rfl) (by kernel_rfl) (fun _ _ _ h => h) (Or.inl ⟨?hwb37, ?hyb37⟩) (by assumption) ?restb37
        case hib37 => (simp only [List.getElem?_toArray, List.getElem?_cons_succ, List.getElem?_cons_zero]; rfl)
        case hwb37 => rfl
        case hyb37 => (intro w hSw; (try dsimp only at hSw); go_simp; try with_reducible rfl)
        (try simp only [Act.put, List.setIfInBounds_toArray, List.set_cons_zero, List.set_cons_succ])
        refine Held.take (i := 38) (oi := ?ob38) (v := ?vb38) ?hib38 (by kernel_rfl) (by kernel_rfl) (by kernel_rfl) (by kernel_rfl) (fun _ _ _ h => h) (Or.inl ⟨?hwb38, ?hyb38⟩) (by assumption) ?restb38
        case hib38 => (simp only [List.getElem?_toArray, List.getElem?_cons_succ, List.getElem?_cons_zero]; rfl)
        case hwb38 => rfl
        case hyb38 => (intro w hSw; (try dsimp only at hSw); go_simp; try with_reducible rfl)
        (try simp only [Act.put, List.setIfInBounds_toArray, List.set_cons_zero, List.set_cons_succ])
        refine Held.take (i := 39) (oi := ?ob39) (v := ?vb39) ?hib39 (by kernel_rfl) (by kernel_rfl) (by kernel_rfl) (by kernel_rfl) (fun _ _ _ h => h) (Or.inl ⟨?hwb39, ?hyb39⟩) (by assumption) ?restb39
        case hib39 => (simp only [List.getElem?_toArray, List.getElem?_cons_succ, List.getElem?_cons_zero]; rfl)
        case hwb39 => rfl
        case hyb39 => (intro w hSw; (try dsimp only at hSw); go_simp; try with_reducible rfl)
        (try simp only [Act.put, List.setIfInBounds_toArray, List.set_cons_zero, List.set_cons_succ])
        refine Held.take (i := 40) (oi := ?ob40) (v := ?vb40) ?hib40 (by kernel_rfl) (by kernel_rfl) (by kernel_rfl) (by kernel_rfl) (fun _ _ _ h => h) (Or.inl ⟨?hwb40, ?hyb40⟩) (by assumption) ?restb40
        case hib40 => (simp only [List.getElem?_toArray, List.getElem?_cons_succ, List.getElem?_cons_zero]; rfl)
        case hwb40 => rfl
        case hyb40 => (intro w hSw; (try dsimp only at hSw); go_simp; try with_reducible rfl)
        (try simp only [Act.put, List.setIfInBounds_toArray, List.set_cons_zero, List.set_cons_succ])
        refine Held.take (i := 41) (oi := ?ob41) (v := ?vb41) ?hib41 (by kernel_rfl) (by kernel_rfl) (by kernel_rfl) (by kernel_rfl) (fun _ _ _ h => h) (Or.inl ⟨?hwb41, ?hyb41⟩) (by assumption) ?restb41
        case hib41 => (simp only [List.getElem?_toArray, List.getElem?_cons_succ, List.getElem?_cons_zero]; rfl)
        case hwb41 => rfl
        case hyb41 => (intro w hSw; (try dsimp only at hSw); go_simp; try with_reducible rfl)
        (try simp only [Act.put, List.setIfInBounds_toArray, List.set_cons_zero, List.set_cons_succ])
        refine Held.take (i := 42) (oi := ?ob42) (v := ?vb42) ?hib42 (by kernel_rfl) (by kernel_rfl) (by kernel_rfl) (by kernel_rfl) (fun _ _ _ h => h) (Or.inl ⟨?hwb42, ?hyb42⟩) (by assumption) ?restb42
        case hib42 => (simp only [List.getElem?_toArray, List.getElem?_cons_succ, List.getElem?_cons_zero]; rfl)
        case hwb42 => rfl
        case hyb42 => (intro w hSw; (try dsimp only at hSw); go_simp; try with_reducible rfl)
        (try simp only [Act.put, List.setIfInBounds_toArray, List.set_cons_zero, List.set_cons_succ])
        refine Held.take (i := 43) (oi := ?ob43) (v := ?vb43) ?hib43 (by kernel_rfl) (by kernel_rfl) (by kernel_rfl) (by kernel_rfl) (fun _ _ _ h => h) (Or.inl ⟨?hwb43, ?hyb43⟩) (by assumption) ?restb43
        case hib43 => (simp only [List.getElem?_toArray, List.getElem?_cons_succ, List.getElem?_cons_zero]; rfl)
        case hwb43 => rfl
        case hyb43 => (intro w hSw; (try dsimp only at hSw); go_simp; try with_reducible rfl)
        (try simp only [Act.put, List.setIfInBounds_toArray, List.set_cons_zero, List.set_cons_succ])
        refine Held.take (i := 44) (oi := ?ob44) (v := ?vb44) ?hib44 (by kernel_rfl) (by kernel_rfl) (by kernel_rfl) (by kernel_rfl) (fun _ _ _ h => h) (Or.inl ⟨?hwb44, ?hyb44⟩) (by assumption) ?restb44
        case hib44 => (simp only [List.getElem?_toArray, List.getElem?_cons_succ, List.getElem?_cons_zero]; rfl)
        case hwb44 => rfl
        case hyb44 => (intro w hSw; (try dsimp only at hSw); go_simp; try with_reducible rfl)
        (try simp only [Act.put, List.setIfInBounds_toArray, List.set_cons_zero, List.set_cons_succ])
        refine Held.take (i := 45) (oi := ?ob45) (v := ?vb45) ?hib45 (by kernel_rfl) (by kernel_rfl) (by kernel_rfl) (by kernel_rfl) (fun _ _ _ h => h) (Or.inl ⟨?hwb45, ?hyb45⟩) (by assumption) ?restb45
        case hib45 => (simp only [List.getElem?_toArray, List.getElem?_cons_succ, List.getElem?_cons_zero]; rfl)
        case hwb45 => rfl
        case hyb45 => (intro w hSw; (try dsimp only at hSw); go_simp; try with_reducible rfl)
        (try simp only [Act.put, List.setIfInBounds_toArray, List.set_cons_zero, List.set_cons_succ])
        refine Held.take (i := 46) (oi := ?ob46) (v := ?vb46) ?hib46 (by kernel_rfl) (by kernel_rfl) (by kernel_rfl) (by kernel_rfl) (fun _ _ _ h => h) (Or.inl ⟨?hwb46, ?hyb46⟩) (by assumption) ?restb46
        case hib46 => (simp only [List.getElem?_toArray, List.getElem?_cons_succ, List.getElem?_cons_zero]; rfl)
        case hwb46 => rfl
        case hyb46 => (intro w hSw; (try dsimp only at hSw); go_simp; try with_reducible rfl)
        (try simp only [Act.put, List.setIfInBounds_toArray, List.set_cons_zero, List.set_cons_succ])
        refine Held.take (i := 47) (oi := ?ob47) (v := ?vb47) ?hib47 (by kernel_rfl) (by kernel_rfl) (by kernel_rfl) (by kernel_rfl) (fun _ _ _ h => h) (Or.inl ⟨?hwb47, ?hyb47⟩) (by assumption) ?restb47
        case hib47 => (simp only [List.getElem?_toArray, List.getElem?_cons_succ, List.getElem?_cons_zero]; rfl)
        case hwb47 => rfl
        case hyb47 => (intro w hSw; (try dsimp only at hSw); go_simp; try with_reducible rfl)
        (try simp only [Act.put, List.setIfInBounds_toArray, List.set_cons_zero, List.set_cons_succ])
        refine Held.take (i := 48) (oi := ?ob48) (v := ?vb48) ?hib48 (by kernel_rfl) (by kernel_rfl) (by kernel_rfl) (by kernel_rfl) (fun _ _ _ h => h) (Or.inl ⟨?hwb48, ?hyb48⟩) (by assumption) ?restb48
        case hib48 => (simp only [List.getElem?_toArray, List.getElem?_cons_succ, List.getElem?_cons_zero]; rfl)
        case hwb48 => rfl
        case hyb48 => (intro w hSw; (try dsimp only at hSw); go_simp; try with_reducible rfl)
        (try simp only [Act.put, List.setIfInBounds_toArray, List.set_cons_zero, List.set_cons_succ])
        refine Held.take (i := 49) (oi := ?ob49) (v := ?vb49) ?hib49 (by kernel_rfl) (by kernel_rfl) (by kernel_rfl) (by kernel_rfl) (fun _ _ _ h => h) (Or.inl ⟨?hwb49, ?hyb49⟩) (by assumption) ?restb49
        case hib49 => (simp only [List.getElem?_toArray, List.getElem?_cons_succ, List.getElem?_cons_zero]; rfl)
        case hwb49 => rfl
        case hyb49 => (intro w hSw; (try dsimp only at hSw); go_simp; try with_reducible rfl)
        (try simp only [Act.put, List.setIfInBounds_toArray, List.set_cons_zero, List.set_cons_succ])
        refine Held.take (i := 50) (oi := ?ob50) (v := ?vb50) ?hib50 (by kernel_rfl) (by kernel_rfl) (by kernel_rfl) (by kernel_rfl) (fun _ _ _ h => h) (Or.inl ⟨?hwb50, ?hyb50⟩) (by assumption) ?restb50
        case hib50 => (simp only [List.getElem?_toArray, List.getElem?_cons_succ, List.getElem?_cons_zero]; rfl)
        case hwb50 => rfl
        case hyb50 => (intro w hSw; (try dsimp only at hSw); go_simp; try with_reducible rfl)
        (try simp only [Act.put, List.setIfInBounds_toArray, List.set_cons_zero, List.set_cons_succ])
        refine Held.take (i := 51) (oi := ?ob51) (v := ?vb51) ?hib51 (by kernel_rfl) (by kernel_rfl) (by kernel_rfl) (by kernel_rfl) (fun _ _ _ h => h) (Or.inl ⟨?hwb51, ?hyb51⟩) (by assumption) ?restb51
        case hib51 => (simp only [List.getElem?_toArray, List.getElem?_cons_succ, List.getElem?_cons_zero]; rfl)
        case hwb51 => rfl
        case hyb51 => (intro w hSw; (try dsimp only at hSw); go_simp; try with_reducible rfl)
        (try simp only [Act.put, List.setIfInBounds_toArray, List.set_cons_zero, List.set_cons_succ])
        refine Held.take (i := 52) (oi := ?ob52) (v := ?vb52) ?hib52 (by kernel_rfl) (by kernel_rfl) (by kernel_rfl) (by kernel_rfl) (fun _ _ _ h => h) (Or.inl ⟨?hwb52, ?hyb52⟩) (by assumption) ?restb52
        case hib52 => (simp only [List.getElem?_toArray, List.getElem?_cons_succ, List.getElem?_cons_zero]; rfl)
        case hwb52 => rfl
        case hyb52 => (intro w hSw; (try dsimp only at hSw); go_simp; try with_reducible rfl)
        (try simp only [Act.put, List.setIfInBounds_toArray, List.set_cons_zero, List.set_cons_succ])
        refine Held.take (i := 53) (oi := ?ob53) (v := ?vb53) ?hib53 (by kernel_rfl) (by kernel_rfl) (by kernel_rfl) (by kernel_rfl) (fun _ _ _ h => h) (Or.inl ⟨?hwb53, ?hyb53⟩) (by assumption) ?restb53
        case hib53 => (simp only [List.getElem?_toArray, List.getElem?_cons_succ, List.getElem?_cons_zero]; rfl)
        case hwb53 => rfl
        case hyb53 => (intro w hSw; (try dsimp only at hSw); go_simp; try with_reducible rfl)
        (try simp only [Act.put, List.setIfInBounds_toArray, List.set_cons_zero, List.set_cons_succ])
        refine Held.take (i := 54) (oi := ?ob54) (v := ?vb54) ?hib54 (by kernel_rfl) (by kernel_rfl) (by kernel_rfl) (by kernel_rfl) (fun _ _ _ h => h) (Or.inl ⟨?hwb54, ?hyb54⟩) (by assumption) ?restb54
        case hib54 => (simp only [List.getElem?_toArray, List.getElem?_cons_succ, List.getElem?_cons_zero]; rfl)
        case hwb54 => rfl
        case hyb54 => (intro w hSw; (try dsimp only at hSw); go_simp; try with_reducible rfl)
        (try simp only [Act.put, List.setIfInBounds_toArray, List.set_cons_zero, List.set_cons_succ])
        refine Held.done (by kernel_rfl) ?_ _
        refine NoPanic.normal ?_
        all_goals
          go_wp2_with fail
          go_ret
          exact ⟨rfl, hf11'.drewN _⟩

set_option maxRecDepth 100000 in
theorem gworth_law (n : Int) (_ : (Lit.int .i64 n).wf = true) (a : Int) (_ : (Lit.int .i64 a).wf = true) (b : Int) (_ : (Lit.int .i64 b).wf = true) (c : Int) (_ : (Lit.int .i64 c).wf = true)
    (a0 : Option Addr) (len0 cap0 : Nat) (z0 : List Int) (hz0 : z0.length = len0) {w0 : World} (s0 : Sl w0 (fun k => k < w0.heap.size) 1 (.slice a0 len0 cap0) len0 (z0.map (.int .i64))) (_ : ∀ n ∈ z0, (Lit.int .i64 n).wf = true) (w : World) (e : w = w0) :
    Calls Tryd.prog 8 #[.int .i64 n, .int .i64 a, .int .i64 b, .int .i64 c, .slice a0 len0 cap0] w fun e w' => e = .returned (.bool true) ∧ Frm (fun _ => False) w w' := by
  subst e
  by_cases h : len0 ≤ 20
  · exact gworth_any n a b c a0 len0 cap0 z0 hz0 w s0 h
  · have c1 : (20 : Int) < len0 := by omega
    go_enter Tryd.func8, Tryd.ntmps8
    go_wp2_with fail
    refine (first9_any w).mono ?_
    rintro e w1 ⟨rfl, hf1⟩
    go_wp2_with fail
    go_ret
    exact ⟨rfl, hf1⟩

end Go.Proofs.YtkjlgamggkencaaDoor
