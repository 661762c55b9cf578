/-
  The walk of GateClauses.
-/
import Derived.Test.YtkjlgamggkencaaDoorGateCl
import Derived.Test.YtkjlgamggkencaaDoorLaw9
import Derived.Test.YtkjlgamggkencaaDoorGateWorth
import Derived.Test.YtkjlgamggkencaaDoorRegion
namespace Go.Proofs.YtkjlgamggkencaaDoor
open Go.RowKit

theorem one_bool {w : World} {F : Nat → Prop} {A : Option Addr} {c : Nat} {b : Bool} (h : Sl w F 1 (.slice A 1 c) 1 ([b].map .bool)) : ∃ g o, A = some ⟨g, o, none⟩ ∧ w.cell? ⟨g, o, none⟩ = some (.bool b) := by
  obtain ⟨b', o, u, e, _, hu, hc⟩ := h.at_ (k := 0) (by omega)
  simp at hu
  subst hu
  exact ⟨b', o, e, by simpa using hc⟩
theorem any_take {C : List Int} {f : Int → Bool} {j : Nat} (h : j < C.length) : (C.take (j + 1)).any f = ((C.take j).any f || f (C.getD j 0)) := by
  rw [List.take_succ_eq_append_getElem h, List.any_append]; simp [List.getD, h]
theorem all_take {C : List (List Int)} {f : List Int → Bool} {j : Nat} (h : j < C.length) : (C.take (j + 1)).all f = ((C.take j).all f && f (C.getD j [])) := by
  rw [List.take_succ_eq_append_getElem h, List.all_append]; simp [List.getD, h]

set_option maxRecDepth 100000 in
set_option maxHeartbeats 16000000 in
theorem gcl_any (a0 : Option Addr) (len0 cap0 : Nat) (z0 : List Int) (hz0 : z0.length = len0) (nv : Int) (w : World)
    (s0 : Sl w (fun k => k < w.heap.size) 1 (.slice a0 len0 cap0) len0 (z0.map (.int .i64))) (h0 : len0 ≤ 80) :
    Calls Tryd.prog 15 #[.slice a0 len0 cap0, .int .i64 nv] w fun e w' => e = .returned (.bool true) ∧ Frm (fun _ => False) w w' := by
  have t0 : decide ((80 : Int) < (len0 : Int)) = false := by simp; omega
  obtain ⟨hok, hsum⟩ := mkClauses_ok (vars := 10) (by omega) z0
  have hfew := mkClauses_few (vars := 10) (by omega) z0
  rw [hz0] at hsum hfew
  have HMK := Lib.hid (fun (W : World) (hf : Frm (fun _ => False) w W) => mkcl_any 10 a0 len0 cap0 _ z0 W hz0 (by omega) (by omega) (by omega) (fun k hk => by have := hf.size; omega) (s0.frm hf (fun _ _ => id)))
  have hup := clG_up (g := ⟨10, [], 0⟩) (Made.nil 10) (cs := mkClauses z0 10) (fun c hc x hx => (hok c hc).2.2 x hx) (by show 10 + 0 + _ + _ ≤ 8000; omega)
  have HOK := Lib.hid hok
  have HSU := Lib.hid hsum
  have HUP := Lib.hid hup
  clear hz0 s0 hok hup hsum
  generalize mkClauses z0 10 = cs at *
  go_enter Tryd.func15, Tryd.ntmps15
  go_wp2_with fail
  refine (first9_any w).mono ?_
  rintro e w1 ⟨rfl, hf1⟩
  go_wp2_with fail
  refine (on_new E0 rfl 10 w1).mono ?_
  rintro e w2 ⟨gb, rfl, hO2, hf2⟩
  rw [show clamp 10 = 10 from by decide +kernel] at hO2
  have hf02 := hf1.trans hf2
  go_wp2_with fail
  refine (HMK.out w2 hf02).mono ?_
  rintro e w3 ⟨v, rfl, hR, hf3⟩
  have hf03 := hf02.trans hf3
  obtain ⟨A, c, rfl, _⟩ := hR.form
  have hR3 := hR.rw
  clear hR HMK
  go_wp2_with fail
  refine (values_any nv 10 (by omega) w3).mono ?_
  rintro e w4 ⟨Ai, ci, rfl, hown, hf4⟩
  have hO4 := On.wide (K' := fun k => k < w1.heap.size ∨ (w2.heap.size ≤ k ∧ k < w4.heap.size)) hO2 (hf3.trans hf4) (fun k hk => hk)
  have hin4 := own_sl hown
  have hinl := mkVals_length nv 10
  have hs1 := hf1.size
  have hs2 := hf2.size
  have hs3 := hf3.size
  have hs4 := hf4.size
  have hR4 : Rw w4 (fun k => w2.heap.size ≤ k ∧ k < w4.heap.size) (.slice A cs.length c) cs.length cs := (hR3.frm hf4 (fun _ _ => id)).mono (fun k hk h => ⟨h, hk⟩)
  have hf04 := hf03.trans hf4
  generalize mkVals nv 10 = inp at *
  have HGC := Lib.hid (gclauses_any hO4 A cs.length c _ cs hR4 (fun k hk => .inr hk) (Made.nil 10) (fun c hc x hx => (HOK.out c hc).2.2 x hx) (fun c hc => (HOK.out c hc).1) (by show 10 + 0 + _ + _ ≤ 8000; have := HSU.out; omega) (by omega))
  clear hO2 hO4 hR3 hown hf1 hf2 hf3 hf4 hf02 hf03
  generalize clG ⟨10, [], 0⟩ cs = R at *
  obtain ⟨r, gr⟩ := R
  simp only at HGC HUP
  go_wp2_with fail
  refine HGC.out.mono ?_
  rintro e w5 ⟨rfl, hO5, hf5⟩
  have hR5 := hR4.frm hf5 (fun k hk h => h (.inr hk))
  have hin5 := hin4.frm hf5 (fun k hk h => h (.inr (by omega)))
  have hf05 := frm_kept hf04 hf5 (fun k hk => .inl (by have := hf5.size; omega))
  clear HGC hf5 hR4 hin4 hf04
  have hfr := (Frm.refl (fun _ => False) w5).alloc (.cells #[.int .i64 r] 3)
  have hsl := (Blk.new w5 3 [.int .i64 r]).sl 1 1 rfl
  have HCI := Lib.hid (on_circuit (hO5.frm hfr) (some ⟨w5.heap.size, 0, none⟩) 1 1 _ [r] rfl (by omega) hsl)
  have hOR := hO5.frm hfr
  have hRR := hR5.frm hfr (fun _ _ => id)
  have hinR := hin5.frm hfr (fun _ _ => id)
  have hfR := hf05.trans hfr
  clear hsl hfr hO5 hR5 hin5 hf05
  go_wp2_with fail
  refine HCI.out.mono ?_
  rintro e w6 ⟨v, rfl, hC, hf6⟩
  have hO6 := hOR.frm hf6
  have hR6 := hRR.frm hf6 (fun _ _ => id)
  have hin6 := hinR.frm hf6 (fun _ _ => id)
  have hf06 := hfR.trans hf6
  have hn10 : gr.n = 10 := HUP.out.1.num
  have hbad : gr.bad = 0 := HUP.out.1.bad
  have hhi : gr.n + gr.ands.length ≤ 10 + 160 := by have h1 : gr.n + gr.ands.length ≤ 10 + _ := HUP.out.1.high; have := HSU.out; omega
  have HEV := Lib.hid (reval_isC hC Ai 10 ci inp hinl HUP.out.1.made.1 (by omega) (by omega) (by simp) (by intro y hy; simp at hy; subst hy; exact HUP.out.2.1) hin6)
  rw [show evalOuts (nodes gr.n gr.ands inp) [r] = [worth (gr.nod inp) r] from rfl, HUP.out.2.2 inp] at HEV
  have HBD := Lib.hid hbad
  clear HCI hOR hRR hinR hfR hf6 hC hn10 hbad hhi
  go_wp2_with fail
  refine HEV.out.mono ?_
  rintro e w7 ⟨Av, cv, rfl, hown7, hf7⟩
  obtain ⟨gv, ov, rfl, hcv⟩ := one_bool (own_sl hown7)
  have hO7 := hO6.frm hf7
  have hR7 := hR6.frm hf7 (fun _ _ => id)
  have hin7 := hin6.frm hf7 (fun _ _ => id)
  have hf07 := hf06.trans hf7
  simp only [List.length_cons, List.length_nil]
  clear HEV hown7 hO6 hR6 hin6 hf06 hf7
  go_wp2_with fail
  go_loopw [10, 11] (fun av iv wr => ∃ (k : Nat), k ≤ cs.length ∧ iv = .int .i64 k ∧ av = .bool ((cs.take k).all fun c => c.any (litV inp)) ∧ Frm (fun _ => False) w7 wr) (fun _ iv _ => cs.length - (intOf iv).toNat)
  case atStart => exact ⟨0, by omega, rfl, rfl, Frm.refl _ _⟩
  case round =>
    obtain ⟨k, hk, rfl, rfl, hfk⟩ := hrel
    by_cases hlt : k < cs.length
    · obtain ⟨b, o, B, d, rfl, _, hc, hsB⟩ := (hR7.frm hfk (fun _ _ => id)).at_ hlt
      have hok := HOK.out (cs.getD k []) (by simp [List.getD, hlt])
      have hat := all_take (f := fun c => c.any (litV inp)) hlt
      have HAT := Lib.hid hat
      clear hat
      generalize cs.getD k [] = C at *
      generalize ((cs.take k).all fun c => c.any (litV inp)) = ab at *
      have hink := hin7.frm hfk (fun _ _ => id)
      have k0 : (0 : Int) ≤ k := by omega
      have k1 : (k : Int) < cs.length := by omega
      obtain ⟨wo, rfl⟩ : ∃ wo, wo = wr := ⟨_, rfl⟩
      go_wp2_with fail
      go_loopw [12, 13] (fun sv jv wr => ∃ (j : Nat), j ≤ C.length ∧ jv = .int .i64 j ∧ sv = .bool ((C.take j).any (litV inp)) ∧ Frm (fun _ => False) wo wr) (fun _ jv _ => C.length - (intOf jv).toNat)
      case atStart => exact ⟨0, by omega, rfl, rfl, Frm.refl _ _⟩
      case round =>
        obtain ⟨j, hj, rfl, rfl, hfj⟩ := hrel
        have hc := hfj.cell hc id
        by_cases hjl : j < C.length
        · obtain ⟨b', o', u', rfl, _, hu', hcell⟩ := (hsB.frm hfj (fun _ _ => id)).at_ hjl
          obtain rfl := at_getD hu'
          have hy := hok.2.2 (C.getD j 0) (by simp [List.getD, hjl])
          have hat := any_take (f := litV inp) hjl
          have HAN := Lib.hid hat
          clear hat hu'
          generalize C.getD j 0 = y at *
          generalize (C.take j).any (litV inp) = sb at *
          have jj0 : (0 : Int) ≤ j := by omega
          have jj1 : (j : Int) < C.length := by omega
          obtain ⟨y0, y1, y2⟩ := hy
          cases sb
          · by_cases hp : 0 < y
            · have hlv : litV inp y = inp.getD (y - 1).toNat false := by unfold litV; rw [if_pos hp]
              obtain ⟨b2, o2, u2, rfl, _, hu2, hcell2⟩ := (hink.frm hfj (fun _ _ => id)).at_ (k := (y - 1).toNat) (by omega)
              obtain rfl := at_bool hu2
              have wy : IntKind.i64.wrap (y - 1) = y - 1 := IntWalk.i64_in _ (by omega)
              have i0 : (0 : Int) ≤ y - 1 := by omega
              have i1 : y - 1 < 10 := by omega
              have hnn : ¬ y < 0 := by omega
              rw [show (y - 1).toNat = y.toNat - 1 from by omega] at hcell2 hlv
              clear hu2
              generalize inp.getD (y.toNat - 1) false = q at *
              have HLV := Lib.hid hlv
              clear hlv
              cases q
              · go_wp2_with fail
                go_roundw
                case rel => exact ⟨j + 1, by omega, by go_num, by rw [HAN.out, HLV.out]; rfl, hfj⟩
                case measure => simp [intOf]; omega
              · go_wp2_with fail
                go_roundw
                case rel => exact ⟨j + 1, by omega, by go_num, by rw [HAN.out, HLV.out]; rfl, hfj⟩
                case measure => simp [intOf]; omega
            · have hlv : litV inp y = !inp.getD (-y - 1).toNat false := by unfold litV; rw [if_neg hp]
              obtain ⟨b2, o2, u2, rfl, _, hu2, hcell2⟩ := (hink.frm hfj (fun _ _ => id)).at_ (k := (-y - 1).toNat) (by omega)
              obtain rfl := at_bool hu2
              have wz : IntKind.i64.wrap (-y) = -y := IntWalk.i64_in _ (by omega)
              have wy : IntKind.i64.wrap (-y - 1) = -y - 1 := IntWalk.i64_in _ (by omega)
              have i0 : (0 : Int) ≤ -y - 1 := by omega
              have i1 : -y - 1 < 10 := by omega
              have hnn : y < 0 := by omega
              rw [show (-y - 1).toNat = (-y).toNat - 1 from by omega] at hcell2 hlv
              clear hu2
              generalize inp.getD ((-y).toNat - 1) false = q at *
              have HLV := Lib.hid hlv
              clear hlv
              cases q
              · go_wp2_with fail
                go_roundw
                case rel => exact ⟨j + 1, by omega, by go_num, by rw [HAN.out, HLV.out]; rfl, hfj⟩
                case measure => simp [intOf]; omega
              · go_wp2_with fail
                go_roundw
                case rel => exact ⟨j + 1, by omega, by go_num, by rw [HAN.out, HLV.out]; rfl, hfj⟩
                case measure => simp [intOf]; omega
          · go_wp2_with fail
            go_roundw
            case rel => exact ⟨j + 1, by omega, by go_num, by rw [HAN.out]; rfl, hfj⟩
            case measure => simp [intOf]; omega
        · have hjm : j = C.length := by omega
          subst hjm
          have hjn : ¬ (C.length : Int) < C.length := by omega
          rw [List.take_of_length_le (Nat.le_refl _)]
          generalize C.any (litV inp) = sb at *
          have hfq := hfk.trans hfj
          clear hfj hfk
          cases ab <;> cases sb
          · go_wp2_with fail
            go_roundw
            case rel => exact ⟨k + 1, by omega, by go_num, by rw [HAT.out]; rfl, hfq⟩
            case measure => simp [intOf]; omega
          · go_wp2_with fail
            go_roundw
            case rel => exact ⟨k + 1, by omega, by go_num, by rw [HAT.out]; rfl, hfq⟩
            case measure => simp [intOf]; omega
          · go_wp2_with fail
            go_roundw
            case rel => exact ⟨k + 1, by omega, by go_num, by rw [HAT.out]; rfl, hfq⟩
            case measure => simp [intOf]; omega
          · go_wp2_with fail
            go_roundw
            case rel => exact ⟨k + 1, by omega, by go_num, by rw [HAT.out]; rfl, hfq⟩
            case measure => simp [intOf]; omega
    · have hkn : k = cs.length := by omega
      subst hkn
      have hjn : ¬ (cs.length : Int) < cs.length := by omega
      rw [List.take_of_length_le (Nat.le_refl _)]
      have hcv := hfk.cell hcv id
      have hf0k := hf07.trans hfk
      obtain ⟨fp, hG, _⟩ := hO7.frm hfk
      have HER := Lib.hid (fun (W : World) (hf : Frm (fun _ => False) wr W) => err_any E0 fp gb gr W (hG.frm hf (fun _ _ => id)) .nilIface (by rw [HBD.out]; rfl))
      clear hG
      generalize (cs.all fun c => c.any (litV inp)) = vb at *
      go_wp2_with fail
      refine (HER.out wr (Frm.refl _ _)).mono ?_
      rintro e w' ⟨rfl, rfl⟩
      go_wp2_with fail
      go_ret
      exact ⟨ret_bool (by simp), hf0k⟩

set_option maxRecDepth 100000 in
set_option maxHeartbeats 2000000 in
theorem gcl_law (a0 : Option Addr) (len0 cap0 : Nat) (z0 : List Int) (hz0 : z0.length = len0) {w0 : World} (s0 : Sl w0 (fun k => k < w0.heap.size) 1 (.slice a0 len0 cap0) len0 (z0.map (.int .i64))) (_ : ∀ n ∈ z0, (Lit.int .i64 n).wf = true)
    (n : Int) (_ : (Lit.int .i64 n).wf = true) (w : World) (e : w = w0) :
    Calls Tryd.prog 15 #[.slice a0 len0 cap0, .int .i64 n] w fun e w' => e = .returned (.bool true) ∧ Frm (fun _ => False) w w' := by
  subst e
  by_cases h : len0 ≤ 80
  · exact gcl_any a0 len0 cap0 z0 hz0 n w s0 h
  · have t0 : decide ((80 : Int) < (len0 : Int)) = true := by simp; omega
    go_enter Tryd.func15, Tryd.ntmps15
    go_wp2_with fail
    refine (first9_any w).mono ?_
    rintro e w1 ⟨rfl, hf1⟩
    go_wp2_with fail
    go_ret
    exact ⟨rfl, hf1⟩

end Go.Proofs.YtkjlgamggkencaaDoor
