/-
  The walk of TseitinSizes.
-/
import Derived.Test.YtkjlgamggkencaaDoorTseitinSizesP
import Derived.Test.YtkjlgamggkencaaDoorCheckCNF
import Derived.Test.YtkjlgamggkencaaDoorRBuild
import Derived.Test.YtkjlgamggkencaaDoorRegion2
namespace Go.Proofs.YtkjlgamggkencaaDoor
open Go.RowKit

set_option maxRecDepth 100000 in
set_option maxHeartbeats 16000000 in
theorem tsz_any (N : Nat) (a0 : Option Addr) (len0 cap0 : Nat) (z0 : List Int) (hz0 : z0.length = len0) (a1 : Option Addr) (len1 cap1 : Nat) (z1 : List Int) (hz1 : z1.length = len1) (w : World)
    (s0 : Sl w (fun k => k < w.heap.size) 1 (.slice a0 len0 cap0) len0 (z0.map (.int .i64))) (s1 : Sl w (fun k => k < w.heap.size) 1 (.slice a1 len1 cap1) len1 (z1.map (.int .i64))) (h0 : len0 ≤ 60) (h1 : len1 ≤ 8) (hN1 : 1 ≤ N) (hN2 : N ≤ 20) :
    Calls Tryd.prog 7 #[.int .i64 N, .slice a0 len0 cap0, .slice a1 len1 cap1] w fun e w' => e = .returned (.bool true) ∧ Frm (fun _ => False) w w' := by
  have t0 : decide ((60 : Int) < (len0 : Int)) = false := by simp; omega
  have t1 : decide ((8 : Int) < (len1 : Int)) = false := by simp; omega
  have t2 : decide ((N : Int) < 1) = false := by simp; omega
  have t3 : decide ((20 : Int) < (N : Int)) = false := by simp; omega
  obtain ⟨j0, hj0, hq0, hq1, hq2⟩ := info_parts infoIntG
  have hlm : (mkAnds N z0).length ≤ 30 := by rw [mkAnds_length]; omega
  have hr := mkAnds_right N z0
  have HMK := Lib.hid (fun W (hf : Frm (fun _ => False) w W) => make_any N a0 len0 cap0 z0 hz0 none 0 0 [] rfl _ (fun _ => False) W (s0.frm hf (fun _ _ => id)) (Sl.nil_ _ _ _) (by omega) (by omega) (by omega))
  have HR := Lib.hid hr
  have HZ := Lib.hid hz1
  clear hz0 s0 hr hz1
  generalize mkAnds N z0 = L at *
  have hmo : mkOuts N z0 [] = [] := rfl
  rw [hmo] at HMK
  clear hmo
  have hbi := bld_inv HR.out (by omega)
  go_enter Tryd.func7, Tryd.ntmps7
  go_wp2_with fail
  refine (first13_any w).mono ?_
  rintro e w1 ⟨rfl, hf1⟩
  go_wp2_with fail
  refine (HMK.out w1 hf1).mono ?_
  rintro e w2 ⟨v, rfl, ⟨A, c, B, d, rfl, hA, hB⟩, hf2⟩
  have hf02 := hf1.trans hf2
  clear HMK hf1 hf2
  have HB := Lib.hid (fun (W : World) (hf : Frm (fun _ => False) w2 W) => rbuild_any N A L.length c B 0 d L [] _ _ W rfl rfl (by omega) (by omega) HR.out (by simp) (hA.frm hf (fun _ _ => id)) (hB.frm hf (fun _ _ => id)))
  go_wp2_with fail
  refine (HB.out w2 (Frm.refl _ _)).mono ?_
  rintro e w3 ⟨gx, xp, O, q, rfl, hX, hxp, _, hf3⟩
  obtain ⟨hnum, _, hmade, hlen, _, _, _⟩ := hbi
  rw [hnum] at hmade
  clear HB hA hB
  generalize (bld N L).1 = gr at *
  have hXC := xcircuit_any xp gx gr w3 hX none 0 0 (fun _ => False) [] rfl (by omega) (Sl.nil_ _ _ _)
  rw [hnum] at hXC
  generalize gr.ands = M at *
  have HXC := Lib.hid hXC
  have HMD := Lib.hid hmade
  clear hXC hX hxp hnum hmade HR
  have hlm2 : M.length ≤ 30 := by omega
  clear hlen hlm
  go_wp2_with fail
  refine HXC.out.mono ?_
  rintro e w4 ⟨v, rfl, ⟨Ac, cc, Bc, dc, rfl, hAc, hBc⟩, hf4⟩
  have hfa := (Frm.refl (fun _ => False) w4).alloc (.cells #[.int .i64 N, .slice Ac M.length cc, .slice Bc 0 dc] 40)
  have hba : Blk (w4.alloc (.cells #[.int .i64 N, .slice Ac M.length cc, .slice Bc 0 dc] 40)) w4.heap.size 40 [.int .i64 N, .slice Ac M.length cc, .slice Bc 0 dc] := Blk.new _ _ _
  have hf04 := ((hf02.trans hf3).trans hf4).trans hfa
  have hA4 := hAc.frm hfa (fun _ _ => id)
  have hB4 := hBc.frm hfa (fun _ _ => id)
  go_wp2_with fail
  have hsz4 : w4.heap.size < (w4.alloc (.cells #[.int .i64 N, .slice Ac M.length cc, .slice Bc 0 dc] 40)).heap.size := by simp
  obtain ⟨W4, hW4⟩ : ∃ W4, W4 = w4.alloc (.cells #[.int .i64 N, .slice Ac M.length cc, .slice Bc 0 dc] 40) := ⟨_, rfl⟩
  rw [← hW4] at hba hf04 hA4 hB4 hsz4
  simp only [List.length_nil] at hB4
  simp only [← hW4]
  clear hW4 hfa hAc hBc hf3 hf4 hf02 HXC
  obtain ⟨P, hP⟩ : ∃ P : List Int, P = z1.map (fun y => 2 + y % (2 * ((N : Int) + M.length))) := ⟨_, rfl⟩
  have hPl : P.length = len1 := by rw [hP, List.length_map, HZ.out]
  have hPk : ∀ k, k < len1 → P[k]? = some (2 + z1.getD k 0 % (2 * ((N : Int) + M.length))) := by intro k hk; rw [hP, List.getElem?_map]; simp [List.getD, show k < z1.length by rw [HZ.out]; exact hk]
  have hPx : ∀ x ∈ P, 2 ≤ x ∧ isL x (N + M.length) = true := by
    intro x hx
    rw [hP] at hx
    obtain ⟨y, _, rfl⟩ := List.mem_map.1 hx
    have a1 := Int.emod_nonneg y (b := 2 * ((N : Int) + M.length)) (by omega)
    have a2 := Int.emod_lt_of_pos y (b := 2 * ((N : Int) + M.length)) (by omega)
    rw [isL_iff]
    omega
  have HSZ := Lib.hid (encC_sizes HMD.out hPx)
  have HPL := Lib.hid hPl
  have HPK := Lib.hid hPk
  have HPX := Lib.hid hPx
  have wa : IntKind.i64.wrap ((N : Int) + M.length) = (N : Int) + M.length := IntWalk.i64_in _ (by omega)
  have wb : IntKind.i64.wrap (2 * ((N : Int) + M.length)) = 2 * ((N : Int) + M.length) := IntWalk.i64_in _ (by omega)
  clear hP hPl hPk hPx
  go_loopw [11, 12] (fun fv iv wr => ∃ (k : Nat) (A1 : Option Addr) (c1 : Nat), k ≤ len1 ∧ iv = .int .i64 k ∧ fv = .slice A1 k c1 ∧ wr.ownsRow W4.heap.size 3 1 (.slice A1 k c1) k ((P.map (.int .i64)).take k) ∧ Frm (fun _ => False) W4 wr) (fun _ iv _ => len1 - (intOf iv).toNat)
  case atStart => exact ⟨0, _, 0, by omega, rfl, rfl, by simpa using World.ownsRow_nil _ _ _ _, Frm.refl _ _⟩
  case round =>
    obtain ⟨k, A1, c1, hk, rfl, rfl, hown, hfk⟩ := hrel
    have hbk := hba.frm hfk id
    have b0 := hbk.at_ 0 rfl
    have b1 := hbk.at_ 1 rfl
    have b2 := hbk.at_ 2 rfl
    have hsk := hfk.size
    by_cases hlt : k < len1
    · obtain ⟨bk, o, u, rfl, _, hu, hcell⟩ := (s1.frm (hf04.trans hfk) (fun _ _ => id)).at_ hlt
      obtain rfl := at_getD hu
      have HG := Lib.hid (HPK.out k hlt)
      have a1 := Int.emod_nonneg (z1.getD k 0) (b := 2 * ((N : Int) + M.length)) (by omega)
      have a2 := Int.emod_lt_of_pos (z1.getD k 0) (b := 2 * ((N : Int) + M.length)) (by omega)
      have hk0 : (0 : Int) ≤ k := by omega
      have hk1 : (k : Int) < len1 := by omega
      clear hu
      have HNU := Lib.hid (fun (W : World) => number_any (z1.getD k 0) (2 * ((N : Int) + M.length)) W (by omega) (by omega))
      generalize z1.getD k 0 % (2 * ((N : Int) + M.length)) = X at *
      have wx : IntKind.i64.wrap (2 + X) = 2 + X := IntWalk.i64_in _ (by omega)
      generalize z1.getD k 0 = y at *
      have hH0 : wr.drew.cell? ⟨bk, o + k, none⟩ = some (.int .i64 y) ∧ wr.drew.cell? ⟨w4.heap.size, 1, none⟩ = some (.slice Ac M.length cc) := ⟨hcell, b1⟩
      go_wp2_with fail
      have hHeld := hH0
      refine Held.begin (fun w' => w'.cell? ⟨bk, o + k, none⟩ = some (.int .i64 y) ∧ w'.cell? ⟨w4.heap.size, 1, none⟩ = some (.slice Ac M.length cc)) 14 (by kernel_rfl) ?_
      refine Held.take2 (i := 0) (oi := ?oa0) (v := ?va0) ?hia0 (by kernel_rfl) (by kernel_rfl) (by kernel_rfl) (by kernel_rfl) (fun _ _ _ h => h) (Or.inl ⟨?hwa0, ?hya0⟩) (by assumption) ?resta0
      case hia0 => (simp only [List.getElem?_toArray, List.getElem?_cons_zero]; rfl)
      case hwa0 => rfl
      case hya0 => (intro w hSw; (try dsimp only at hSw); go_simp; try with_reducible rfl)
      (try simp only [Act.put, List.setIfInBounds_toArray, List.set_cons_zero, List.set_cons_succ])
      refine Held.take2 (i := 1) (oi := ?oa1) (v := ?va1) ?hia1 (by kernel_rfl) (by kernel_rfl) (by kernel_rfl) (by kernel_rfl) (fun _ _ _ h => h) (Or.inl ⟨?hwa1, ?hya1⟩) (by assumption) ?resta1
      case hia1 => (simp only [List.getElem?_toArray, List.getElem?_cons_succ, List.getElem?_cons_zero]; rfl)
      case hwa1 => rfl
      case hya1 => (intro w hSw; (try dsimp only at hSw); go_simp; try with_reducible rfl)
      (try simp only [Act.put, List.setIfInBounds_toArray, List.set_cons_zero, List.set_cons_succ])
      refine Held.take2 (i := 2) (oi := ?oa2) (v := ?va2) ?hia2 (by kernel_rfl) (by kernel_rfl) (by kernel_rfl) (by kernel_rfl) (fun _ _ _ h => h) (Or.inl ⟨?hwa2, ?hya2⟩) (by assumption) ?resta2
      case hia2 => (simp only [List.getElem?_toArray, List.getElem?_cons_succ, List.getElem?_cons_zero]; rfl)
      case hwa2 => rfl
      case hya2 => (intro w hSw; (try dsimp only at hSw); go_simp; try with_reducible rfl)
      (try simp only [Act.put, List.setIfInBounds_toArray, List.set_cons_zero, List.set_cons_succ])
      refine Held.take2 (i := 3) (oi := ?oa3) (v := ?va3) ?hia3 (by kernel_rfl) (by kernel_rfl) (by kernel_rfl) (by kernel_rfl) (fun _ _ _ h => h) (Or.inl ⟨?hwa3, ?hya3⟩) (by assumption) ?resta3
      case hia3 => (simp only [List.getElem?_toArray, List.getElem?_cons_succ, List.getElem?_cons_zero]; rfl)
      case hwa3 => rfl
      case hya3 => (intro w hSw; (try dsimp only at hSw); go_simp; try with_reducible rfl)
      (try simp only [Act.put, List.setIfInBounds_toArray, List.set_cons_zero, List.set_cons_succ])
      refine Held.take2 (i := 4) (oi := ?oa4) (v := ?va4) ?hia4 (by kernel_rfl) (by kernel_rfl) (by kernel_rfl) (by kernel_rfl) (fun _ _ _ h => h) (Or.inl ⟨?hwa4, ?hya4⟩) (by assumption) ?resta4
      case hia4 => (simp only [List.getElem?_toArray, List.getElem?_cons_succ, List.getElem?_cons_zero]; rfl)
      case hwa4 => rfl
      case hya4 => (intro w hSw; (try dsimp only at hSw); go_simp; try with_reducible rfl)
      (try simp only [Act.put, List.setIfInBounds_toArray, List.set_cons_zero, List.set_cons_succ])
      refine Held.take2 (i := 5) (oi := ?oa5) (v := ?va5) ?hia5 (by kernel_rfl) (by kernel_rfl) (by kernel_rfl) (by kernel_rfl) (fun _ _ _ h => h) (Or.inl ⟨?hwa5, ?hya5⟩) (by assumption) ?resta5
      case hia5 => (simp only [List.getElem?_toArray, List.getElem?_cons_succ, List.getElem?_cons_zero]; rfl)
      case hwa5 => rfl
      case hya5 => (intro w hSw; (try dsimp only at hSw); go_simp; try with_reducible rfl)
      (try simp only [Act.put, List.setIfInBounds_toArray, List.set_cons_zero, List.set_cons_succ])
      refine Held.take2 (i := 6) (oi := ?oa6) (v := ?va6) ?hia6 (by kernel_rfl) (by kernel_rfl) (by kernel_rfl) (by kernel_rfl) (fun _ _ _ h => h) (Or.inl ⟨?hwa6, ?hya6⟩) (by assumption) ?resta6
      case hia6 => (simp only [List.getElem?_toArray, List.getElem?_cons_succ, List.getElem?_cons_zero]; rfl)
      case hwa6 => rfl
      case hya6 => (intro w hSw; (try dsimp only at hSw); go_simp; try with_reducible rfl)
      (try simp only [Act.put, List.setIfInBounds_toArray, List.set_cons_zero, List.set_cons_succ])
      refine Held.take2 (i := 7) (oi := ?oa7) (v := ?va7) ?hia7 (by kernel_rfl) (by kernel_rfl) (by kernel_rfl) (by kernel_rfl) (fun _ _ _ h => h) (Or.inl ⟨?hwa7, ?hya7⟩) (by assumption) ?resta7
      case hia7 => (simp only [List.getElem?_toArray, List.getElem?_cons_succ, List.getElem?_cons_zero]; rfl)
      case hwa7 => rfl
      case hya7 => (intro w hSw; (try dsimp only at hSw); go_simp; try with_reducible rfl)
      (try simp only [Act.put, List.setIfInBounds_toArray, List.set_cons_zero, List.set_cons_succ])
      refine Held.take2 (i := 8) (oi := ?oa8) (v := ?va8) ?hia8 (by kernel_rfl) (by kernel_rfl) (by kernel_rfl) (by kernel_rfl) (fun _ _ _ h => h) (Or.inl ⟨?hwa8, ?hya8⟩) (by assumption) ?resta8
      case hia8 => (simp only [List.getElem?_toArray, List.getElem?_cons_succ, List.getElem?_cons_zero]; rfl)
      case hwa8 => rfl
      case hya8 => (intro w hSw; (try dsimp only at hSw); go_simp; try with_reducible rfl)
      (try simp only [Act.put, List.setIfInBounds_toArray, List.set_cons_zero, List.set_cons_succ])
      refine Held.take2 (i := 9) (oi := ?oa9) (v := ?va9) ?hia9 (by kernel_rfl) (by kernel_rfl) (by kernel_rfl) (by kernel_rfl) (fun _ _ _ h => h) (Or.inl ⟨?hwa9, ?hya9⟩) (by assumption) ?resta9
      case hia9 => (simp only [List.getElem?_toArray, List.getElem?_cons_succ, List.getElem?_cons_zero]; rfl)
      case hwa9 => rfl
      case hya9 => (intro w hSw; (try dsimp only at hSw); go_simp; try with_reducible rfl)
      (try simp only [Act.put, List.setIfInBounds_toArray, List.set_cons_zero, List.set_cons_succ])
      refine Held.take2 (i := 10) (oi := ?oa10) (v := ?va10) ?hia10 (by kernel_rfl) (by kernel_rfl) (by kernel_rfl) (by kernel_rfl) (fun _ _ _ h => h) (Or.inl ⟨?hwa10, ?hya10⟩) (by assumption) ?resta10
      case hia10 => (simp only [List.getElem?_toArray, List.getElem?_cons_succ, List.getElem?_cons_zero]; rfl)
      case hwa10 => rfl
      case hya10 => (intro w hSw; (try dsimp only at hSw); go_simp; try with_reducible rfl)
      (try simp only [Act.put, List.setIfInBounds_toArray, List.set_cons_zero, List.set_cons_succ])
      refine Held.next (i := 11) (o := ?oa11) (by kernel_rfl) ?hia11 (fun K hK => ?sta11)
      case hia11 => (simp only [List.getElem?_toArray, List.getElem?_cons_succ, List.getElem?_cons_zero]; rfl)
      go_simp
      (go_at_call 40; refine (HNU.out _).mono ?_; rintro e w' ⟨rfl, rfl⟩)
      (try go_wp2_with fail)
      refine hK.out _ _ (fun _ => by assumption) ?_
      clear hK K
      (try simp only [Act.put, List.setIfInBounds_toArray, List.set_cons_zero, List.set_cons_succ])
      refine Held.take2 (i := 12) (oi := ?oa12) (v := ?va12) ?hia12 (by kernel_rfl) (by kernel_rfl) (by kernel_rfl) (by kernel_rfl) (fun _ _ _ h => h) (Or.inl ⟨?hwa12, ?hya12⟩) (by assumption) ?resta12
      case hia12 => (simp only [List.getElem?_toArray, List.getElem?_cons_succ, List.getElem?_cons_zero]; rfl)
      case hwa12 => rfl
      case hya12 => (intro w hSw; (try dsimp only at hSw); go_simp; try with_reducible rfl)
      (try simp only [Act.put, List.setIfInBounds_toArray, List.set_cons_zero, List.set_cons_succ])
      refine Held.next (i := 13) (o := ?oa13) (by kernel_rfl) ?hia13 (fun K hK => ?sta13)
      case hia13 => (simp only [List.getElem?_toArray, List.getElem?_cons_succ, List.getElem?_cons_zero]; rfl)
      go_simp
      refine hK.out _ _ (fun _ => by exact ⟨(World.cell?_alloc_lt _ _ _ (World.block_lt_of_cell? _ _ hHeld.1)).trans hHeld.1, (World.cell?_alloc_lt _ _ _ (World.block_lt_of_cell? _ _ hHeld.2)).trans hHeld.2⟩) ?_
      clear hK K
      (try simp only [Act.put, List.setIfInBounds_toArray, List.set_cons_zero, List.set_cons_succ])
      refine Held.next (i := 14) (o := ?oa14) (by kernel_rfl) ?hia14 (fun K hK => ?sta14)
      case hia14 => (simp only [List.getElem?_toArray, List.getElem?_cons_succ, List.getElem?_cons_zero]; rfl)
      ((try rw [if_pos (by rfl)]); refine wp_append_own _ (.tmp 53) (.tmp 66) 22 rfl W4.heap.size 3 j0 (.int .i64 0) 1 8 Tryd.underlying22 hj0 hq0 hq1 hq2 rfl (by decide) _ _ _ rfl (hown.alloc (.cells #[.int .i64 (2 + X)] 3)) ⟨wr.heap.size, 0, none⟩ 1 1 [.int .i64 (2 + X)] rfl rfl (cell_one_new _ _ _) (by intro u hu; simp at hu; subst hu; rfl) (by unfold maxLen; omega) (by omega) (by simp; omega) ?_; intro v' w9 hown9 hgrow _)
      refine hK.out _ _ (fun h => absurd h (by decide)) ?_
      clear hK K
      (try simp only [Act.put, List.setIfInBounds_toArray, List.set_cons_zero, List.set_cons_succ])
      refine Held.next (i := 15) (o := ?oa15) (by kernel_rfl) ?hia15 (fun K hK => ?sta15)
      case hia15 => (simp only [List.getElem?_toArray, List.getElem?_cons_succ, List.getElem?_cons_zero]; rfl)
      go_simp
      refine hK.out _ _ (fun h => absurd h (by decide)) ?_
      clear hK K
      (try simp only [Act.put, List.setIfInBounds_toArray, List.set_cons_zero, List.set_cons_succ])
      refine Held.done (by kernel_rfl) ?_ _
      refine NoPanic.normal ?_
      have hgr : Frm (fun g => (Value.slice A1 k c1).ownBlock = some g) wr w9 := (((Frm.refl (fun g => (Value.slice A1 k c1).ownBlock = some g) wr).drew.alloc (.cells #[.int .i64 (2 + X)] 3)).grown hgrow (fun g hg hlt => hg))
      obtain ⟨A3, c3, e3, hownL9⟩ : ∃ A c, v' = .slice A (k + 1) c ∧ w9.ownsRow W4.heap.size 3 1 (.slice A (k + 1) c) (k + 1) ((P.map (.int .i64)).take (k + 1)) := by
        have e1 : (P.map (Value.int .i64)).take k ++ [.int .i64 (2 + X)] = (P.map (.int .i64)).take (k + 1) := by
          rw [List.take_add_one, List.getElem?_map, HG.out]; rfl
        rw [e1] at hown9
        obtain ⟨A, c, rfl, _⟩ := (Sl.of_own hown9).form
        exact ⟨A, c, rfl, hown9⟩
      subst e3
      have hfk9 : Frm (fun _ => False) W4 w9 := hfk.then' hgr (fun g hg h => by have := (hown.lt g h).1; omega)
      clear hgrow hown9 hown hfk hgr
      go_wp2_with fail
      go_roundw
      case rel => exact ⟨k + 1, A3, c3, by omega, by go_num, rfl, hownL9, hfk9⟩
      case measure => simp [intOf]; omega
    · have hkn : len1 = k := by omega
      subst hkn
      rw [List.take_of_length_le (by rw [List.length_map, HPL.out]; omega)] at hown
      have HE := Lib.hid (encode_any [102, 104] (fun _ => ⟨0, 0, none⟩) (by simp) (by simp) N Ac M.length cc Bc 0 dc M [] A1 len1 c1 P _ _ _ wr rfl rfl HPL.out (by omega) (by omega) (by omega) HMD.out.right (by simp) (fun x hx => (HPX.out x hx).2) (hA4.frm hfk (fun _ _ => id)) (hB4.frm hfk (fun _ _ => id)) (own_sl hown))
      go_wp2_with fail
      refine HE.out.mono ?_
      rintro e w5 ⟨v, rfl, ⟨A', c', rfl, hrw⟩, hf5⟩
      have hsz := HSZ.out
      have HS := Lib.hid hsz
      have hfk5 := hfk.trans hf5
      have hcl : (encC N M P).length ≤ 100 := by rw [hsz.many, HPL.out]; omega
      have hcl2 : ((encC N M P).length : Int) = 3 * M.length + len1 := by rw [hsz.many, HPL.out]; omega
      have hrw5 : Rw w5 (fun k => k < w5.heap.size) (.slice A' (encC N M P).length c') (encC N M P).length (encC N M P) := hrw.mono (fun k hk _ => hk)
      have hown5 := own_frm hown hf5 (fun _ _ => id)
      have hba5 := hba.frm hfk5 id
      have hs5 := hf5.size
      have hlt4 := hba.lt
      have HCK := Lib.hid (fun (W : World) (hf : Frm (fun _ => False) w5 W) => checkcnf_any (N + M.length) A' _ c' _ _ W (hrw5.frm hf (fun _ _ => id)) (by omega) (by omega) hsz.ok (by have := hsz.sum; omega))
      clear hsz HSZ hrw HE hown hba hA4 hB4 hf5 hfk
      generalize encC N M P = cs at *
      have HC2 := Lib.hid hcl2
      have hfn := (Frm.refl (fun _ => False) w5).alloc (.cells #[.int .i64 ((N : Int) + M.length), .slice A' cs.length c'] 51)
      have hbn : Blk (w5.alloc (.cells #[.int .i64 ((N : Int) + M.length), .slice A' cs.length c'] 51)) w5.heap.size 51 [.int .i64 ((N : Int) + M.length), .slice A' cs.length c'] := Blk.new _ _ _
      have c0 := hbn.at_ 0 rfl
      have c1' := hbn.at_ 1 rfl
      have hba6 := hba5.frm hfn id
      have d0 := hba6.at_ 0 rfl
      have d1 := hba6.at_ 1 rfl
      have w3m : IntKind.i64.wrap (3 * (M.length : Int)) = 3 * (M.length : Int) := IntWalk.i64_in _ (by omega)
      have w3f : IntKind.i64.wrap (3 * (M.length : Int) + len1) = 3 * (M.length : Int) + len1 := IntWalk.i64_in _ (by omega)
      simp only [nv]
      go_wp2_with fail
      have hck := HCK.out _ hfn
      simp only [nv, Int.natCast_add] at hck
      refine hck.mono ?_
      rintro e w6 ⟨rfl, hf6⟩
      have hf56 := hfn.trans hf6
      have hbn6 := hbn.frm hf6 id
      have hba6 := hba5.frm hf56 id
      have hrw6 := hrw5.frm hf56 (fun _ _ => id)
      have hP6 := (own_sl hown5).frm hf56 (fun _ _ => id)
      have hf46 := hfk5.trans hf56
      have hfd : ∀ W : World, (Instr.field 62 (.agg #[.int .i64 0, .bool false, .int .i64 0]) 0).run Tryd.prog W = .ok (.int .i64 0) W := fun _ => rfl
      clear hck HCK c0 c1' d0 d1 hfn hf6 hbn hba5 hrw5 hown5 hf56 hfk5
      go_wp2_with fail
      go_loopw [15] (fun iv wr => ∃ (i : Nat), i ≤ len1 ∧ iv = .int .i64 i ∧ Frm (fun _ => False) w6 wr) (fun iv _ => len1 - (intOf iv).toNat)
      case atStart => exact ⟨0, by omega, rfl, Frm.refl _ _⟩
      case round =>
        obtain ⟨i, hi, rfl, hfi⟩ := hrel
        have c1' := (hbn6.frm hfi id).at_ 1 rfl
        have d1 := (hba6.frm hfi id).at_ 1 rfl
        by_cases hlt : i < len1
        · obtain ⟨b, o, B2, d2, rfl, _, hc, hsB⟩ := (hrw6.frm hfi (fun _ _ => id)).at_ (k := 3 * M.length + i) (by have := HC2.out; omega)
          have hfo := HS.out.force i (by rw [HPL.out]; exact hlt)
          rw [hfo] at hc hsB
          obtain ⟨b2, o2, u2, rfl, _, hu2, hc2⟩ := hsB.at_ (k := 0) (by simp)
          simp only [List.map_cons, List.map_nil, List.getElem?_cons_zero, Option.some.injEq] at hu2
          subst hu2
          obtain ⟨b3, o3, u3, rfl, _, hu3, hc3⟩ := (hP6.frm hfi (fun _ _ => id)).at_ hlt
          obtain rfl := at_getD hu3
          have hx := HPX.out (P.getD i 0) (by simp [List.getD, show i < P.length by rw [HPL.out]; exact hlt])
          clear hu3 hsB hfo
          generalize P.getD i 0 = x at *
          obtain ⟨hx2, hxl⟩ := hx
          have hxl := isL_iff.1 hxl
          have hxo := bits_xor_one x (by omega) (by omega)
          have hnl : 2 ≤ notL x ∧ notL x ≤ 1000000 := by unfold notL; split <;> omega
          have hln := litC_not hx2
          have hlc : -1000000 ≤ litC x ∧ litC x ≤ 1000000 := by unfold litC; split; omega; split <;> omega
          have wn : IntKind.i64.wrap (-litC x) = -litC x := IntWalk.i64_in _ (by omega)
          have HL1 := Lib.hid (fun (W : World) => lit_any x (by omega) W)
          have HL2 := Lib.hid (fun (W : World) => lit_any (notL x) (by omega) W)
          rw [hln] at HL2
          clear hln
          generalize litC x = lx at *
          generalize notL x = nx at *
          simp only [List.length_cons, List.length_nil, Nat.zero_add, Nat.add_zero] at hc hc2
          have i0 : (0 : Int) ≤ i := by omega
          have i1 : (i : Int) < len1 := by omega
          have g1 : 3 * (M.length : Int) + i < cs.length := by have := HC2.out; omega
          have g0 : (0 : Int) ≤ 3 * (M.length : Int) + i := by omega
          have gn : (3 * (M.length : Int) + i).toNat = 3 * M.length + i := by omega
          have w3i : IntKind.i64.wrap (3 * (M.length : Int) + i) = 3 * (M.length : Int) + i := IntWalk.i64_in _ (by omega)
          have hH0 : wr.drew.cell? ⟨b2, o2, none⟩ = some (.int .i64 lx) ∧ wr.drew.cell? ⟨b3, o3 + i, none⟩ = some (.int .i64 x) := ⟨hc2, hc3⟩
          go_wp2_with fail
          have hHeld := hH0
          refine Held.begin (fun w' => w'.cell? ⟨b2, o2, none⟩ = some (.int .i64 lx) ∧ w'.cell? ⟨b3, o3 + i, none⟩ = some (.int .i64 x)) 27 (by kernel_rfl) ?_
          refine Held.take (i := 0) (oi := ?ob0) (v := ?vb0) ?hib0 (by kernel_rfl) (by kernel_rfl) (by kernel_rfl) (by kernel_rfl) (fun _ _ _ h => h) (Or.inl ⟨?hwb0, ?hyb0⟩) (by assumption) ?restb0
          case hib0 => (simp only [List.getElem?_toArray, List.getElem?_cons_zero]; rfl)
          case hwb0 => rfl
          case hyb0 => (intro w hSw; (try dsimp only at hSw); go_simp; try with_reducible rfl)
          (try simp only [Act.put, List.setIfInBounds_toArray, List.set_cons_zero, List.set_cons_succ])
          refine Held.take (i := 1) (oi := ?ob1) (v := ?vb1) ?hib1 (by kernel_rfl) (by kernel_rfl) (by kernel_rfl) (by kernel_rfl) (fun _ _ _ h => h) (Or.inl ⟨?hwb1, ?hyb1⟩) (by assumption) ?restb1
          case hib1 => (simp only [List.getElem?_toArray, List.getElem?_cons_succ, List.getElem?_cons_zero]; rfl)
          case hwb1 => rfl
          case hyb1 => (intro w hSw; (try dsimp only at hSw); go_simp; try with_reducible rfl)
          (try simp only [Act.put, List.setIfInBounds_toArray, List.set_cons_zero, List.set_cons_succ])
          refine Held.take (i := 2) (oi := ?ob2) (v := ?vb2) ?hib2 (by kernel_rfl) (by kernel_rfl) (by kernel_rfl) (by kernel_rfl) (fun _ _ _ h => h) (Or.inl ⟨?hwb2, ?hyb2⟩) (by assumption) ?restb2
          case hib2 => (simp only [List.getElem?_toArray, List.getElem?_cons_succ, List.getElem?_cons_zero]; rfl)
          case hwb2 => rfl
          case hyb2 => (intro w hSw; (try dsimp only at hSw); go_simp; try with_reducible rfl)
          (try simp only [Act.put, List.setIfInBounds_toArray, List.set_cons_zero, List.set_cons_succ])
          refine Held.take (i := 3) (oi := ?ob3) (v := ?vb3) ?hib3 (by kernel_rfl) (by kernel_rfl) (by kernel_rfl) (by kernel_rfl) (fun _ _ _ h => h) (Or.inl ⟨?hwb3, ?hyb3⟩) (by assumption) ?restb3
          case hib3 => (simp only [List.getElem?_toArray, List.getElem?_cons_succ, List.getElem?_cons_zero]; rfl)
          case hwb3 => rfl
          case hyb3 => (intro w hSw; (try dsimp only at hSw); go_simp; try with_reducible rfl)
          (try simp only [Act.put, List.setIfInBounds_toArray, List.set_cons_zero, List.set_cons_succ])
          refine Held.take (i := 4) (oi := ?ob4) (v := ?vb4) ?hib4 (by kernel_rfl) (by kernel_rfl) (by kernel_rfl) (by kernel_rfl) (fun _ _ _ h => h) (Or.inl ⟨?hwb4, ?hyb4⟩) (by assumption) ?restb4
          case hib4 => (simp only [List.getElem?_toArray, List.getElem?_cons_succ, List.getElem?_cons_zero]; rfl)
          case hwb4 => rfl
          case hyb4 => (intro w hSw; (try dsimp only at hSw); go_simp; try with_reducible rfl)
          (try simp only [Act.put, List.setIfInBounds_toArray, List.set_cons_zero, List.set_cons_succ])
          refine Held.take (i := 5) (oi := ?ob5) (v := ?vb5) ?hib5 (by kernel_rfl) (by kernel_rfl) (by kernel_rfl) (by kernel_rfl) (fun _ _ _ h => h) (Or.inl ⟨?hwb5, ?hyb5⟩) (by assumption) ?restb5
          case hib5 => (simp only [List.getElem?_toArray, List.getElem?_cons_succ, List.getElem?_cons_zero]; rfl)
          case hwb5 => rfl
          case hyb5 => (intro w hSw; (try dsimp only at hSw); go_simp; try with_reducible rfl)
          (try simp only [Act.put, List.setIfInBounds_toArray, List.set_cons_zero, List.set_cons_succ])
          refine Held.take (i := 6) (oi := ?ob6) (v := ?vb6) ?hib6 (by kernel_rfl) (by kernel_rfl) (by kernel_rfl) (by kernel_rfl) (fun _ _ _ h => h) (Or.inl ⟨?hwb6, ?hyb6⟩) (by assumption) ?restb6
          case hib6 => (simp only [List.getElem?_toArray, List.getElem?_cons_succ, List.getElem?_cons_zero]; rfl)
          case hwb6 => rfl
          case hyb6 => (intro w hSw; (try dsimp only at hSw); go_simp; try with_reducible rfl)
          (try simp only [Act.put, List.setIfInBounds_toArray, List.set_cons_zero, List.set_cons_succ])
          refine Held.take (i := 7) (oi := ?ob7) (v := ?vb7) ?hib7 (by kernel_rfl) (by kernel_rfl) (by kernel_rfl) (by kernel_rfl) (fun _ _ _ h => h) (Or.inl ⟨?hwb7, ?hyb7⟩) (by assumption) ?restb7
          case hib7 => (simp only [List.getElem?_toArray, List.getElem?_cons_succ, List.getElem?_cons_zero]; rfl)
          case hwb7 => rfl
          case hyb7 => (intro w hSw; (try dsimp only at hSw); go_simp; try with_reducible rfl)
          (try simp only [Act.put, List.setIfInBounds_toArray, List.set_cons_zero, List.set_cons_succ])
          refine Held.take (i := 8) (oi := ?ob8) (v := ?vb8) ?hib8 (by kernel_rfl) (by kernel_rfl) (by kernel_rfl) (by kernel_rfl) (fun _ _ _ h => h) (Or.inl ⟨?hwb8, ?hyb8⟩) (by assumption) ?restb8
          case hib8 => (simp only [List.getElem?_toArray, List.getElem?_cons_succ, List.getElem?_cons_zero]; rfl)
          case hwb8 => rfl
          case hyb8 => (intro w hSw; (try dsimp only at hSw); go_simp; try with_reducible rfl)
          (try simp only [Act.put, List.setIfInBounds_toArray, List.set_cons_zero, List.set_cons_succ])
          refine Held.take (i := 9) (oi := ?ob9) (v := ?vb9) ?hib9 (by kernel_rfl) (by kernel_rfl) (by kernel_rfl) (by kernel_rfl) (fun _ _ _ h => h) (Or.inl ⟨?hwb9, ?hyb9⟩) (by assumption) ?restb9
          case hib9 => (simp only [List.getElem?_toArray, List.getElem?_cons_succ, List.getElem?_cons_zero]; rfl)
          case hwb9 => rfl
          case hyb9 => (intro w hSw; (try dsimp only at hSw); go_simp; try with_reducible rfl)
          (try simp only [Act.put, List.setIfInBounds_toArray, List.set_cons_zero, List.set_cons_succ])
          refine Held.take (i := 10) (oi := ?ob10) (v := ?vb10) ?hib10 (by kernel_rfl) (by kernel_rfl) (by kernel_rfl) (by kernel_rfl) (fun _ _ _ h => h) (Or.inl ⟨?hwb10, ?hyb10⟩) (by assumption) ?restb10
          case hib10 => (simp only [List.getElem?_toArray, List.getElem?_cons_succ, List.getElem?_cons_zero]; rfl)
          case hwb10 => rfl
          case hyb10 => (intro w hSw; (try dsimp only at hSw); go_simp; try with_reducible rfl)
          (try simp only [Act.put, List.setIfInBounds_toArray, List.set_cons_zero, List.set_cons_succ])
          refine Held.next (i := 11) (o := ?ob11) (by kernel_rfl) ?hib11 (fun K hK => ?stb11)
          case hib11 => (simp only [List.getElem?_toArray, List.getElem?_cons_succ, List.getElem?_cons_zero]; rfl)
          go_simp
          (go_at_call 52; refine (HL1.out _).mono ?_; rintro e w' ⟨rfl, rfl⟩)
          (try go_wp2_with fail)
          refine hK.out _ _ (fun _ => by assumption) ?_
          clear hK K
          (try simp only [Act.put, List.setIfInBounds_toArray, List.set_cons_zero, List.set_cons_succ])
          refine Held.take (i := 12) (oi := ?ob12) (v := ?vb12) ?hib12 (by kernel_rfl) (by kernel_rfl) (by kernel_rfl) (by kernel_rfl) (fun _ _ _ h => h) (Or.inl ⟨?hwb12, ?hyb12⟩) (by assumption) ?restb12
          case hib12 => (simp only [List.getElem?_toArray, List.getElem?_cons_succ, List.getElem?_cons_zero]; rfl)
          case hwb12 => rfl
          case hyb12 => (intro w hSw; (try dsimp only at hSw); go_simp; try with_reducible rfl)
          (try simp only [Act.put, List.setIfInBounds_toArray, List.set_cons_zero, List.set_cons_succ])
          refine Held.take (i := 13) (oi := ?ob13) (v := ?vb13) ?hib13 (by kernel_rfl) (by kernel_rfl) (by kernel_rfl) (by kernel_rfl) (fun _ _ _ h => h) (Or.inl ⟨?hwb13, ?hyb13⟩) (by assumption) ?restb13
          case hib13 => (simp only [List.getElem?_toArray, List.getElem?_cons_succ, List.getElem?_cons_zero]; rfl)
          case hwb13 => rfl
          case hyb13 => (intro w hSw; (try dsimp only at hSw); go_simp; try with_reducible rfl)
          (try simp only [Act.put, List.setIfInBounds_toArray, List.set_cons_zero, List.set_cons_succ])
          refine Held.take (i := 14) (oi := ?ob14) (v := ?vb14) ?hib14 (by kernel_rfl) (by kernel_rfl) (by kernel_rfl) (by kernel_rfl) (fun _ _ _ h => h) (Or.inl ⟨?hwb14, ?hyb14⟩) (by assumption) ?restb14
          case hib14 => (simp only [List.getElem?_toArray, List.getElem?_cons_succ, List.getElem?_cons_zero]; rfl)
          case hwb14 => rfl
          case hyb14 => (intro w hSw; (try dsimp only at hSw); go_simp; try with_reducible rfl)
          (try simp only [Act.put, List.setIfInBounds_toArray, List.set_cons_zero, List.set_cons_succ])
          refine Held.take (i := 15) (oi := ?ob15) (v := ?vb15) ?hib15 (by kernel_rfl) (by kernel_rfl) (by kernel_rfl) (by kernel_rfl) (fun _ _ _ h => h) (Or.inl ⟨?hwb15, ?hyb15⟩) (by assumption) ?restb15
          case hib15 => (simp only [List.getElem?_toArray, List.getElem?_cons_succ, List.getElem?_cons_zero]; rfl)
          case hwb15 => rfl
          case hyb15 => (intro w hSw; (try dsimp only at hSw); go_simp; try with_reducible rfl)
          (try simp only [Act.put, List.setIfInBounds_toArray, List.set_cons_zero, List.set_cons_succ])
          refine Held.take (i := 16) (oi := ?ob16) (v := ?vb16) ?hib16 (by kernel_rfl) (by kernel_rfl) (by kernel_rfl) (by kernel_rfl) (fun _ _ _ h => h) (Or.inl ⟨?hwb16, ?hyb16⟩) (by assumption) ?restb16
          case hib16 => (simp only [List.getElem?_toArray, List.getElem?_cons_succ, List.getElem?_cons_zero]; rfl)
          case hwb16 => rfl
          case hyb16 => (intro w hSw; (try dsimp only at hSw); go_simp; try with_reducible rfl)
          (try simp only [Act.put, List.setIfInBounds_toArray, List.set_cons_zero, List.set_cons_succ])
          refine Held.take (i := 17) (oi := ?ob17) (v := ?vb17) ?hib17 (by kernel_rfl) (by kernel_rfl) (by kernel_rfl) (by kernel_rfl) (fun _ _ _ h => h) (Or.inl ⟨?hwb17, ?hyb17⟩) (by assumption) ?restb17
          case hib17 => (simp only [List.getElem?_toArray, List.getElem?_cons_succ, List.getElem?_cons_zero]; rfl)
          case hwb17 => rfl
          case hyb17 => (intro w hSw; (try dsimp only at hSw); go_simp; try with_reducible rfl)
          (try simp only [Act.put, List.setIfInBounds_toArray, List.set_cons_zero, List.set_cons_succ])
          refine Held.take (i := 18) (oi := ?ob18) (v := ?vb18) ?hib18 (by kernel_rfl) (by kernel_rfl) (by kernel_rfl) (by kernel_rfl) (fun _ _ _ h => h) (Or.inl ⟨?hwb18, ?hyb18⟩) (by assumption) ?restb18
          case hib18 => (simp only [List.getElem?_toArray, List.getElem?_cons_succ, List.getElem?_cons_zero]; rfl)
          case hwb18 => rfl
          case hyb18 => (intro w hSw; (try dsimp only at hSw); go_simp; try with_reducible rfl)
          (try simp only [Act.put, List.setIfInBounds_toArray, List.set_cons_zero, List.set_cons_succ])
          refine Held.take (i := 19) (oi := ?ob19) (v := ?vb19) ?hib19 (by kernel_rfl) (by kernel_rfl) (by kernel_rfl) (by kernel_rfl) (fun _ _ _ h => h) (Or.inl ⟨?hwb19, ?hyb19⟩) (by assumption) ?restb19
          case hib19 => (simp only [List.getElem?_toArray, List.getElem?_cons_succ, List.getElem?_cons_zero]; rfl)
          case hwb19 => rfl
          case hyb19 => (intro w hSw; (try dsimp only at hSw); go_simp; try with_reducible rfl)
          (try simp only [Act.put, List.setIfInBounds_toArray, List.set_cons_zero, List.set_cons_succ])
          refine Held.take (i := 21) (oi := ?ob21) (v := ?vb21) ?hib21 (by kernel_rfl) (by kernel_rfl) (by kernel_rfl) (by kernel_rfl) (fun _ _ _ h => h) (Or.inl ⟨?hwb21, ?hyb21⟩) (by assumption) ?restb21
          case hib21 => (simp only [List.getElem?_toArray, List.getElem?_cons_succ, List.getElem?_cons_zero]; rfl)
          case hwb21 => rfl
          case hyb21 => (intro w hSw; (try dsimp only at hSw); go_simp; try with_reducible rfl)
          (try simp only [Act.put, List.setIfInBounds_toArray, List.set_cons_zero, List.set_cons_succ])
          refine Held.take (i := 22) (oi := ?ob22) (v := ?vb22) ?hib22 (by kernel_rfl) (by kernel_rfl) (by kernel_rfl) (by kernel_rfl) (fun _ _ _ h => h) (Or.inl ⟨?hwb22, ?hyb22⟩) (by assumption) ?restb22
          case hib22 => (simp only [List.getElem?_toArray, List.getElem?_cons_succ, List.getElem?_cons_zero]; rfl)
          case hwb22 => rfl
          case hyb22 => (intro w hSw; (try dsimp only at hSw); go_simp; try with_reducible rfl)
          (try simp only [Act.put, List.setIfInBounds_toArray, List.set_cons_zero, List.set_cons_succ])
          refine Held.take (i := 23) (oi := ?ob23) (v := ?vb23) ?hib23 (by kernel_rfl) (by kernel_rfl) (by kernel_rfl) (by kernel_rfl) (fun _ _ _ h => h) (Or.inl ⟨?hwb23, ?hyb23⟩) (by assumption) ?restb23
          case hib23 => (simp only [List.getElem?_toArray, List.getElem?_cons_succ, List.getElem?_cons_zero]; rfl)
          case hwb23 => rfl
          case hyb23 => (intro w hSw; (try dsimp only at hSw); go_simp; try with_reducible rfl)
          (try simp only [Act.put, List.setIfInBounds_toArray, List.set_cons_zero, List.set_cons_succ])
          refine Held.take (i := 24) (oi := ?ob24) (v := ?vb24) ?hib24 (by kernel_rfl) (by kernel_rfl) (by kernel_rfl) (by kernel_rfl) (fun _ _ _ h => h) (Or.inl ⟨?hwb24, ?hyb24⟩) (by assumption) ?restb24
          case hib24 => (simp only [List.getElem?_toArray, List.getElem?_cons_succ, List.getElem?_cons_zero]; rfl)
          case hwb24 => rfl
          case hyb24 => (intro w hSw; (try dsimp only at hSw); go_simp; try with_reducible rfl)
          (try simp only [Act.put, List.setIfInBounds_toArray, List.set_cons_zero, List.set_cons_succ])
          refine Held.next (i := 20) (o := ?ob20) (by kernel_rfl) ?hib20 (fun K hK => ?stb20)
          case hib20 => (simp only [List.getElem?_toArray, List.getElem?_cons_succ, List.getElem?_cons_zero]; rfl)
          go_simp
          (go_at_call 52; refine (HL2.out _).mono ?_; rintro e w' ⟨rfl, rfl⟩)
          (try go_wp2_with fail)
          refine hK.out _ _ (fun _ => by assumption) ?_
          clear hK K
          (try simp only [Act.put, List.setIfInBounds_toArray, List.set_cons_zero, List.set_cons_succ])
          refine Held.take (i := 25) (oi := ?ob25) (v := ?vb25) ?hib25 (by kernel_rfl) (by kernel_rfl) (by kernel_rfl) (by kernel_rfl) (fun _ _ _ h => h) (Or.inl ⟨?hwb25, ?hyb25⟩) (by assumption) ?restb25
          case hib25 => (simp only [List.getElem?_toArray, List.getElem?_cons_succ, List.getElem?_cons_zero]; rfl)
          case hwb25 => rfl
          case hyb25 => (intro w hSw; (try dsimp only at hSw); go_simp; try with_reducible rfl)
          (try simp only [Act.put, List.setIfInBounds_toArray, List.set_cons_zero, List.set_cons_succ])
          refine Held.take (i := 26) (oi := ?ob26) (v := ?vb26) ?hib26 (by kernel_rfl) (by kernel_rfl) (by kernel_rfl) (by kernel_rfl) (fun _ _ _ h => h) (Or.inl ⟨?hwb26, ?hyb26⟩) (by assumption) ?restb26
          case hib26 => (simp only [List.getElem?_toArray, List.getElem?_cons_succ, List.getElem?_cons_zero]; rfl)
          case hwb26 => rfl
          case hyb26 => (intro w hSw; (try dsimp only at hSw); go_simp; try with_reducible rfl)
          (try simp only [Act.put, List.setIfInBounds_toArray, List.set_cons_zero, List.set_cons_succ])
          refine Held.done (by kernel_rfl) ?_ _
          refine NoPanic.normal ?_
          go_wp2_with fail
          go_roundw
          case rel => exact ⟨i + 1, by omega, by go_num, hfi.drewN 1⟩
          case measure => simp [intOf]; omega
        · have hin : i = len1 := by omega
          have hjn : ¬ (i : Int) < len1 := by omega
          obtain ⟨W7, rfl⟩ : ∃ W7, W7 = wr := ⟨_, rfl⟩
          go_wp2_with fail
          go_loopw [17] (fun iv wr => ∃ (j : Nat), j ≤ M.length ∧ iv = .int .i64 j ∧ Frm (fun _ => False) w6 wr) (fun iv _ => M.length - (intOf iv).toNat)
          case atStart => exact ⟨0, by omega, rfl, hfi⟩
          case round =>
            clear c1' d1
            obtain ⟨j, hj, rfl, hfj⟩ := hrel
            have c1' := (hbn6.frm hfj id).at_ 1 rfl
            have d1 := (hba6.frm hfj id).at_ 1 rfl
            by_cases hjl : j < M.length
            · obtain ⟨q0, q1, q2⟩ := HS.out.gate j hjl
              obtain ⟨b, o, X0, e0, rfl, _, hc0, _⟩ := (hrw6.frm hfj (fun _ _ => id)).at_ (k := 3 * j) (by have := HC2.out; omega)
              obtain ⟨b', o', X1, e1, he1, _, hc1, _⟩ := (hrw6.frm hfj (fun _ _ => id)).at_ (k := 3 * j + 1) (by have := HC2.out; omega)
              cases he1
              obtain ⟨b', o', X2, e2, he2, _, hc2, _⟩ := (hrw6.frm hfj (fun _ _ => id)).at_ (k := 3 * j + 2) (by have := HC2.out; omega)
              cases he2
              rw [q0] at hc0
              rw [q1] at hc1
              rw [q2] at hc2
              have hcl3 := HC2.out
              have jj1 : (j : Int) < M.length := by omega
              have u0 : (0 : Int) ≤ 3 * j := by omega
              have u1 : 3 * (j : Int) < cs.length := by omega
              have u2 : 3 * (j : Int) + 1 < cs.length := by omega
              have u3 : 3 * (j : Int) + 2 < cs.length := by omega
              have u4 : (0 : Int) ≤ 3 * j + 1 := by omega
              have u5' : (0 : Int) ≤ 3 * j + 2 := by omega
              have n0 : (3 * (j : Int)).toNat = 3 * j := by omega
              have n1 : (3 * (j : Int) + 1).toNat = 3 * j + 1 := by omega
              have n2 : (3 * (j : Int) + 2).toNat = 3 * j + 2 := by omega
              have x0 : IntKind.i64.wrap (3 * (j : Int)) = 3 * j := IntWalk.i64_in _ (by omega)
              have x1 : IntKind.i64.wrap (3 * (j : Int) + 1) = 3 * j + 1 := IntWalk.i64_in _ (by omega)
              have x2 : IntKind.i64.wrap (3 * (j : Int) + 2) = 3 * j + 2 := IntWalk.i64_in _ (by omega)
              clear q0 q1 q2 hcl3
              go_wp2_with fail
              go_roundw
              case rel => exact ⟨j + 1, by omega, by go_num, hfj⟩
              case measure => simp [intOf]; omega
            · have hjm : j = M.length := by omega
              subst hjm
              have hjq : ¬ (M.length : Int) < M.length := by omega
              have hfin := (hf04.trans hf46).trans hfj
              go_wp2_with fail
              go_ret
              exact ⟨ret_bool (by simp), hfin⟩

set_option maxRecDepth 100000 in
set_option maxHeartbeats 2000000 in
theorem tsz_law (i : Int) (_ : (Lit.int .i64 i).wf = true) (a0 : Option Addr) (len0 cap0 : Nat) (z0 : List Int) (hz0 : z0.length = len0) {w0 : World} (s0 : Sl w0 (fun k => k < w0.heap.size) 1 (.slice a0 len0 cap0) len0 (z0.map (.int .i64))) (_ : ∀ n ∈ z0, (Lit.int .i64 n).wf = true)
    (a1 : Option Addr) (len1 cap1 : Nat) (z1 : List Int) (hz1 : z1.length = len1) (s1 : Sl w0 (fun k => k < w0.heap.size) 1 (.slice a1 len1 cap1) len1 (z1.map (.int .i64))) (_ : ∀ n ∈ z1, (Lit.int .i64 n).wf = true) (w : World) (e : w = w0) :
    Calls Tryd.prog 7 #[.int .i64 i, .slice a0 len0 cap0, .slice a1 len1 cap1] w fun e w' => e = .returned (.bool true) ∧ Frm (fun _ => False) w w' := by
  subst e
  by_cases h : len0 ≤ 60 ∧ len1 ≤ 8 ∧ 1 ≤ i ∧ i ≤ 20
  · obtain ⟨h0, h1, h2, h3⟩ := h
    obtain ⟨N, rfl⟩ := Int.eq_ofNat_of_zero_le (show 0 ≤ i by omega)
    exact tsz_any N a0 len0 cap0 z0 hz0 a1 len1 cap1 z1 hz1 w s0 s1 h0 h1 (by omega) (by omega)
  · by_cases h0 : len0 ≤ 60
    · have t0 : decide ((60 : Int) < (len0 : Int)) = false := by simp; omega
      by_cases h1 : len1 ≤ 8
      · have t1 : decide ((8 : Int) < (len1 : Int)) = false := by simp; omega
        by_cases h2 : i < 1
        · have t2 : decide (i < 1) = true := by simp; omega
          go_enter Tryd.func7, Tryd.ntmps7
          go_wp2_with fail
          refine (first13_any w).mono ?_
          rintro e w1 ⟨rfl, hf1⟩
          go_wp2_with fail
          go_ret
          exact ⟨rfl, hf1⟩
        · have t2 : decide (i < 1) = false := by simp; omega
          have t3 : decide ((20 : Int) < i) = true := by simp; omega
          go_enter Tryd.func7, Tryd.ntmps7
          go_wp2_with fail
          refine (first13_any w).mono ?_
          rintro e w1 ⟨rfl, hf1⟩
          go_wp2_with fail
          go_ret
          exact ⟨rfl, hf1⟩
      · have t1 : decide ((8 : Int) < (len1 : Int)) = true := by simp; omega
        go_enter Tryd.func7, Tryd.ntmps7
        go_wp2_with fail
        refine (first13_any w).mono ?_
        rintro e w1 ⟨rfl, hf1⟩
        go_wp2_with fail
        go_ret
        exact ⟨rfl, hf1⟩
    · have t0 : decide ((60 : Int) < (len0 : Int)) = true := by simp; omega
      go_enter Tryd.func7, Tryd.ntmps7
      go_wp2_with fail
      refine (first13_any w).mono ?_
      rintro e w1 ⟨rfl, hf1⟩
      go_wp2_with fail
      go_ret
      exact ⟨rfl, hf1⟩

end Go.Proofs.YtkjlgamggkencaaDoor
