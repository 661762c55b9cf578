/-
  The walk of TseitinSays.
-/
import Derived.Test.YtkjlgamggkencaaDoorTseitinOnly
import Derived.Test.YtkjlgamggkencaaDoorTseitinRE
import Derived.Test.YtkjlgamggkencaaDoorEncBad
import Derived.Test.YtkjlgamggkencaaDoorSameCl
import Derived.Test.YtkjlgamggkencaaDoorSameB
import Derived.Test.YtkjlgamggkencaaDoorRCheck
import Derived.Test.YtkjlgamggkencaaDoorArgC
namespace Go.Proofs.YtkjlgamggkencaaDoor
open Go.RowKit

set_option maxRecDepth 100000 in
set_option maxHeartbeats 16000000 in
theorem tsl_any (P : Nat → Addr) (N : Int) (A : Option Addr) (m c : Nat) (B : Option Addr) (k d : Nat) (L0 : List (Int × Int)) (l0 : List Int) (hm : L0.length = m) (hk : l0.length = k) (i : Nat)
    (a1 : Option Addr) (len1 cap1 : Nat) (z1 : List Int) (hz1 : z1.length = len1) (a2 : Option Addr) (len2 cap2 : Nat) (z2 : List Int) (hz2 : z2.length = len2) (x : Int) (hxw : x < 9223372036854775808) (w : World) (F0 G0 : Nat → Prop)
    (r0 : Sl w F0 2 (.slice A m c) m (pairs L0)) (r1 : Sl w G0 1 (.slice B k d) k (l0.map (.int .i64)))
    (s1 : Sl w (fun k => k < w.heap.size) 1 (.slice a1 len1 cap1) len1 (z1.map (.int .i64))) (s2 : Sl w (fun k => k < w.heap.size) 1 (.slice a2 len2 cap2) len2 (z2.map (.int .i64)))
    (hS : Sents L7 P w) (hm1 : m ≤ 60) (hk1 : k ≤ 30) (h1 : len1 ≤ 120) (h2 : len2 ≤ 10) (hi : i ≤ 30) :
    Calls Tryd.prog 13 #[cv N A m c B k d, .int .i64 i, .slice a1 len1 cap1, .slice a2 len2 cap2, .int .i64 x] w fun e w' => e = .returned (.bool true) ∧ Frm (fun _ => False) w w' := by
  have t0 : decide ((60 : Int) < (m : Int)) = false := by simp; omega
  have t1 : decide ((30 : Int) < (k : Int)) = false := by simp; omega
  have t2 : decide ((120 : Int) < (len1 : Int)) = false := by simp; omega
  have t3 : decide ((10 : Int) < (len2 : Int)) = false := by simp; omega
  have t4 : decide ((i : Int) < 0) = false := by simp
  have t5 : decide ((30 : Int) < (i : Int)) = false := by simp; omega
  have hf0 := (Frm.refl (fun _ => False) w).alloc (.cells #[.int .i64 N, .slice A m c, .slice B k d] 40)
  have hb0 : Blk (w.alloc (.cells #[.int .i64 N, .slice A m c, .slice B k d] 40)) w.heap.size 40 [.int .i64 N, .slice A m c, .slice B k d] := Blk.new _ _ _
  have KR := Lib.hid (fun W (hf : Frm (fun _ => False) w W) => rcheck_any N A m c B k d L0 l0 _ _ W hm hk (by omega) (by omega) (r0.frm hf (fun _ _ => id)) (r1.frm hf (fun _ _ => id)))
  have KF := Lib.hid (fun W (hf : Frm (fun _ => False) w W) => fault_any P W (hS.frm hf) _ (ckc_is N L0 l0))
  have KE := Lib.hid (fun W (hf : Frm (fun _ => False) w W) => show Calls Tryd.prog 45 #[cv N A m c B k d, .slice none 0 0] W fun e w' => ∃ (N2 : Int) (A2 : Option Addr) (k2 c2 : Nat), e = .returned (.tuple #[nv N2 A2 k2 c2, PE P (ckCode N L0 l0)]) ∧ Frm (fun _ => False) W w' from by
    by_cases hz : ckCode N L0 l0 = 0
    · obtain ⟨x1, x2, x3, x4⟩ := ckc_zero hz
      have hN : N = (N.toNat : Int) := by omega
      rw [hz, hN, PE_zero]
      rw [hm] at x2 x4
      refine (encode_any L7 P (by simp) (by simp) N.toNat A m c B k d L0 l0 none 0 0 [] _ _ (fun _ => False) W hm hk rfl (by omega) (by omega) (by omega) x3 x4 (by simp) (r0.frm hf (fun _ _ => id)) (r1.frm hf (fun _ _ => id)) (Sl.nil_ _ _ _)).mono ?_
      rintro e w' ⟨v, rfl, ⟨A', c', rfl, _⟩, hf'⟩
      exact ⟨_, _, _, _, rfl, hf'⟩
    · refine (encode_bad L7 P (by simp) (by simp) N A m c B k d L0 l0 none 0 0 _ _ W hm hk (by omega) (by omega) (r0.frm hf (fun _ _ => id)) (r1.frm hf (fun _ _ => id)) (hS.frm hf) hz).mono ?_
      rintro e w' ⟨rfl, hf'⟩
      exact ⟨_, _, _, _, rfl, hf'⟩)
  have KI := Lib.hid (fun W (hf : Frm (fun _ => False) w W) => isErr_any P W (hS.frm hf) 104 (by decide) 104)
  have hSS := Lib.hid (fun W (hf : Frm (fun _ => False) w W) => hS.frm hf)
  have hfld := fun (W : World) (q : Int) => show (Instr.field 62 (.agg #[.int .i64 q, .bool false, .int .i64 0]) 0).run Tryd.prog W = .ok (.int .i64 q) W from field0 q W
  have hlm : (mkAnds i z1).length ≤ 60 := by rw [mkAnds_length]; omega
  have hr := mkAnds_right i z1
  have HMK := Lib.hid (fun W (hf : Frm (fun _ => False) w W) => make_any i a1 len1 cap1 z1 hz1 none 0 0 [] rfl _ (fun _ => False) W (s1.frm hf (fun _ _ => id)) (Sl.nil_ _ _ _) (by omega) (by omega) (by omega))
  have HR := Lib.hid hr
  have HZ2 := Lib.hid hz2
  clear hz1 hz2 s1 hr hm hk r0 r1 hS
  generalize mkAnds i z1 = L at *
  have hmo : mkOuts i z1 [] = [] := rfl
  rw [hmo] at HMK
  clear hmo
  generalize ckCode N L0 l0 = code at *
  generalize hpe : PE P code = pe at *
  clear hpe
  obtain ⟨j0, hj0, hq0, hq1, hq2⟩ := info_parts infoIntG
  have b00 := hb0.at_ 0 rfl
  have b01 := hb0.at_ 1 rfl
  have b02 := hb0.at_ 2 rfl
  go_enter Tryd.func13, Tryd.ntmps13
  go_wp2_with fail
  refine (first13_any _).mono ?_
  rintro e w1 ⟨rfl, hf1⟩
  have hf01 := hf0.trans hf1
  have hb1 := hb0.frm hf1 id
  have c0 := hb1.at_ 0 rfl
  have c1 := hb1.at_ 1 rfl
  have c2 := hb1.at_ 2 rfl
  clear b00 b01 b02 hb0 hf0 hf1
  go_wp2_with fail
  refine (KE.out w1 hf01).mono ?_
  rintro e w2 ⟨N2, A2, k2, e2, rfl, hf2⟩
  have hfa := (Frm.refl (fun _ => False) w2).alloc (.cells #[.int .i64 N2, .slice A2 k2 e2] 51)
  have hf02 := (hf01.trans hf2).trans hfa
  have hb2 := (hb1.frm hf2 id).frm hfa id
  obtain ⟨W2, hW2⟩ : ∃ W2, W2 = w2.alloc (.cells #[.int .i64 N2, .slice A2 k2 e2] 51) := ⟨_, rfl⟩
  rw [← hW2] at hf02 hb2
  simp only [nv]
  clear c0 c1 c2 hb1 hf01 hf2 hfa
  have hH0 : W2.drew.cell? ⟨w.heap.size, 0, none⟩ = some (.int .i64 N) ∧ W2.drew.cell? ⟨w.heap.size, 1, none⟩ = some (.slice A m c) ∧ W2.drew.cell? ⟨w.heap.size, 2, none⟩ = some (.slice B k d) := ⟨hb2.at_ 0 rfl, hb2.at_ 1 rfl, hb2.at_ 2 rfl⟩
  have hfd := hf02.drewN 1
  go_wp2_with fail
  rw [← hW2]
  clear hW2
  have hHeld := hH0
  refine Held.begin (fun w' => w'.cell? ⟨w.heap.size, 0, none⟩ = some (.int .i64 N) ∧ w'.cell? ⟨w.heap.size, 1, none⟩ = some (.slice A m c) ∧ w'.cell? ⟨w.heap.size, 2, none⟩ = some (.slice B k d)) 6 (by kernel_rfl) ?_
  refine Held.take (i := 0) (oi := ?oa0) (v := ?va0) ?hia0 (by kernel_rfl) (by kernel_rfl) (by kernel_rfl) (by kernel_rfl) (fun _ _ _ h => h) (Or.inl ⟨?hwa0, ?hya0⟩) (by assumption) ?resta0
  case hia0 => (simp only [List.getElem?_toArray, List.getElem?_cons_zero]; rfl)
  case hwa0 => rfl
  case hya0 => (intro w hSw; (try dsimp only at hSw); go_simp; try with_reducible rfl)
  (try simp only [Act.put, List.setIfInBounds_toArray, List.set_cons_zero, List.set_cons_succ])
  refine Held.take (i := 3) (oi := ?oa3) (v := ?va3) ?hia3 (by kernel_rfl) (by kernel_rfl) (by kernel_rfl) (by kernel_rfl) (fun _ _ _ h => h) (Or.inl ⟨?hwa3, ?hya3⟩) (by assumption) ?resta3
  case hia3 => (simp only [List.getElem?_toArray, List.getElem?_cons_succ, List.getElem?_cons_zero]; rfl)
  case hwa3 => rfl
  case hya3 => (intro w hSw; (try dsimp only at hSw); go_simp; try with_reducible rfl)
  (try simp only [Act.put, List.setIfInBounds_toArray, List.set_cons_zero, List.set_cons_succ])
  refine Held.next (i := 1) (o := ?oa1) (by kernel_rfl) ?hia1 (fun K hK => ?sta1)
  case hia1 => (simp only [List.getElem?_toArray, List.getElem?_cons_succ, List.getElem?_cons_zero]; rfl)
  go_simp
  (go_at_call 70; refine (KF.out _ hfd).mono ?_; rintro e w3 ⟨rfl, hf3⟩)
  (try go_wp2_with fail)
  refine hK.out _ _ (fun _ => by exact ⟨hf3.cell hHeld.1 id, hf3.cell hHeld.2.1 id, hf3.cell hHeld.2.2 id⟩) ?_
  clear hK K
  (try simp only [Act.put, List.setIfInBounds_toArray, List.set_cons_zero, List.set_cons_succ])
  have hH2 := And.intro (hf3.cell hHeld.1 id) (And.intro (hf3.cell hHeld.2.1 id) (hf3.cell hHeld.2.2 id))
  have hfe := hfd.trans hf3
  refine Held.take (i := 2) (oi := ?oa2) (v := ?va2) ?hia2 (by kernel_rfl) (by kernel_rfl) (by kernel_rfl) (by kernel_rfl) (fun _ _ _ h => h) (Or.inl ⟨?hwa2, ?hya2⟩) (by assumption) ?resta2
  case hia2 => (simp only [List.getElem?_toArray, List.getElem?_cons_succ, List.getElem?_cons_zero]; rfl)
  case hwa2 => rfl
  case hya2 => (intro w hSw; (try dsimp only at hSw); go_simp; try with_reducible rfl)
  (try simp only [Act.put, List.setIfInBounds_toArray, List.set_cons_zero, List.set_cons_succ])
  refine Held.next (i := 4) (o := ?oa4) (by kernel_rfl) ?hia4 (fun K hK => ?sta4)
  case hia4 => (simp only [List.getElem?_toArray, List.getElem?_cons_succ, List.getElem?_cons_zero]; rfl)
  go_simp
  (go_at_call 65; refine (KR.out _ hfe).mono ?_; rintro e w4 ⟨rfl, hf4⟩)
  (try go_wp2_with fail)
  refine hK.out _ _ (fun _ => by exact ⟨hf4.cell hH2.1 id, hf4.cell hH2.2.1 id, hf4.cell hH2.2.2 id⟩) ?_
  clear hK K
  (try simp only [Act.put, List.setIfInBounds_toArray, List.set_cons_zero, List.set_cons_succ])
  have hH3 := And.intro (hf4.cell hH2.1 id) (And.intro (hf4.cell hH2.2.1 id) (hf4.cell hH2.2.2 id))
  refine Held.take (i := 5) (oi := ?oa5) (v := ?va5) ?hia5 (by kernel_rfl) (by kernel_rfl) (by kernel_rfl) (by kernel_rfl) (fun _ _ _ h => h) (Or.inl ⟨?hwa5, ?hya5⟩) (by assumption) ?resta5
  case hia5 => (simp only [List.getElem?_toArray, List.getElem?_cons_succ, List.getElem?_cons_zero]; rfl)
  case hwa5 => rfl
  case hya5 => (intro w hSw; (try dsimp only at hSw); go_simp; try with_reducible rfl)
  (try simp only [Act.put, List.setIfInBounds_toArray, List.set_cons_zero, List.set_cons_succ])
  refine Held.done (by kernel_rfl) ?_ _
  refine NoPanic.normal ?_
  have hf04 := hfe.trans hf4
  clear hH0 hH2 hH3 hHeld hf3 hf4 hfd hfe hb2 hf02 KE KF KR hfld
  go_wp2_with fail
  refine (HMK.out w4 hf04).mono ?_
  rintro e w5 ⟨v, rfl, ⟨A1, e1, B1, e2, rfl, hA, hB⟩, hf5⟩
  clear HMK
  have hfa := (Frm.refl (fun _ => False) w5).alloc (.cells #[.int .i64 i, .slice A1 L.length e1, .slice B1 0 e2] 40)
  have hba : Blk (w5.alloc (.cells #[.int .i64 i, .slice A1 L.length e1, .slice B1 0 e2] 40)) w5.heap.size 40 [.int .i64 i, .slice A1 L.length e1, .slice B1 0 e2] := Blk.new _ _ _
  have hA3 := hA.frm hfa (fun _ _ => id)
  have hB3 := hB.frm hfa (fun _ _ => id)
  have hf05 := (hf04.trans hf5).trans hfa
  obtain ⟨W5, hW5⟩ : ∃ W5, W5 = w5.alloc (.cells #[.int .i64 i, .slice A1 L.length e1, .slice B1 0 e2] 40) := ⟨_, rfl⟩
  have hlt5 : w5.heap.size < W5.heap.size := by rw [hW5]; simp
  rw [← hW5] at hba hA3 hB3 hf05
  have b1 := hba.at_ 1 rfl
  have wa : IntKind.i64.wrap ((i : Int) + (L.length : Int)) = (i : Int) + (L.length : Int) := IntWalk.i64_in _ (by omega)
  have wb : IntKind.i64.wrap (2 * ((i : Int) + (L.length : Int))) = 2 * ((i : Int) + (L.length : Int)) := IntWalk.i64_in _ (by omega)
  have wc : IntKind.i64.wrap (2 * ((i : Int) + (L.length : Int)) + 2) = 2 * ((i : Int) + (L.length : Int)) + 2 := IntWalk.i64_in _ (by omega)
  simp only [List.length_nil]
  clear hA hB hfa hf5 hf04
  obtain ⟨D, hD⟩ : ∃ D : List Int, D = z2.map (fun y => y % (2 * ((i : Int) + (L.length : Int)) + 2)) := ⟨_, rfl⟩
  have hDl : D.length = len2 := by rw [hD]; simpa using HZ2.out
  have hDk : ∀ j, j < len2 → D[j]? = some (z2.getD j 0 % (2 * ((i : Int) + (L.length : Int)) + 2)) := by intro j hj; rw [hD, List.getElem?_map]; have h := HZ2.out; simp [List.getD, show j < z2.length by omega]
  have hDx : ∀ y ∈ D, isL y (i + L.length) = true := by
    intro y hy
    rw [hD] at hy
    obtain ⟨u, _, rfl⟩ := List.mem_map.1 hy
    have := isL_emod u (i + L.length)
    rwa [show 2 * ((i + L.length : Nat) : Int) + 2 = 2 * ((i : Int) + (L.length : Int)) + 2 from by omega] at this
  have HDL := Lib.hid hDl
  have HDK := Lib.hid hDk
  have HDX := Lib.hid hDx
  clear hD hDl hDk hDx
  obtain ⟨T, hT⟩ : ∃ T : Int, T = 2 * ((i : Int) + (L.length : Int)) + 2 := ⟨_, rfl⟩
  rw [← hT] at wc HDK
  rw [hT] at wc
  have hTr : 2 ≤ T ∧ T ≤ 200 := by omega
  have wc2 : IntKind.i64.wrap (2 * ((i : Int) + (L.length : Int)) + 2) = T := by rw [wc, hT]
  have HT := Lib.hid hT
  clear hT wc
  have b1e : (w5.alloc (.cells #[.int .i64 i, .slice A1 L.length e1, .slice B1 0 e2] 40)).cell? ⟨w5.heap.size, 1, none⟩ = some (.slice A1 L.length e1) := by rw [← hW5]; exact b1
  go_wp2_with fail
  simp only [← hW5]
  clear b1e hW5
  go_loopw [16, 17] (fun tv iv wr => ∃ (j : Nat) (Ap : Option Addr) (cp : Nat), j ≤ len2 ∧ iv = .int .i64 j ∧ tv = .slice Ap j cp ∧ wr.ownsRow W5.heap.size 3 1 (.slice Ap j cp) j ((D.map (.int .i64)).take j) ∧ Frm (fun _ => False) W5 wr) (fun _ iv _ => len2 - (intOf iv).toNat)
  case atStart => exact ⟨0, none, 0, by omega, rfl, rfl, by simpa using World.ownsRow_nil _ _ _ _, Frm.refl _ _⟩
  case round =>
    obtain ⟨j, Ap, cp, hj, rfl, rfl, hown, hfk⟩ := hrel
    by_cases hlt : j < len2
    · obtain ⟨bk, o, u, rfl, _, hu, hcell⟩ := (s2.frm (hf05.trans hfk) (fun _ _ => id)).at_ hlt
      obtain rfl := at_getD hu
      have hdk := HDK.out j hlt
      have HDD := Lib.hid hdk
      clear hu hdk b1
      generalize z2.getD j 0 = y at *
      have k0 : (0 : Int) ≤ j := by omega
      have k1 : (j : Int) < len2 := by omega
      have hsk := hfk.size
      go_wp2_with fail
      refine (number_any y T _ (by omega) (by omega)).mono ?_
      rintro e w' ⟨rfl, rfl⟩
      generalize y % T = X at *
      go_wp2_with (at_builtin; refine wpList_append_own _ rfl (.tmp 82) (.tmp 89) 22 rfl W5.heap.size 3 j0 (.int .i64 0) 1 8 Tryd.underlying22 hj0 hq0 hq1 hq2 rfl (by decide) _ _ _ rfl (hown.alloc (.cells #[.int .i64 X] 3)) ⟨wr.heap.size, 0, none⟩ 1 1 [.int .i64 X] rfl rfl (cell_one_new _ _ _) ?c2 ?c3 ?c4 ?c5 ?_)
      case c2 => intro u hu; simp at hu; subst hu; rfl
      case c3 => unfold maxLen; omega
      case c4 => omega
      case c5 => simp; omega
      intro v' w8 hown8 hgrow _
      have hfk8 : Frm (fun _ => False) W5 w8 := (hfk.alloc (.cells #[.int .i64 X] 3)).grown hgrow (fun g hg hlt => by have := (hown.lt g hg).1; omega)
      obtain ⟨A3, c3, rfl, hownN⟩ := own_nextB (D := D) HDD.out hown8
      clear hown hown8 hgrow hcell hfk
      go_wp2_with fail
      go_roundw
      case rel => exact ⟨j + 1, A3, c3, by omega, by go_num, rfl, hownN, hfk8⟩
      case measure => simp [intOf]; omega
    · obtain rfl : len2 = j := by omega
      rw [List.take_of_length_le (by rw [List.length_map, HDL.out]; omega)] at hown
      have hsl := own_sl hown
      have hbk := hba.frm hfk id
      have hAk := hA3.frm hfk (fun _ _ => id)
      have hBk := hB3.frm hfk (fun _ _ => id)
      have hf0k := hf05.trans hfk
      have b0 := hbk.at_ 0 rfl
      have b1 := hbk.at_ 1 rfl
      have b2 := hbk.at_ 2 rfl
      have HE := Lib.hid (encode_any [102, 104] (fun _ => ⟨0, 0, none⟩) (by simp) (by simp) i A1 L.length e1 B1 0 e2 L [] Ap len2 cp D _ _ _ wr rfl rfl HDL.out (by omega) (by omega) (by omega) HR.out (by simp) HDX.out hAk hBk hsl)
      have hfin := encC_in HR.out (f := D) HDX.out
      have hlenC : (encC i L D).length ≤ 1000 := by
        have h1 := encFew_length i L L.length
        have h2 := forceC_length D
        have h3 := HDL.out
        unfold encC
        rw [List.length_append]
        omega
      have HREN := Lib.hid (fun (W : World) (hf : Frm (fun _ => False) wr W) => rencode_any i A1 L.length e1 B1 0 e2 L Ap len2 cp D _ _ W rfl HDL.out (by omega) (by omega) HR.out HDX.out (hAk.frm hf (fun _ _ => id)) (hsl.frm hf (fun _ _ => id)))
      have HFIN := Lib.hid hfin
      have HLC := Lib.hid hlenC
      clear hfin hlenC hown hA3 hB3 hba hf05 hfk
      generalize encC i L D = cs at *
      go_wp2_with fail
      refine HE.out.mono ?_
      rintro e w6 ⟨v, rfl, ⟨Ac, cc, rfl, hcs⟩, hf6⟩
      clear HE b0 b1 b2
      have hfa6 := (Frm.refl (fun _ => False) w6).alloc (.cells #[.int .i64 ((i : Int) + (L.length : Int)), .slice Ac cs.length cc] 51)
      have hbx : Blk (w6.alloc (.cells #[.int .i64 ((i : Int) + (L.length : Int)), .slice Ac cs.length cc] 51)) w6.heap.size 51 [.int .i64 ((i : Int) + (L.length : Int)), .slice Ac cs.length cc] := Blk.new _ _ _
      have hf66 := hf6.trans hfa6
      have hb6 := hbk.frm hf66 id
      have hA6 := hAk.frm hf66 (fun _ _ => id)
      have hB6 := hBk.frm hf66 (fun _ _ => id)
      have hcs6 := hcs.frm hfa6 (fun _ _ => id)
      have hf06 := hf0k.trans hf66
      have b0 := hb6.at_ 0 rfl
      have b1 := hb6.at_ 1 rfl
      have b2 := hb6.at_ 2 rfl
      simp only [nv]
      clear hcs hbk hAk hBk hf6
      have hfr := (Frm.refl (fun _ => False) (w6.alloc (.cells #[.int .i64 ((i : Int) + (L.length : Int)), .slice Ac cs.length cc] 51))).alloc (.cells #[.int .i64 T] 3)
      have hsT := (Blk.new_at (w6.alloc (.cells #[.int .i64 ((i : Int) + (L.length : Int)), .slice Ac cs.length cc] 51)) 3 [.int .i64 T] (w6.heap.size + 1) (by simp)).sl 1 1 rfl
      have HOV := Lib.hid (encode_over P i A1 L.length e1 B1 0 e2 L [] (some ⟨w6.heap.size + 1, 0, none⟩) 1 _ _ _ _ T HT.out rfl rfl (by omega) (by omega) HR.out (by simp) (hA6.frm hfr (fun _ _ => id)) (hB6.frm hfr (fun _ _ => id)) hsT (hSS.out _ (hf06.trans hfr)))
      clear hsT
      generalize PE P 104 = p4 at *
      go_wp2_with fail
      refine HOV.out.mono ?_
      rintro e w7 ⟨rfl, hf7⟩
      clear HOV b0 b1 b2
      have hfa7 := (Frm.refl (fun _ => False) w7).alloc (.cells #[.int .i64 0, .slice none 0 0] 51)
      have hf77 := (hfr.trans hf7).trans hfa7
      have hbx7 := hbx.frm hf77 id
      have hb7 := hb6.frm hf77 id
      have hA7 := hA6.frm hf77 (fun _ _ => id)
      have hB7 := hB6.frm hf77 (fun _ _ => id)
      have hcs7 := hcs6.frm hf77 (fun _ _ => id)
      have hf07 := hf06.trans hf77
      have hfk7 := hf66.trans hf77
      obtain ⟨W7, hW7⟩ : ∃ W7, W7 = w7.alloc (.cells #[.int .i64 0, .slice none 0 0] 51) := ⟨_, rfl⟩
      rw [← hW7] at hbx7 hb7 hA7 hB7 hcs7 hf07 hfk7
      simp only [nv]
      clear hfa7 hf77 hbx hb6 hA6 hB6 hcs6 hf66 hf06 hf7 hfr
      have HV := Lib.hid (fun (W : World) => values_any x i (by omega) W)
      have hinl := mkVals_length x i
      have HVL := Lib.hid hinl
      clear hinl
      generalize mkVals x i = inp at *
      have HX := Lib.hid (fun (W : World) (hf : Frm (fun _ => False) W7 W) (Ai : Option Addr) (ci : Nat) (G : Nat → Prop) (hi : Sl W G 1 (.slice Ai i ci) i (inp.map .bool)) => extend_any i L A1 L.length e1 B1 0 e2 [] Ai i ci inp _ _ G W rfl rfl HVL.out HR.out (by omega) (by omega) (by omega) (by omega) (by simp) (hA7.frm hf (fun _ _ => id)) (hB7.frm hf (fun _ _ => id)) hi)
      have HRN := Lib.hid (fun (W : World) (hf : Frm (fun _ => False) W7 W) (Ai : Option Addr) (ci : Nat) (G : Nat → Prop) (hi : Sl W G 1 (.slice Ai i ci) i (inp.map .bool)) => rnodes_any i L A1 L.length e1 B1 0 e2 Ai i ci inp _ G W rfl HVL.out HR.out (by omega) (by omega) (hA7.frm hf (fun _ _ => id)) hi)
      have hH0 : W7.drew.cell? ⟨w5.heap.size, 0, none⟩ = some (.int .i64 (i : Int)) ∧ W7.drew.cell? ⟨w5.heap.size, 1, none⟩ = some (.slice A1 L.length e1) ∧ W7.drew.cell? ⟨w5.heap.size, 2, none⟩ = some (.slice B1 0 e2) := ⟨hb7.at_ 0 rfl, hb7.at_ 1 rfl, hb7.at_ 2 rfl⟩
      go_wp2_with fail
      rw [← hW7]
      clear hW7
      have hHeld := hH0
      refine Held.begin (fun w' => w'.cell? ⟨w5.heap.size, 0, none⟩ = some (.int .i64 (i : Int)) ∧ w'.cell? ⟨w5.heap.size, 1, none⟩ = some (.slice A1 L.length e1) ∧ w'.cell? ⟨w5.heap.size, 2, none⟩ = some (.slice B1 0 e2)) 5 (by kernel_rfl) ?_
      refine Held.take (i := 0) (oi := ?ob0) (v := ?vb0) ?hib0 (by kernel_rfl) (by kernel_rfl) (by kernel_rfl) (by kernel_rfl) (fun _ _ _ h => h) (Or.inl ⟨?hwb0, ?hyb0⟩) (by assumption) ?restb0
      case hib0 => (simp only [List.getElem?_toArray, List.getElem?_cons_zero]; rfl)
      case hwb0 => rfl
      case hyb0 => (intro w hSw; (try dsimp only at hSw); go_simp; try with_reducible rfl)
      (try simp only [Act.put, List.setIfInBounds_toArray, List.set_cons_zero, List.set_cons_succ])
      refine Held.take (i := 1) (oi := ?ob1) (v := ?vb1) ?hib1 (by kernel_rfl) (by kernel_rfl) (by kernel_rfl) (by kernel_rfl) (fun _ _ _ h => h) (Or.inl ⟨?hwb1, ?hyb1⟩) (by assumption) ?restb1
      case hib1 => (simp only [List.getElem?_toArray, List.getElem?_cons_succ, List.getElem?_cons_zero]; rfl)
      case hwb1 => rfl
      case hyb1 => (intro w hSw; (try dsimp only at hSw); go_simp; try with_reducible rfl)
      (try simp only [Act.put, List.setIfInBounds_toArray, List.set_cons_zero, List.set_cons_succ])
      refine Held.take (i := 2) (oi := ?ob2) (v := ?vb2) ?hib2 (by kernel_rfl) (by kernel_rfl) (by kernel_rfl) (by kernel_rfl) (fun _ _ _ h => h) (Or.inl ⟨?hwb2, ?hyb2⟩) (by assumption) ?restb2
      case hib2 => (simp only [List.getElem?_toArray, List.getElem?_cons_succ, List.getElem?_cons_zero]; rfl)
      case hwb2 => rfl
      case hyb2 => (intro w hSw; (try dsimp only at hSw); go_simp; try with_reducible rfl)
      (try simp only [Act.put, List.setIfInBounds_toArray, List.set_cons_zero, List.set_cons_succ])
      refine Held.next (i := 3) (o := ?ob3) (by kernel_rfl) ?hib3 (fun K hK => ?stb3)
      case hib3 => (simp only [List.getElem?_toArray, List.getElem?_cons_succ, List.getElem?_cons_zero]; rfl)
      go_simp
      (go_at_call 46; refine (HV.out _).mono ?_; rintro e w8 ⟨Ai, ci, rfl, hown8, hf8⟩)
      (try go_wp2_with fail)
      refine hK.out _ _ (fun _ => by exact ⟨hf8.cell hHeld.1 id, hf8.cell hHeld.2.1 id, hf8.cell hHeld.2.2 id⟩) ?_
      clear hK K
      (try simp only [Act.put, List.setIfInBounds_toArray, List.set_cons_zero, List.set_cons_succ])
      refine Held.next (i := 4) (o := ?ob4) (by kernel_rfl) ?hib4 (fun K hK => ?stb4)
      case hib4 => (simp only [List.getElem?_toArray, List.getElem?_cons_succ, List.getElem?_cons_zero]; rfl)
      go_simp
      (go_at_call 71; refine (HX.out _ (((Frm.refl _ _).drewN 1).trans hf8) Ai ci _ (own_sl hown8)).mono ?_; rintro e w9 ⟨Am, cm, rfl, hown9, hf9⟩)
      (try go_wp2_with fail)
      refine hK.out _ _ (fun _ => by exact ⟨hf9.cell (hf8.cell hHeld.1 id) id, hf9.cell (hf8.cell hHeld.2.1 id) id, hf9.cell (hf8.cell hHeld.2.2 id) id⟩) ?_
      clear hK K
      (try simp only [Act.put, List.setIfInBounds_toArray, List.set_cons_zero, List.set_cons_succ])
      refine Held.next (i := 5) (o := ?ob5) (by kernel_rfl) ?hib5 (fun K hK => ?stb5)
      case hib5 => (simp only [List.getElem?_toArray, List.getElem?_cons_succ, List.getElem?_cons_zero]; rfl)
      go_simp
      refine hK.out _ _ (fun h => absurd h (by decide)) ?_
      clear hK K
      (try simp only [Act.put, List.setIfInBounds_toArray, List.set_cons_zero, List.set_cons_succ])
      refine Held.done (by kernel_rfl) ?_ _
      refine NoPanic.normal ?_
      have hf79 := (((Frm.refl (fun _ => False) W7).drewN 1).trans hf8).trans hf9
      have hb9 := hb7.frm hf79 id
      have hbx9 := hbx7.frm hf79 id
      have hcs9 := hcs7.frm hf79 (fun _ _ => id)
      have hf09 := hf07.trans hf79
      have hfk9 := hfk7.trans hf79
      have hm9 := own_sl hown9
      have hnl := nodes_length i L inp
      clear hH0 hHeld hown8 hown9 hf8 hf9 HX hb7 hbx7 hcs7 hf07
      generalize nodes i L inp = ns at *
      have HH := Lib.hid (fun (W W' : World) (hf : Frm (fun _ => False) W W') (h : W.cell? ⟨w5.heap.size, 0, none⟩ = some (.int .i64 (i : Int)) ∧ W.cell? ⟨w5.heap.size, 1, none⟩ = some (.slice A1 L.length e1) ∧ W.cell? ⟨w5.heap.size, 2, none⟩ = some (.slice B1 0 e2) ∧ W.cell? ⟨w6.heap.size, 0, none⟩ = some (.int .i64 ((i : Int) + (L.length : Int))) ∧ W.cell? ⟨w6.heap.size, 1, none⟩ = some (.slice Ac cs.length cc)) =>
        show W'.cell? ⟨w5.heap.size, 0, none⟩ = some (.int .i64 (i : Int)) ∧ W'.cell? ⟨w5.heap.size, 1, none⟩ = some (.slice A1 L.length e1) ∧ W'.cell? ⟨w5.heap.size, 2, none⟩ = some (.slice B1 0 e2) ∧ W'.cell? ⟨w6.heap.size, 0, none⟩ = some (.int .i64 ((i : Int) + (L.length : Int))) ∧ W'.cell? ⟨w6.heap.size, 1, none⟩ = some (.slice Ac cs.length cc) from ⟨hf.cell h.1 id, hf.cell h.2.1 id, hf.cell h.2.2.1 id, hf.cell h.2.2.2.1 id, hf.cell h.2.2.2.2 id⟩)
      have hH1 : w9.drew.cell? ⟨w5.heap.size, 0, none⟩ = some (.int .i64 (i : Int)) ∧ w9.drew.cell? ⟨w5.heap.size, 1, none⟩ = some (.slice A1 L.length e1) ∧ w9.drew.cell? ⟨w5.heap.size, 2, none⟩ = some (.slice B1 0 e2) ∧ w9.drew.cell? ⟨w6.heap.size, 0, none⟩ = some (.int .i64 ((i : Int) + (L.length : Int))) ∧ w9.drew.cell? ⟨w6.heap.size, 1, none⟩ = some (.slice Ac cs.length cc) := ⟨hb9.at_ 0 rfl, hb9.at_ 1 rfl, hb9.at_ 2 rfl, hbx9.at_ 0 rfl, hbx9.at_ 1 rfl⟩
      have hd9 : Frm (fun _ => False) w9 w9.drew := (Frm.refl _ _).drewN 1
      have hxT : T < 9223372036854775808 := by omega
      go_wp2_with fail
      have hHeld := hH1
      refine Held.begin (fun w' => w'.cell? ⟨w5.heap.size, 0, none⟩ = some (.int .i64 (i : Int)) ∧ w'.cell? ⟨w5.heap.size, 1, none⟩ = some (.slice A1 L.length e1) ∧ w'.cell? ⟨w5.heap.size, 2, none⟩ = some (.slice B1 0 e2) ∧ w'.cell? ⟨w6.heap.size, 0, none⟩ = some (.int .i64 ((i : Int) + (L.length : Int))) ∧ w'.cell? ⟨w6.heap.size, 1, none⟩ = some (.slice Ac cs.length cc)) 39 (by kernel_rfl) ?_
      refine Held.take (i := 0) (oi := ?oc0) (v := ?vc0) ?hic0 (by kernel_rfl) (by kernel_rfl) (by kernel_rfl) (by kernel_rfl) (fun _ _ _ h => h) (Or.inl ⟨?hwc0, ?hyc0⟩) (by assumption) ?restc0
      case hic0 => (simp only [List.getElem?_toArray, List.getElem?_cons_zero]; rfl)
      case hwc0 => rfl
      case hyc0 => (intro w hSw; (try dsimp only at hSw); go_simp; try with_reducible rfl)
      (try simp only [Act.put, List.setIfInBounds_toArray, List.set_cons_zero, List.set_cons_succ])
      refine Held.take (i := 1) (oi := ?oc1) (v := ?vc1) ?hic1 (by kernel_rfl) (by kernel_rfl) (by kernel_rfl) (by kernel_rfl) (fun _ _ _ h => h) (Or.inl ⟨?hwc1, ?hyc1⟩) (by assumption) ?restc1
      case hic1 => (simp only [List.getElem?_toArray, List.getElem?_cons_succ, List.getElem?_cons_zero]; rfl)
      case hwc1 => rfl
      case hyc1 => (intro w hSw; (try dsimp only at hSw); go_simp; try with_reducible rfl)
      (try simp only [Act.put, List.setIfInBounds_toArray, List.set_cons_zero, List.set_cons_succ])
      refine Held.take (i := 2) (oi := ?oc2) (v := ?vc2) ?hic2 (by kernel_rfl) (by kernel_rfl) (by kernel_rfl) (by kernel_rfl) (fun _ _ _ h => h) (Or.inl ⟨?hwc2, ?hyc2⟩) (by assumption) ?restc2
      case hic2 => (simp only [List.getElem?_toArray, List.getElem?_cons_succ, List.getElem?_cons_zero]; rfl)
      case hwc2 => rfl
      case hyc2 => (intro w hSw; (try dsimp only at hSw); go_simp; try with_reducible rfl)
      (try simp only [Act.put, List.setIfInBounds_toArray, List.set_cons_zero, List.set_cons_succ])
      refine Held.take (i := 3) (oi := ?oc3) (v := ?vc3) ?hic3 (by kernel_rfl) (by kernel_rfl) (by kernel_rfl) (by kernel_rfl) (fun _ _ _ h => h) (Or.inl ⟨?hwc3, ?hyc3⟩) (by assumption) ?restc3
      case hic3 => (simp only [List.getElem?_toArray, List.getElem?_cons_succ, List.getElem?_cons_zero]; rfl)
      case hwc3 => rfl
      case hyc3 => (intro w hSw; (try dsimp only at hSw); go_simp; try with_reducible rfl)
      (try simp only [Act.put, List.setIfInBounds_toArray, List.set_cons_zero, List.set_cons_succ])
      refine Held.take (i := 4) (oi := ?oc4) (v := ?vc4) ?hic4 (by kernel_rfl) (by kernel_rfl) (by kernel_rfl) (by kernel_rfl) (fun _ _ _ h => h) (Or.inl ⟨?hwc4, ?hyc4⟩) (by assumption) ?restc4
      case hic4 => (simp only [List.getElem?_toArray, List.getElem?_cons_succ, List.getElem?_cons_zero]; rfl)
      case hwc4 => rfl
      case hyc4 => (intro w hSw; (try dsimp only at hSw); go_simp; try with_reducible rfl)
      (try simp only [Act.put, List.setIfInBounds_toArray, List.set_cons_zero, List.set_cons_succ])
      refine Held.take (i := 5) (oi := ?oc5) (v := ?vc5) ?hic5 (by kernel_rfl) (by kernel_rfl) (by kernel_rfl) (by kernel_rfl) (fun _ _ _ h => h) (Or.inl ⟨?hwc5, ?hyc5⟩) (by assumption) ?restc5
      case hic5 => (simp only [List.getElem?_toArray, List.getElem?_cons_succ, List.getElem?_cons_zero]; rfl)
      case hwc5 => rfl
      case hyc5 => (intro w hSw; (try dsimp only at hSw); go_simp; try with_reducible rfl)
      (try simp only [Act.put, List.setIfInBounds_toArray, List.set_cons_zero, List.set_cons_succ])
      refine Held.take (i := 6) (oi := ?oc6) (v := ?vc6) ?hic6 (by kernel_rfl) (by kernel_rfl) (by kernel_rfl) (by kernel_rfl) (fun _ _ _ h => h) (Or.inl ⟨?hwc6, ?hyc6⟩) (by assumption) ?restc6
      case hic6 => (simp only [List.getElem?_toArray, List.getElem?_cons_succ, List.getElem?_cons_zero]; rfl)
      case hwc6 => rfl
      case hyc6 => (intro w hSw; (try dsimp only at hSw); go_simp; try with_reducible rfl)
      (try simp only [Act.put, List.setIfInBounds_toArray, List.set_cons_zero, List.set_cons_succ])
      refine Held.take (i := 7) (oi := ?oc7) (v := ?vc7) ?hic7 (by kernel_rfl) (by kernel_rfl) (by kernel_rfl) (by kernel_rfl) (fun _ _ _ h => h) (Or.inl ⟨?hwc7, ?hyc7⟩) (by assumption) ?restc7
      case hic7 => (simp only [List.getElem?_toArray, List.getElem?_cons_succ, List.getElem?_cons_zero]; rfl)
      case hwc7 => rfl
      case hyc7 => (intro w hSw; (try dsimp only at hSw); go_simp; try with_reducible rfl)
      (try simp only [Act.put, List.setIfInBounds_toArray, List.set_cons_zero, List.set_cons_succ])
      refine Held.take (i := 8) (oi := ?oc8) (v := ?vc8) ?hic8 (by kernel_rfl) (by kernel_rfl) (by kernel_rfl) (by kernel_rfl) (fun _ _ _ h => h) (Or.inl ⟨?hwc8, ?hyc8⟩) (by assumption) ?restc8
      case hic8 => (simp only [List.getElem?_toArray, List.getElem?_cons_succ, List.getElem?_cons_zero]; rfl)
      case hwc8 => rfl
      case hyc8 => (intro w hSw; (try dsimp only at hSw); go_simp; try with_reducible rfl)
      (try simp only [Act.put, List.setIfInBounds_toArray, List.set_cons_zero, List.set_cons_succ])
      refine Held.next (i := 9) (o := ?oc9) (by kernel_rfl) ?hic9 (fun K hK => ?stc9)
      case hic9 => (simp only [List.getElem?_toArray, List.getElem?_cons_succ, List.getElem?_cons_zero]; rfl)
      go_simp
      (go_at_call 73; refine (HREN.out _ ((hfk9.trans hd9))).mono ?_; rintro e w10 ⟨v, rfl, hIN, hf10⟩)
      (try go_wp2_with fail)
      refine hK.out _ _ (fun _ => by exact HH.out _ _ hf10 hHeld) ?_
      clear hK K
      (try simp only [Act.put, List.setIfInBounds_toArray, List.set_cons_zero, List.set_cons_succ])
      have hH2 := HH.out _ _ hf10 hHeld
      have hd10 := hd9.trans hf10
      have HSC := Lib.hid (sameCNF_any (u := nv ((i : Int) + (L.length : Int)) Ac cs.length cc) (by have := HLC.out; omega) (fun r hr => by have := (HFIN.out r hr).1; omega) ⟨Ac, cc, rfl, hcs9.frm hd10 (fun _ _ => id)⟩ hIN)
      simp only [nv] at HSC
      refine Held.next (i := 10) (o := ?oc10) (by kernel_rfl) ?hic10 (fun K hK => ?stc10)
      case hic10 => (simp only [List.getElem?_toArray, List.getElem?_cons_succ, List.getElem?_cons_zero]; rfl)
      go_simp
      (go_at_call 72; refine HSC.out.mono ?_; rintro e w11 ⟨rfl, hf11⟩)
      (try go_wp2_with fail)
      refine hK.out _ _ (fun _ => by exact HH.out _ _ hf11 hH2) ?_
      clear hK K
      (try simp only [Act.put, List.setIfInBounds_toArray, List.set_cons_zero, List.set_cons_succ])
      have hH3 := HH.out _ _ hf11 hH2
      have hd11 := hd10.trans hf11
      refine Held.take (i := 11) (oi := ?oc11) (v := ?vc11) ?hic11 (by kernel_rfl) (by kernel_rfl) (by kernel_rfl) (by kernel_rfl) (fun _ _ _ h => h) (Or.inl ⟨?hwc11, ?hyc11⟩) (by assumption) ?restc11
      case hic11 => (simp only [List.getElem?_toArray, List.getElem?_cons_succ, List.getElem?_cons_zero]; rfl)
      case hwc11 => rfl
      case hyc11 => (intro w hSw; (try dsimp only at hSw); go_simp; try with_reducible rfl)
      (try simp only [Act.put, List.setIfInBounds_toArray, List.set_cons_zero, List.set_cons_succ])
      refine Held.take (i := 12) (oi := ?oc12) (v := ?vc12) ?hic12 (by kernel_rfl) (by kernel_rfl) (by kernel_rfl) (by kernel_rfl) (fun _ _ _ h => h) (Or.inl ⟨?hwc12, ?hyc12⟩) (by assumption) ?restc12
      case hic12 => (simp only [List.getElem?_toArray, List.getElem?_cons_succ, List.getElem?_cons_zero]; rfl)
      case hwc12 => rfl
      case hyc12 => (intro w hSw; (try dsimp only at hSw); go_simp; try with_reducible rfl)
      (try simp only [Act.put, List.setIfInBounds_toArray, List.set_cons_zero, List.set_cons_succ])
      refine Held.take (i := 13) (oi := ?oc13) (v := ?vc13) ?hic13 (by kernel_rfl) (by kernel_rfl) (by kernel_rfl) (by kernel_rfl) (fun _ _ _ h => h) (Or.inl ⟨?hwc13, ?hyc13⟩) (by assumption) ?restc13
      case hic13 => (simp only [List.getElem?_toArray, List.getElem?_cons_succ, List.getElem?_cons_zero]; rfl)
      case hwc13 => rfl
      case hyc13 => (intro w hSw; (try dsimp only at hSw); go_simp; try with_reducible rfl)
      (try simp only [Act.put, List.setIfInBounds_toArray, List.set_cons_zero, List.set_cons_succ])
      refine Held.next (i := 14) (o := ?oc14) (by kernel_rfl) ?hic14 (fun K hK => ?stc14)
      case hic14 => (simp only [List.getElem?_toArray, List.getElem?_cons_succ, List.getElem?_cons_zero]; rfl)
      go_simp
      (go_at_call 41; refine (KI.out _ (hf09.trans hd11)).mono ?_; rintro e w12 ⟨rfl, hf12⟩)
      (try go_wp2_with fail)
      refine hK.out _ _ (fun _ => by exact HH.out _ _ hf12 hH3) ?_
      clear hK K
      (try simp only [Act.put, List.setIfInBounds_toArray, List.set_cons_zero, List.set_cons_succ])
      have hH4 := HH.out _ _ hf12 hH3
      have hd12 := hd11.trans hf12
      refine Held.take (i := 15) (oi := ?oc15) (v := ?vc15) ?hic15 (by kernel_rfl) (by kernel_rfl) (by kernel_rfl) (by kernel_rfl) (fun _ _ _ h => h) (Or.inl ⟨?hwc15, ?hyc15⟩) (by assumption) ?restc15
      case hic15 => (simp only [List.getElem?_toArray, List.getElem?_cons_succ, List.getElem?_cons_zero]; rfl)
      case hwc15 => rfl
      case hyc15 => (intro w hSw; (try dsimp only at hSw); go_simp; try with_reducible rfl)
      (try simp only [Act.put, List.setIfInBounds_toArray, List.set_cons_zero, List.set_cons_succ])
      refine Held.take (i := 16) (oi := ?oc16) (v := ?vc16) ?hic16 (by kernel_rfl) (by kernel_rfl) (by kernel_rfl) (by kernel_rfl) (fun _ _ _ h => h) (Or.inl ⟨?hwc16, ?hyc16⟩) (by assumption) ?restc16
      case hic16 => (simp only [List.getElem?_toArray, List.getElem?_cons_succ, List.getElem?_cons_zero]; rfl)
      case hwc16 => rfl
      case hyc16 => (intro w hSw; (try dsimp only at hSw); go_simp; try with_reducible rfl)
      (try simp only [Act.put, List.setIfInBounds_toArray, List.set_cons_zero, List.set_cons_succ])
      refine Held.take (i := 17) (oi := ?oc17) (v := ?vc17) ?hic17 (by kernel_rfl) (by kernel_rfl) (by kernel_rfl) (by kernel_rfl) (fun _ _ _ h => h) (Or.inl ⟨?hwc17, ?hyc17⟩) (by assumption) ?restc17
      case hic17 => (simp only [List.getElem?_toArray, List.getElem?_cons_succ, List.getElem?_cons_zero]; rfl)
      case hwc17 => rfl
      case hyc17 => (intro w hSw; (try dsimp only at hSw); go_simp; try with_reducible rfl)
      (try simp only [Act.put, List.setIfInBounds_toArray, List.set_cons_zero, List.set_cons_succ])
      refine Held.take (i := 18) (oi := ?oc18) (v := ?vc18) ?hic18 (by kernel_rfl) (by kernel_rfl) (by kernel_rfl) (by kernel_rfl) (fun _ _ _ h => h) (Or.inl ⟨?hwc18, ?hyc18⟩) (by assumption) ?restc18
      case hic18 => (simp only [List.getElem?_toArray, List.getElem?_cons_succ, List.getElem?_cons_zero]; rfl)
      case hwc18 => rfl
      case hyc18 => (intro w hSw; (try dsimp only at hSw); go_simp; try with_reducible rfl)
      (try simp only [Act.put, List.setIfInBounds_toArray, List.set_cons_zero, List.set_cons_succ])
      refine Held.take (i := 19) (oi := ?oc19) (v := ?vc19) ?hic19 (by kernel_rfl) (by kernel_rfl) (by kernel_rfl) (by kernel_rfl) (fun _ _ _ h => h) (Or.inl ⟨?hwc19, ?hyc19⟩) (by assumption) ?restc19
      case hic19 => (simp only [List.getElem?_toArray, List.getElem?_cons_succ, List.getElem?_cons_zero]; rfl)
      case hwc19 => rfl
      case hyc19 => (intro w hSw; (try dsimp only at hSw); go_simp; try with_reducible rfl)
      (try simp only [Act.put, List.setIfInBounds_toArray, List.set_cons_zero, List.set_cons_succ])
      refine Held.take (i := 20) (oi := ?oc20) (v := ?vc20) ?hic20 (by kernel_rfl) (by kernel_rfl) (by kernel_rfl) (by kernel_rfl) (fun _ _ _ h => h) (Or.inl ⟨?hwc20, ?hyc20⟩) (by assumption) ?restc20
      case hic20 => (simp only [List.getElem?_toArray, List.getElem?_cons_succ, List.getElem?_cons_zero]; rfl)
      case hwc20 => rfl
      case hyc20 => (intro w hSw; (try dsimp only at hSw); go_simp; try with_reducible rfl)
      (try simp only [Act.put, List.setIfInBounds_toArray, List.set_cons_zero, List.set_cons_succ])
      refine Held.next (i := 21) (o := ?oc21) (by kernel_rfl) ?hic21 (fun K hK => ?stc21)
      case hic21 => (simp only [List.getElem?_toArray, List.getElem?_cons_succ, List.getElem?_cons_zero]; rfl)
      go_simp
      (go_at_call 46; refine (HV.out _).mono ?_; rintro e w13 ⟨Ai2, ci2, rfl, hown13, hf13⟩)
      (try go_wp2_with fail)
      refine hK.out _ _ (fun _ => by exact HH.out _ _ hf13 hH4) ?_
      clear hK K
      (try simp only [Act.put, List.setIfInBounds_toArray, List.set_cons_zero, List.set_cons_succ])
      have hH5 := HH.out _ _ hf13 hH4
      have hd13 := hd12.trans hf13
      refine Held.next (i := 22) (o := ?oc22) (by kernel_rfl) ?hic22 (fun K hK => ?stc22)
      case hic22 => (simp only [List.getElem?_toArray, List.getElem?_cons_succ, List.getElem?_cons_zero]; rfl)
      go_simp
      (go_at_call 48; refine (HRN.out _ (hf79.trans hd13) Ai2 ci2 _ (own_sl hown13)).mono ?_; rintro e w14 ⟨Ar, cr, rfl, hown14, hf14⟩)
      (try go_wp2_with fail)
      refine hK.out _ _ (fun _ => by exact HH.out _ _ hf14 hH5) ?_
      clear hK K
      (try simp only [Act.put, List.setIfInBounds_toArray, List.set_cons_zero, List.set_cons_succ])
      have hH6 := HH.out _ _ hf14 hH5
      have hd14 := hd13.trans hf14
      refine Held.next (i := 23) (o := ?oc23) (by kernel_rfl) ?hic23 (fun K hK => ?stc23)
      case hic23 => (simp only [List.getElem?_toArray, List.getElem?_cons_succ, List.getElem?_cons_zero]; rfl)
      go_simp
      (go_at_call 68; refine (sameB_eq Am Ar (i + 1 + L.length) cm cr _ _ ns _ hnl (by omega) (hm9.frm hd14 (fun _ _ => id)) (own_sl hown14)).mono ?_; rintro e w' ⟨rfl, n15, rfl⟩)
      (try go_wp2_with fail)
      refine hK.out _ _ (fun _ => by exact hH6) ?_
      clear hK K
      (try simp only [Act.put, List.setIfInBounds_toArray, List.set_cons_zero, List.set_cons_succ])
      have hH7 := HH.out _ _ ((Frm.refl (fun _ => False) w14).drewN n15) hH6
      have hd15 := hd14.drewN n15
      refine Held.take (i := 24) (oi := ?oc24) (v := ?vc24) ?hic24 (by kernel_rfl) (by kernel_rfl) (by kernel_rfl) (by kernel_rfl) (fun _ _ _ h => h) (Or.inl ⟨?hwc24, ?hyc24⟩) (by assumption) ?restc24
      case hic24 => (simp only [List.getElem?_toArray, List.getElem?_cons_succ, List.getElem?_cons_zero]; rfl)
      case hwc24 => rfl
      case hyc24 => (intro w hSw; (try dsimp only at hSw); go_simp; try with_reducible rfl)
      (try simp only [Act.put, List.setIfInBounds_toArray, List.set_cons_zero, List.set_cons_succ])
      refine Held.take (i := 25) (oi := ?oc25) (v := ?vc25) ?hic25 (by kernel_rfl) (by kernel_rfl) (by kernel_rfl) (by kernel_rfl) (fun _ _ _ h => h) (Or.inl ⟨?hwc25, ?hyc25⟩) (by assumption) ?restc25
      case hic25 => (simp only [List.getElem?_toArray, List.getElem?_cons_succ, List.getElem?_cons_zero]; rfl)
      case hwc25 => rfl
      case hyc25 => (intro w hSw; (try dsimp only at hSw); go_simp; try with_reducible rfl)
      (try simp only [Act.put, List.setIfInBounds_toArray, List.set_cons_zero, List.set_cons_succ])
      refine Held.take (i := 26) (oi := ?oc26) (v := ?vc26) ?hic26 (by kernel_rfl) (by kernel_rfl) (by kernel_rfl) (by kernel_rfl) (fun _ _ _ h => h) (Or.inl ⟨?hwc26, ?hyc26⟩) (by assumption) ?restc26
      case hic26 => (simp only [List.getElem?_toArray, List.getElem?_cons_succ, List.getElem?_cons_zero]; rfl)
      case hwc26 => rfl
      case hyc26 => (intro w hSw; (try dsimp only at hSw); go_simp; try with_reducible rfl)
      (try simp only [Act.put, List.setIfInBounds_toArray, List.set_cons_zero, List.set_cons_succ])
      refine Held.take (i := 28) (oi := ?oc28) (v := ?vc28) ?hic28 (by kernel_rfl) (by kernel_rfl) (by kernel_rfl) (by kernel_rfl) (fun _ _ _ h => h) (Or.inl ⟨?hwc28, ?hyc28⟩) (by assumption) ?restc28
      case hic28 => (simp only [List.getElem?_toArray, List.getElem?_cons_succ, List.getElem?_cons_zero]; rfl)
      case hwc28 => rfl
      case hyc28 => (intro w hSw; (try dsimp only at hSw); go_simp; try with_reducible rfl)
      (try simp only [Act.put, List.setIfInBounds_toArray, List.set_cons_zero, List.set_cons_succ])
      refine Held.next (i := 27) (o := ?oc27) (by kernel_rfl) ?hic27 (fun K hK => ?stc27)
      case hic27 => (simp only [List.getElem?_toArray, List.getElem?_cons_succ, List.getElem?_cons_zero]; rfl)
      go_simp
      (go_at_call 52; refine (lit_any T hxT _).mono ?_; rintro e w' ⟨rfl, rfl⟩)
      (try go_wp2_with fail)
      refine hK.out _ _ (fun _ => by assumption) ?_
      clear hK K
      (try simp only [Act.put, List.setIfInBounds_toArray, List.set_cons_zero, List.set_cons_succ])
      refine Held.next (i := 29) (o := ?oc29) (by kernel_rfl) ?hic29 (fun K hK => ?stc29)
      case hic29 => (simp only [List.getElem?_toArray, List.getElem?_cons_succ, List.getElem?_cons_zero]; rfl)
      go_simp
      (go_at_call 74; refine (rlit_any T hxT _).mono ?_; rintro e w' ⟨rfl, rfl⟩)
      (try go_wp2_with fail)
      refine hK.out _ _ (fun _ => by assumption) ?_
      clear hK K
      (try simp only [Act.put, List.setIfInBounds_toArray, List.set_cons_zero, List.set_cons_succ])
      refine Held.take (i := 30) (oi := ?oc30) (v := ?vc30) ?hic30 (by kernel_rfl) (by kernel_rfl) (by kernel_rfl) (by kernel_rfl) (fun _ _ _ h => h) (Or.inl ⟨?hwc30, ?hyc30⟩) (by assumption) ?restc30
      case hic30 => (simp only [List.getElem?_toArray, List.getElem?_cons_succ, List.getElem?_cons_zero]; rfl)
      case hwc30 => rfl
      case hyc30 => (intro w hSw; (try dsimp only at hSw); go_simp; try with_reducible rfl)
      (try simp only [Act.put, List.setIfInBounds_toArray, List.set_cons_zero, List.set_cons_succ])
      refine Held.take (i := 31) (oi := ?oc31) (v := ?vc31) ?hic31 (by kernel_rfl) (by kernel_rfl) (by kernel_rfl) (by kernel_rfl) (fun _ _ _ h => h) (Or.inl ⟨?hwc31, ?hyc31⟩) (by assumption) ?restc31
      case hic31 => (simp only [List.getElem?_toArray, List.getElem?_cons_succ, List.getElem?_cons_zero]; rfl)
      case hwc31 => rfl
      case hyc31 => (intro w hSw; (try dsimp only at hSw); go_simp; try with_reducible rfl)
      (try simp only [Act.put, List.setIfInBounds_toArray, List.set_cons_zero, List.set_cons_succ])
      refine Held.take (i := 32) (oi := ?oc32) (v := ?vc32) ?hic32 (by kernel_rfl) (by kernel_rfl) (by kernel_rfl) (by kernel_rfl) (fun _ _ _ h => h) (Or.inl ⟨?hwc32, ?hyc32⟩) (by assumption) ?restc32
      case hic32 => (simp only [List.getElem?_toArray, List.getElem?_cons_succ, List.getElem?_cons_zero]; rfl)
      case hwc32 => rfl
      case hyc32 => (intro w hSw; (try dsimp only at hSw); go_simp; try with_reducible rfl)
      (try simp only [Act.put, List.setIfInBounds_toArray, List.set_cons_zero, List.set_cons_succ])
      refine Held.take (i := 33) (oi := ?oc33) (v := ?vc33) ?hic33 (by kernel_rfl) (by kernel_rfl) (by kernel_rfl) (by kernel_rfl) (fun _ _ _ h => h) (Or.inl ⟨?hwc33, ?hyc33⟩) (by assumption) ?restc33
      case hic33 => (simp only [List.getElem?_toArray, List.getElem?_cons_succ, List.getElem?_cons_zero]; rfl)
      case hwc33 => rfl
      case hyc33 => (intro w hSw; (try dsimp only at hSw); go_simp; try with_reducible rfl)
      (try simp only [Act.put, List.setIfInBounds_toArray, List.set_cons_zero, List.set_cons_succ])
      refine Held.take (i := 35) (oi := ?oc35) (v := ?vc35) ?hic35 (by kernel_rfl) (by kernel_rfl) (by kernel_rfl) (by kernel_rfl) (fun _ _ _ h => h) (Or.inl ⟨?hwc35, ?hyc35⟩) (by assumption) ?restc35
      case hic35 => (simp only [List.getElem?_toArray, List.getElem?_cons_succ, List.getElem?_cons_zero]; rfl)
      case hwc35 => rfl
      case hyc35 => (intro w hSw; (try dsimp only at hSw); go_simp; try with_reducible rfl)
      (try simp only [Act.put, List.setIfInBounds_toArray, List.set_cons_zero, List.set_cons_succ])
      refine Held.next (i := 34) (o := ?oc34) (by kernel_rfl) ?hic34 (fun K hK => ?stc34)
      case hic34 => (simp only [List.getElem?_toArray, List.getElem?_cons_succ, List.getElem?_cons_zero]; rfl)
      go_simp
      (go_at_call 52; refine (lit_any x hxw _).mono ?_; rintro e w' ⟨rfl, rfl⟩)
      (try go_wp2_with fail)
      refine hK.out _ _ (fun _ => by assumption) ?_
      clear hK K
      (try simp only [Act.put, List.setIfInBounds_toArray, List.set_cons_zero, List.set_cons_succ])
      refine Held.next (i := 36) (o := ?oc36) (by kernel_rfl) ?hic36 (fun K hK => ?stc36)
      case hic36 => (simp only [List.getElem?_toArray, List.getElem?_cons_succ, List.getElem?_cons_zero]; rfl)
      go_simp
      (go_at_call 74; refine (rlit_any x hxw _).mono ?_; rintro e w' ⟨rfl, rfl⟩)
      (try go_wp2_with fail)
      refine hK.out _ _ (fun _ => by assumption) ?_
      clear hK K
      (try simp only [Act.put, List.setIfInBounds_toArray, List.set_cons_zero, List.set_cons_succ])
      refine Held.take (i := 37) (oi := ?oc37) (v := ?vc37) ?hic37 (by kernel_rfl) (by kernel_rfl) (by kernel_rfl) (by kernel_rfl) (fun _ _ _ h => h) (Or.inl ⟨?hwc37, ?hyc37⟩) (by assumption) ?restc37
      case hic37 => (simp only [List.getElem?_toArray, List.getElem?_cons_succ, List.getElem?_cons_zero]; rfl)
      case hwc37 => rfl
      case hyc37 => (intro w hSw; (try dsimp only at hSw); go_simp; try with_reducible rfl)
      (try simp only [Act.put, List.setIfInBounds_toArray, List.set_cons_zero, List.set_cons_succ])
      refine Held.take (i := 38) (oi := ?oc38) (v := ?vc38) ?hic38 (by kernel_rfl) (by kernel_rfl) (by kernel_rfl) (by kernel_rfl) (fun _ _ _ h => h) (Or.inl ⟨?hwc38, ?hyc38⟩) (by assumption) ?restc38
      case hic38 => (simp only [List.getElem?_toArray, List.getElem?_cons_succ, List.getElem?_cons_zero]; rfl)
      case hwc38 => rfl
      case hyc38 => (intro w hSw; (try dsimp only at hSw); go_simp; try with_reducible rfl)
      (try simp only [Act.put, List.setIfInBounds_toArray, List.set_cons_zero, List.set_cons_succ])
      refine Held.next (i := 39) (o := ?oc39) (by kernel_rfl) ?hic39 (fun K hK => ?stc39)
      case hic39 => (simp only [List.getElem?_toArray, List.getElem?_cons_succ, List.getElem?_cons_zero]; rfl)
      go_simp
      refine hK.out _ _ (fun h => absurd h (by decide)) ?_
      clear hK K
      (try simp only [Act.put, List.setIfInBounds_toArray, List.set_cons_zero, List.set_cons_succ])
      refine Held.done (by kernel_rfl) ?_ _
      refine NoPanic.normal ?_
      have hf015 := hf09.trans hd15
      go_wp2_with fail
      go_ret
      exact ⟨ret_bool (by simp), hf015⟩

set_option maxRecDepth 100000 in
set_option maxHeartbeats 8000000 in
/-- the guards' own ways out -/
theorem tsl_out (N : Int) (A : Option Addr) (m c : Nat) (B : Option Addr) (k d : Nat) (i : Int) (a1 : Option Addr) (len1 cap1 : Nat) (a2 : Option Addr) (len2 cap2 : Nat) (x : Int) (w : World)
    (h : ¬ (m ≤ 60 ∧ k ≤ 30 ∧ len1 ≤ 120 ∧ len2 ≤ 10 ∧ 0 ≤ i ∧ i ≤ 30)) :
    Calls Tryd.prog 13 #[cv N A m c B k d, .int .i64 i, .slice a1 len1 cap1, .slice a2 len2 cap2, .int .i64 x] w fun e w' => e = .returned (.bool true) ∧ Frm (fun _ => False) w w' := by
  have hf0 := (Frm.refl (fun _ => False) w).alloc (.cells #[.int .i64 N, .slice A m c, .slice B k d] 40)
  have hb0 : Blk (w.alloc (.cells #[.int .i64 N, .slice A m c, .slice B k d] 40)) w.heap.size 40 [.int .i64 N, .slice A m c, .slice B k d] := Blk.new _ _ _
  have HN := Lib.hid h
  clear h
  by_cases g0 : (60 : Int) < m
  · skip
    go_enter Tryd.func13, Tryd.ntmps13
    go_wp2_with fail
    refine (first13_any _).mono ?_
    rintro e w1 ⟨rfl, hf1⟩
    have hb1 := hb0.frm hf1 id
    have b1 := hb1.at_ 1 rfl
    have b2 := hb1.at_ 2 rfl
    go_wp2_with fail
    go_ret
    exact ⟨rfl, hf0.trans hf1⟩
  · skip
    by_cases g1 : (30 : Int) < k
    · skip
      go_enter Tryd.func13, Tryd.ntmps13
      go_wp2_with fail
      refine (first13_any _).mono ?_
      rintro e w1 ⟨rfl, hf1⟩
      have hb1 := hb0.frm hf1 id
      have b1 := hb1.at_ 1 rfl
      have b2 := hb1.at_ 2 rfl
      go_wp2_with fail
      go_ret
      exact ⟨rfl, hf0.trans hf1⟩
    · skip
      by_cases g2 : (120 : Int) < len1
      · skip
        go_enter Tryd.func13, Tryd.ntmps13
        go_wp2_with fail
        refine (first13_any _).mono ?_
        rintro e w1 ⟨rfl, hf1⟩
        have hb1 := hb0.frm hf1 id
        have b1 := hb1.at_ 1 rfl
        have b2 := hb1.at_ 2 rfl
        go_wp2_with fail
        go_ret
        exact ⟨rfl, hf0.trans hf1⟩
      · skip
        by_cases g3 : (10 : Int) < len2
        · skip
          go_enter Tryd.func13, Tryd.ntmps13
          go_wp2_with fail
          refine (first13_any _).mono ?_
          rintro e w1 ⟨rfl, hf1⟩
          have hb1 := hb0.frm hf1 id
          have b1 := hb1.at_ 1 rfl
          have b2 := hb1.at_ 2 rfl
          go_wp2_with fail
          go_ret
          exact ⟨rfl, hf0.trans hf1⟩
        · skip
          by_cases g4 : i < 0
          · skip
            go_enter Tryd.func13, Tryd.ntmps13
            go_wp2_with fail
            refine (first13_any _).mono ?_
            rintro e w1 ⟨rfl, hf1⟩
            have hb1 := hb0.frm hf1 id
            have b1 := hb1.at_ 1 rfl
            have b2 := hb1.at_ 2 rfl
            go_wp2_with fail
            go_ret
            exact ⟨rfl, hf0.trans hf1⟩
          · skip
            have g5 : 30 < i := by have := HN.out; omega
            go_enter Tryd.func13, Tryd.ntmps13
            go_wp2_with fail
            refine (first13_any _).mono ?_
            rintro e w1 ⟨rfl, hf1⟩
            have hb1 := hb0.frm hf1 id
            have b1 := hb1.at_ 1 rfl
            have b2 := hb1.at_ 2 rfl
            go_wp2_with fail
            go_ret
            exact ⟨rfl, hf0.trans hf1⟩

theorem tsl_law (N : Int) (A : Option Addr) (m c : Nat) (B : Option Addr) (k d : Nat) (L0 : List (Int × Int)) (l0 : List Int) (hm : L0.length = m) (hk : l0.length = k) {w0 : World}
    (r0 : Sl w0 (fun k => k < w0.heap.size) 2 (.slice A m c) m (pairs L0)) (r1 : Sl w0 (fun k => k < w0.heap.size) 1 (.slice B k d) k (l0.map (.int .i64)))
    (i : Int) (_ : (Lit.int .i64 i).wf = true)
    (a1 : Option Addr) (len1 cap1 : Nat) (z1 : List Int) (hz1 : z1.length = len1) (s1 : Sl w0 (fun k => k < w0.heap.size) 1 (.slice a1 len1 cap1) len1 (z1.map (.int .i64))) (_ : ∀ n ∈ z1, (Lit.int .i64 n).wf = true)
    (a2 : Option Addr) (len2 cap2 : Nat) (z2 : List Int) (hz2 : z2.length = len2) (s2 : Sl w0 (fun k => k < w0.heap.size) 1 (.slice a2 len2 cap2) len2 (z2.map (.int .i64))) (_ : ∀ n ∈ z2, (Lit.int .i64 n).wf = true)
    (x : Int) (hx : (Lit.int .i64 x).wf = true)
    (w : World) (e : w = w0) (hL : laidMetH Tryd.prog Rows.graphPlaysRow.laid w) :
    Calls Tryd.prog 13 #[cv N A m c B k d, .int .i64 i, .slice a1 len1 cap1, .slice a2 len2 cap2, .int .i64 x] w fun e w' => e = .returned (.bool true) ∧ Frm (fun _ => False) w w' := by
  subst e
  by_cases h : m ≤ 60 ∧ k ≤ 30 ∧ len1 ≤ 120 ∧ len2 ≤ 10 ∧ 0 ≤ i ∧ i ≤ 30
  · obtain ⟨n, rfl⟩ : ∃ n : Nat, i = n := ⟨i.toNat, by omega⟩
    exact tsl_any _ N A m c B k d L0 l0 hm hk n a1 len1 cap1 z1 hz1 a2 len2 cap2 z2 hz2 x (by simp [Lit.wf, IntKind.min, IntKind.max, IntKind.signed, IntKind.bits] at hx; omega) w _ _ r0 r1 s1 s2 (sents7 hL) h.1 h.2.1 h.2.2.1 h.2.2.2.1 (by omega)
  · exact tsl_out N A m c B k d i a1 len1 cap1 a2 len2 cap2 x w h

end Go.Proofs.YtkjlgamggkencaaDoor
