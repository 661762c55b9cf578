
/-
  The walk of GraphBuilds.
-/
import Derived.Test.YtkjlgamggkencaaDoorGraphWorth
import Derived.Test.YtkjlgamggkencaaDoorGBuildBad
import Derived.Test.YtkjlgamggkencaaDoorSee
import Derived.Test.YtkjlgamggkencaaDoorGraphPlays
namespace Go.Proofs.YtkjlgamggkencaaDoor
open Go.RowKit

theorem ckCode_is (N : Int) (L : List (Int × Int)) (l : List Int) : ckCode N L l = 0 ∨ ckCode N L l ∈ L7 := by
  unfold ckCode
  split
  · exact .inr (by decide)
  · split
    · exact .inr (by decide)
    · split
      · exact .inr (by decide)
      · exact .inl rfl

theorem ckCode_zero {N : Int} {L : List (Int × Int)} {l : List Int} (h : ckCode N L l = 0) : 0 ≤ N ∧ N.toNat + L.length ≤ 8000 ∧ Right N.toNat L ∧ ∀ x ∈ l, isL x (N.toNat + L.length) = true := by
  unfold ckCode at h
  split at h
  · cases h
  · rename_i h1
    split at h
    · cases h
    · rename_i h2
      split at h
      · cases h
      · rename_i h3
        refine ⟨by omega, by omega, ckAnds_iff.1 (by simpa using h2), ?_⟩
        have : ckOuts (N.toNat + L.length) l = true := by simpa using h3
        unfold ckOuts at this
        exact List.all_eq_true.1 this
theorem sameInts_any2 (A B : Option Addr) (n m c d : Nat) (F G : Nat → Prop) (l : List Int) (w : World) (hnm : n = m) (hn : l.length = n) (hb : n ≤ 1000000) (h1 : Sl w F 1 (.slice A n c) n (l.map (.int .i64))) (h2 : Sl w G 1 (.slice B m d) m (l.map (.int .i64))) :
    Calls Tryd.prog 67 #[.slice A n c, .slice B m d] w fun e w' => e = .returned (.bool true) ∧ Frm (fun _ => False) w w' := by
  subst hnm
  refine (sameInts_eq A B n c d F G l w hn hb h1 h2).mono ?_
  rintro e w' ⟨rfl, k, rfl⟩
  exact ⟨rfl, (Frm.refl _ _).drewN k⟩

set_option maxRecDepth 100000 in
set_option maxHeartbeats 8000000 in
theorem gbl_any (P : Nat → Addr) (N : Int) (A : Option Addr) (m c : Nat) (B : Option Addr) (k d : Nat) (L0 : List (Int × Int)) (l0 : List Int) (hm : L0.length = m) (hk : l0.length = k) (i : Nat)
    (a1 : Option Addr) (len1 cap1 : Nat) (z1 : List Int) (hz1 : z1.length = len1) (a2 : Option Addr) (len2 cap2 : Nat) (z2 : List Int) (hz2 : z2.length = len2) (w : World) (F0 G0 : Nat → Prop)
    (r0 : Sl w F0 2 (.slice A m c) m (pairs L0)) (r1 : Sl w G0 1 (.slice B k d) k (l0.map (.int .i64)))
    (s1 : Sl w (fun k => k < w.heap.size) 1 (.slice a1 len1 cap1) len1 (z1.map (.int .i64))) (s2 : Sl w (fun k => k < w.heap.size) 1 (.slice a2 len2 cap2) len2 (z2.map (.int .i64)))
    (hS : Sents L7 P w) (hm1 : m ≤ 100) (hk1 : k ≤ 100) (h1 : len1 ≤ 200) (h2 : len2 ≤ 20) (hi : i ≤ 50) :
    Calls Tryd.prog 11 #[cv N A m c B k d, .int .i64 i, .slice a1 len1 cap1, .slice a2 len2 cap2] w fun e w' => e = .returned (.bool true) ∧ Frm (fun _ => False) w w' := by
  have t0 : decide ((100 : Int) < (m : Int)) = false := by simp; omega
  have t1 : decide ((100 : Int) < (k : Int)) = false := by simp; omega
  have t2 : decide ((200 : Int) < (len1 : Int)) = false := by simp; omega
  have t3 : decide ((20 : Int) < (len2 : Int)) = false := by simp; omega
  have t4 : decide ((i : Int) < 0) = false := by simp
  have t5 : decide ((50 : Int) < (i : Int)) = false := by simp; omega
  have hf0 := (Frm.refl (fun _ => False) w).alloc (.cells #[.int .i64 N, .slice A m c, .slice B k d] 40)
  have hb0 : Blk (w.alloc (.cells #[.int .i64 N, .slice A m c, .slice B k d] 40)) w.heap.size 40 [.int .i64 N, .slice A m c, .slice B k d] := Blk.new _ _ _
  have KC := Lib.hid (fun W (hf : Frm (fun _ => False) w W) => check_any L7 P (by simp) (by simp) N A m c B k d L0 l0 _ _ W hm hk (by omega) (by omega) (r0.frm hf (fun _ _ => id)) (r1.frm hf (fun _ _ => id)) (fun _ => hS.frm hf))
  have KR := Lib.hid (fun W (hf : Frm (fun _ => False) w W) => rcheck_any N A m c B k d L0 l0 _ _ W hm hk (by omega) (by omega) (r0.frm hf (fun _ _ => id)) (r1.frm hf (fun _ _ => id)))
  have KD := Lib.hid (fun W (hf : Frm (fun _ => False) w W) => code_any P W (hS.frm hf) _ (ckCode_is N L0 l0))
  have KB := Lib.hid (fun W (hf : Frm (fun _ => False) w W) (hb : ckCode N L0 l0 ≠ 0) => build_bad L7 P (by simp) (by simp) N A m c B k d L0 l0 _ _ W hm hk (by omega) (by omega) (r0.frm hf (fun _ _ => id)) (r1.frm hf (fun _ _ => id)) (hS.frm hf) hb)
  have KG := Lib.hid (fun W (hf : Frm (fun _ => False) w W) (hz : ckCode N L0 l0 = 0) => show Calls Tryd.prog 66 #[cv N A m c B k d] W fun e w' => ∃ gb fp O q, e = .returned (.tuple #[.pointer (some ⟨gb, 0, none⟩), .slice O k q, .nilIface]) ∧ IsGr (PE P) w' fp gb (bld N.toNat L0).1 ∧ (∀ g, fp g → W.heap.size ≤ g ∧ g < w'.heap.size) ∧
      Sl w' (fun g => W.heap.size ≤ g ∧ ¬ fp g) 1 (.slice O k q) k ((l0.map (asL (bld N.toNat L0).2)).map (.int .i64)) ∧ Frm (fun _ => False) W w' from by
    obtain ⟨x1, x2, x3, x4⟩ := ckCode_zero hz
    have hN : N = (N.toNat : Int) := by omega
    rw [hN]
    rw [show ((N.toNat : Nat) : Int).toNat = N.toNat from by omega]
    rw [hm] at x2 x4
    exact build_any (PE P) (PE_zero P) N.toNat A m c B k d L0 l0 _ _ W hm hk x2 (by omega) x3 x4 (r0.frm hf (fun _ _ => id)) (r1.frm hf (fun _ _ => id)))
  have hlm : (mkAnds i z1).length ≤ 100 := by rw [mkAnds_length]; omega
  have hlo : (mkOuts i z1 z2).length ≤ 20 := by rw [mkOuts, List.length_map]; omega
  have hr := mkAnds_right i z1
  have hl : ∀ x ∈ mkOuts i z1 z2, isL x (i + (mkAnds i z1).length) = true := by rw [mkAnds_length]; exact mkOuts_isL i z1 z2
  have HMK := Lib.hid (fun W (hf : Frm (fun _ => False) w W) => make_any i a1 len1 cap1 z1 hz1 a2 len2 cap2 z2 hz2 _ _ W (s1.frm hf (fun _ _ => id)) (s2.frm hf (fun _ _ => id)) (by omega) (by omega) (by omega))
  have HAN := Lib.hid (anew hr (by omega) hl)
  have HR := Lib.hid hr
  have HL := Lib.hid hl
  have HM := Lib.hid hm
  have HK := Lib.hid hk
  clear hz1 hz2 s1 s2 hr hl hm hk r0 r1
  generalize mkAnds i z1 = L at *
  generalize mkOuts i z1 z2 = l at *
  have b00 := hb0.at_ 0 rfl
  have b01 := hb0.at_ 1 rfl
  have b02 := hb0.at_ 2 rfl
  go_enter Tryd.func11, Tryd.ntmps11
  go_wp2_with fail
  refine (first8_any _).mono ?_
  rintro e w1 ⟨rfl, hf1⟩
  have hf01 := hf0.trans hf1
  have hb1 := hb0.frm hf1 id
  have c0 := hb1.at_ 0 rfl
  have c1 := hb1.at_ 1 rfl
  have c2 := hb1.at_ 2 rfl
  clear b00 b01 b02 hb0 hf0 hf1
  have hH0 : w1.drew.cell? ⟨w.heap.size, 0, none⟩ = some (.int .i64 N) ∧ w1.drew.cell? ⟨w.heap.size, 1, none⟩ = some (.slice A m c) ∧ w1.drew.cell? ⟨w.heap.size, 2, none⟩ = some (.slice B k d) := ⟨c0, c1, c2⟩
  have hfd := hf01.drewN 1
  go_wp2_with fail
  have hHeld := hH0
  refine Held.begin (fun w' => w'.cell? ⟨w.heap.size, 0, none⟩ = some (.int .i64 N) ∧ w'.cell? ⟨w.heap.size, 1, none⟩ = some (.slice A m c) ∧ w'.cell? ⟨w.heap.size, 2, none⟩ = some (.slice B k d)) 6 (by kernel_rfl) ?_
  refine Held.take (i := 0) (oi := ?oa0) (v := ?va0) ?hia0 (by kernel_rfl) (by kernel_rfl) (by kernel_rfl) (by kernel_rfl) (fun _ _ _ h => h) (Or.inl ⟨?hwa0, ?hya0⟩) (by assumption) ?resta0
  case hia0 => (simp only [List.getElem?_toArray, List.getElem?_cons_zero]; rfl)
  case hwa0 => rfl
  case hya0 => (intro w hSw; (try dsimp only at hSw); go_simp; try with_reducible rfl)
  (try simp only [Act.put, List.setIfInBounds_toArray, List.set_cons_zero, List.set_cons_succ])
  refine Held.take (i := 3) (oi := ?oa3) (v := ?va3) ?hia3 (by kernel_rfl) (by kernel_rfl) (by kernel_rfl) (by kernel_rfl) (fun _ _ _ h => h) (Or.inl ⟨?hwa3, ?hya3⟩) (by assumption) ?resta3
  case hia3 => (simp only [List.getElem?_toArray, List.getElem?_cons_succ, List.getElem?_cons_zero]; rfl)
  case hwa3 => rfl
  case hya3 => (intro w hSw; (try dsimp only at hSw); go_simp; try with_reducible rfl)
  (try simp only [Act.put, List.setIfInBounds_toArray, List.set_cons_zero, List.set_cons_succ])
  refine Held.next (i := 1) (o := ?oa1) (by kernel_rfl) ?hia1 (fun K hK => ?sta1)
  case hia1 => (simp only [List.getElem?_toArray, List.getElem?_cons_succ, List.getElem?_cons_zero]; rfl)
  go_simp
  (go_at_call 42; refine (KC.out _ hfd).mono ?_; rintro e w2 ⟨rfl, hf2⟩)
  (try go_wp2_with fail)
  refine hK.out _ _ (fun _ => by exact ⟨hf2.cell hHeld.1 id, hf2.cell hHeld.2.1 id, hf2.cell hHeld.2.2 id⟩) ?_
  clear hK K
  (try simp only [Act.put, List.setIfInBounds_toArray, List.set_cons_zero, List.set_cons_succ])
  have hH2 := And.intro (hf2.cell hHeld.1 id) (And.intro (hf2.cell hHeld.2.1 id) (hf2.cell hHeld.2.2 id))
  have hfe := hfd.trans hf2
  refine Held.next (i := 2) (o := ?oa2) (by kernel_rfl) ?hia2 (fun K hK => ?sta2)
  case hia2 => (simp only [List.getElem?_toArray, List.getElem?_cons_succ, List.getElem?_cons_zero]; rfl)
  go_simp
  (go_at_call 36; refine (KD.out _ hfe).mono ?_; rintro e w3 ⟨rfl, hf3⟩)
  (try go_wp2_with fail)
  refine hK.out _ _ (fun _ => by exact ⟨hf3.cell hH2.1 id, hf3.cell hH2.2.1 id, hf3.cell hH2.2.2 id⟩) ?_
  clear hK K
  (try simp only [Act.put, List.setIfInBounds_toArray, List.set_cons_zero, List.set_cons_succ])
  have hH3 := And.intro (hf3.cell hH2.1 id) (And.intro (hf3.cell hH2.2.1 id) (hf3.cell hH2.2.2 id))
  have hff := hfe.trans hf3
  refine Held.next (i := 4) (o := ?oa4) (by kernel_rfl) ?hia4 (fun K hK => ?sta4)
  case hia4 => (simp only [List.getElem?_toArray, List.getElem?_cons_succ, List.getElem?_cons_zero]; rfl)
  go_simp
  (go_at_call 65; refine (KR.out _ hff).mono ?_; rintro e w4 ⟨rfl, hf4⟩)
  (try go_wp2_with fail)
  refine hK.out _ _ (fun _ => by exact ⟨hf4.cell hH3.1 id, hf4.cell hH3.2.1 id, hf4.cell hH3.2.2 id⟩) ?_
  clear hK K
  (try simp only [Act.put, List.setIfInBounds_toArray, List.set_cons_zero, List.set_cons_succ])
  have hH4 := And.intro (hf4.cell hH3.1 id) (And.intro (hf4.cell hH3.2.1 id) (hf4.cell hH3.2.2 id))
  refine Held.take (i := 5) (oi := ?oa5) (v := ?va5) ?hia5 (by kernel_rfl) (by kernel_rfl) (by kernel_rfl) (by kernel_rfl) (fun _ _ _ h => h) (Or.inl ⟨?hwa5, ?hya5⟩) (by assumption) ?resta5
  case hia5 => (simp only [List.getElem?_toArray, List.getElem?_cons_succ, List.getElem?_cons_zero]; rfl)
  case hwa5 => rfl
  case hya5 => (intro w hSw; (try dsimp only at hSw); go_simp; try with_reducible rfl)
  (try simp only [Act.put, List.setIfInBounds_toArray, List.set_cons_zero, List.set_cons_succ])
  refine Held.done (by kernel_rfl) ?_ _
  refine NoPanic.normal ?_
  have hfg := hff.trans hf4
  have hb4 := hb1.frm ((Frm.refl (fun _ => False) w1).drewN 1 |>.trans (hf2.trans (hf3.trans hf4))) id
  clear hH0 hH2 hH3 hH4 hHeld hf2 hf3 hf4 hfd hfe hff hb1 c0 c1 c2 hf01
  go_wp2_with fail
  refine (HMK.out w4 hfg).mono ?_
  rintro e w5 ⟨v, rfl, ⟨A1, e1, B1, e2, rfl, hA, hB⟩, hf5⟩
  clear HMK
  have hfa := (Frm.refl (fun _ => False) w5).alloc (.cells #[.int .i64 i, .slice A1 L.length e1, .slice B1 l.length e2] 40)
  have hba : Blk (w5.alloc (.cells #[.int .i64 i, .slice A1 L.length e1, .slice B1 l.length e2] 40)) w5.heap.size 40 [.int .i64 i, .slice A1 L.length e1, .slice B1 l.length e2] := Blk.new _ _ _
  have hA3 := hA.frm hfa (fun _ _ => id)
  have hB3 := hB.frm hfa (fun _ _ => id)
  have q0 := hba.at_ 0 rfl
  have q1 := hba.at_ 1 rfl
  have q2 := hba.at_ 2 rfl
  go_wp2_with fail
  refine (build_any (PE P) (PE_zero P) i A1 L.length e1 B1 l.length e2 L l _ _ _ rfl rfl (by omega) (by omega) HR.out HL.out hA3 hB3).mono ?_
  rintro e w6 ⟨gb, fp, O, oc, rfl, hG, hfp, hO, hf6⟩
  have hb6 := hba.frm hf6 id
  have p0 := hb6.at_ 0 rfl
  have p1 := hb6.at_ 1 rfl
  have p2 := hb6.at_ 2 rfl
  clear q0 q1 q2
  go_wp2_with fail
  refine (rbuild_any i A1 L.length e1 B1 l.length e2 L l _ _ _ rfl rfl (by omega) (by omega) HR.out HL.out (hA3.frm hf6 (fun _ _ => id)) (hB3.frm hf6 (fun _ _ => id))).mono ?_
  rintro e w7 ⟨gx, xp, O2, oc2, rfl, hX, hxp, hO2, hf7⟩
  have hG7 := hG.frm hf7 (fun _ _ => id)
  have hO7 := hO.frm hf7 (fun _ _ => id)
  have hf07 := (((hfg.trans hf5).trans hfa).trans hf6).trans hf7
  have hb47 := hb4.frm (((hf5.trans hfa).trans hf6).trans hf7) id
  have han := HAN.out
  have hgn := han.num
  have hgf := han.few
  have hgm := han.many
  have hgmade := han.made
  have hgb := han.bad
  have hglits := han.lits
  clear hA hB hA3 hB3 hba hb6 p0 p1 p2 hG hO hf5 hfa hf6 hf7 hb4 hfp hxp han HAN hfg
  generalize (bld i L).1 = g at *
  generalize hl' : l.map (asL (bld i L).2) = l' at *
  clear hl'
  obtain ⟨gn, gands, gbad⟩ := g
  simp only at hgn hgf hgmade hgb hglits
  subst hgn
  subst hgb
  have HGM := Lib.hid hgm
  have HMADE := Lib.hid hgmade
  have HLITS := Lib.hid hglits
  have hgf2 : gands.length ≤ 100 := by omega
  clear hgf hgmade hglits
  have hl20 : l.length ≤ 20 := hlo
  have S1 := Lib.hid (sameInts_eq O O2 l.length oc oc2 _ _ l' w7 hgm (by omega) hO7 hO2)
  have C1 := Lib.hid (fun n => circuit_any (PE P) fp gb _ (w7.drewN n) (hG7.drewN n) O l.length oc _ l' HGM.out (by omega) (hO7.drewN n))
  have X1 := Lib.hid (fun W (hf : Frm (fun _ => False) w7 W) => xcircuit_any xp gx _ W (hX.frm hf (fun _ _ => id)) O2 l.length oc2 _ l' HGM.out (by omega) (hO2.frm hf (fun _ _ => id)))
  clear hgm
  go_wp2_with fail
  refine S1.out.mono ?_
  rintro e w' ⟨rfl, n1, rfl⟩
  go_wp2_with fail
  refine (C1.out n1).mono ?_
  rintro e w8 ⟨v8, rfl, hC8, hf8⟩
  go_wp2_with fail
  refine (X1.out w8 (((Frm.refl _ w7).drewN n1).trans hf8)).mono ?_
  rintro e w9 ⟨v9, rfl, hC9, hf9⟩
  have HSC := Lib.hid (sameCircuit_any (by omega) (by rw [HGM.out]; omega) (hC8.frm hf9 (fun _ _ => id)) hC9)
  go_wp2_with fail
  refine HSC.out.mono ?_
  rintro e w10 ⟨rfl, hf10⟩
  have hf710 := ((((Frm.refl (fun _ => False) w7).drewN n1).trans hf8).trans hf9).trans hf10
  have hG10 := hG7.frm hf710 (fun _ _ => id)
  have hO10 := hO7.frm hf710 (fun _ _ => id)
  have hb10 := hb47.frm hf710 id
  have hf010 := hf07.trans hf710
  clear hG7 hO7 hX hO2 hC8 hC9 hf8 hf9 hf10 hf710 hb47 S1 C1 X1 HSC hf07
  have CA : Calls Tryd.prog 37 #[.pointer (some ⟨gb, 0, none⟩), .slice O l.length oc] w10 fun e w' => ∃ v, e = .returned v ∧ IsC w' (fun k => w10.heap.size ≤ k) v gn gands l' ∧ Frm (fun _ => False) w10 w' := circuit_any (PE P) fp gb _ w10 hG10 O l.length oc _ l' HGM.out (by omega) hO10
  have HCA := Lib.hid CA
  clear CA hG10
  go_wp2_with fail
  refine HCA.out.mono ?_
  rintro e w11 ⟨v11, rfl, ⟨A2, c2, B2, d2, rfl, hA2, hB2⟩, hf11⟩
  have hfb := (Frm.refl (fun _ => False) w11).alloc (.cells #[.int .i64 gn, .slice A2 gands.length c2, .slice B2 l'.length d2] 40)
  have hbd : Blk (w11.alloc (.cells #[.int .i64 gn, .slice A2 gands.length c2, .slice B2 l'.length d2] 40)) w11.heap.size 40 [.int .i64 gn, .slice A2 gands.length c2, .slice B2 l'.length d2] := Blk.new _ _ _
  have hA3 := hA2.frm hfb (fun _ _ => id)
  have hB3 := hB2.frm hfb (fun _ _ => id)
  have hO12 := (hO10.frm hf11 (fun _ _ => id)).frm hfb (fun _ _ => id)
  have hbm := bld_made HMADE.out (by omega)
  have houts := made_outs (n := gn) (L := gands) (l := l') HLITS.out
  have BB := Lib.hid (build_any (PE P) (PE_zero P) gn A2 gands.length c2 B2 l'.length d2 gands l' _ _ _ rfl rfl (by omega) (by rw [HGM.out]; omega) HMADE.out.right HLITS.out hA3 hB3)
  rw [hbm] at BB
  simp only [houts] at BB
  have q0 := hbd.at_ 0 rfl
  have q1 := hbd.at_ 1 rfl
  have q2 := hbd.at_ 2 rfl
  clear hbm houts
  go_wp2_with fail
  refine BB.out.mono ?_
  rintro e w12 ⟨gb2, fp2, O3, oc3, rfl, hG12, hfp2, hO3, hf12⟩
  clear q0 q1 q2 BB
  have hbd12 := hbd.frm hf12 id
  have hb12 := ((hb10.frm hf11 id).frm hfb id).frm hf12 id
  have hA4 := hA3.frm hf12 (fun _ _ => id)
  have hB4 := hB3.frm hf12 (fun _ _ => id)
  have hO5 := hO12.frm hf12 (fun _ _ => id)
  have hf012 := ((hf010.trans hf11).trans hfb).trans hf12
  have hfd : Frm (fun _ => False) w12 w12.drew := (Frm.refl _ _).drewN 1
  have SI := Lib.hid (fun n => sameInts_any2 O3 O l'.length l.length oc3 oc _ _ l' (w12.drewN n) HGM.out rfl (by rw [HGM.out]; omega) (hO3.drewN n) (hO5.drewN n))
  have CI : ∀ W, Frm (fun _ => False) w12 W → Calls Tryd.prog 37 #[.pointer (some ⟨gb2, 0, none⟩), .slice O3 l'.length oc3] W fun e w' => ∃ v, e = .returned v ∧ IsC w' (fun k => W.heap.size ≤ k) v gn gands l' ∧ Frm (fun _ => False) W w' := fun W hf => circuit_any (PE P) fp2 gb2 _ W (hG12.frm hf (fun _ _ => id)) O3 l'.length oc3 _ l' rfl (by rw [HGM.out]; omega) (hO3.frm hf (fun _ _ => id))
  have HCI := Lib.hid CI
  have HCV := Lib.hid (fun W (hf : Frm (fun _ => False) w12 W) => isC_mk gn A2 gands.length c2 B2 l'.length d2 gands l' _ _ W rfl rfl (hA4.frm hf (fun _ _ => id)) (hB4.frm hf (fun _ _ => id)))
  have y0 := hbd12.at_ 0 rfl
  have y1 := hbd12.at_ 1 rfl
  have y2 := hbd12.at_ 2 rfl
  have hH0 : w12.drew.cell? ⟨w11.heap.size, 0, none⟩ = some (.int .i64 gn) ∧ w12.drew.cell? ⟨w11.heap.size, 1, none⟩ = some (.slice A2 gands.length c2) ∧ w12.drew.cell? ⟨w11.heap.size, 2, none⟩ = some (.slice B2 l'.length d2) := ⟨y0, y1, y2⟩
  clear CI hA3 hB3 hA4 hB4 hO5 hO12 hO10 hG12 hO3 hbd hb10 hf010 hf11 hfb hf12 hA2 hB2
  go_wp2_with fail
  have hHeld := hH0
  refine Held.begin (fun w' => w'.cell? ⟨w11.heap.size, 0, none⟩ = some (.int .i64 gn) ∧ w'.cell? ⟨w11.heap.size, 1, none⟩ = some (.slice A2 gands.length c2) ∧ w'.cell? ⟨w11.heap.size, 2, none⟩ = some (.slice B2 l'.length d2)) 20 (by kernel_rfl) ?_
  refine Held.take (i := 0) (oi := ?ob0) (v := ?vb0) ?hib0 (by kernel_rfl) (by kernel_rfl) (by kernel_rfl) (by kernel_rfl) (fun _ _ _ h => h) (Or.inl ⟨?hwb0, ?hyb0⟩) (by assumption) ?restb0
  case hib0 => (simp only [List.getElem?_toArray, List.getElem?_cons_zero]; rfl)
  case hwb0 => rfl
  case hyb0 => (intro w hSw; (try dsimp only at hSw); go_simp; try with_reducible rfl)
  (try simp only [Act.put, List.setIfInBounds_toArray, List.set_cons_zero, List.set_cons_succ])
  refine Held.take (i := 1) (oi := ?ob1) (v := ?vb1) ?hib1 (by kernel_rfl) (by kernel_rfl) (by kernel_rfl) (by kernel_rfl) (fun _ _ _ h => h) (Or.inl ⟨?hwb1, ?hyb1⟩) (by assumption) ?restb1
  case hib1 => (simp only [List.getElem?_toArray, List.getElem?_cons_succ, List.getElem?_cons_zero]; rfl)
  case hwb1 => rfl
  case hyb1 => (intro w hSw; (try dsimp only at hSw); go_simp; try with_reducible rfl)
  (try simp only [Act.put, List.setIfInBounds_toArray, List.set_cons_zero, List.set_cons_succ])
  refine Held.take (i := 2) (oi := ?ob2) (v := ?vb2) ?hib2 (by kernel_rfl) (by kernel_rfl) (by kernel_rfl) (by kernel_rfl) (fun _ _ _ h => h) (Or.inl ⟨?hwb2, ?hyb2⟩) (by assumption) ?restb2
  case hib2 => (simp only [List.getElem?_toArray, List.getElem?_cons_succ, List.getElem?_cons_zero]; rfl)
  case hwb2 => rfl
  case hyb2 => (intro w hSw; (try dsimp only at hSw); go_simp; try with_reducible rfl)
  (try simp only [Act.put, List.setIfInBounds_toArray, List.set_cons_zero, List.set_cons_succ])
  refine Held.take (i := 3) (oi := ?ob3) (v := ?vb3) ?hib3 (by kernel_rfl) (by kernel_rfl) (by kernel_rfl) (by kernel_rfl) (fun _ _ _ h => h) (Or.inl ⟨?hwb3, ?hyb3⟩) (by assumption) ?restb3
  case hib3 => (simp only [List.getElem?_toArray, List.getElem?_cons_succ, List.getElem?_cons_zero]; rfl)
  case hwb3 => rfl
  case hyb3 => (intro w hSw; (try dsimp only at hSw); go_simp; try with_reducible rfl)
  (try simp only [Act.put, List.setIfInBounds_toArray, List.set_cons_zero, List.set_cons_succ])
  refine Held.take (i := 4) (oi := ?ob4) (v := ?vb4) ?hib4 (by kernel_rfl) (by kernel_rfl) (by kernel_rfl) (by kernel_rfl) (fun _ _ _ h => h) (Or.inl ⟨?hwb4, ?hyb4⟩) (by assumption) ?restb4
  case hib4 => (simp only [List.getElem?_toArray, List.getElem?_cons_succ, List.getElem?_cons_zero]; rfl)
  case hwb4 => rfl
  case hyb4 => (intro w hSw; (try dsimp only at hSw); go_simp; try with_reducible rfl)
  (try simp only [Act.put, List.setIfInBounds_toArray, List.set_cons_zero, List.set_cons_succ])
  refine Held.take (i := 5) (oi := ?ob5) (v := ?vb5) ?hib5 (by kernel_rfl) (by kernel_rfl) (by kernel_rfl) (by kernel_rfl) (fun _ _ _ h => h) (Or.inl ⟨?hwb5, ?hyb5⟩) (by assumption) ?restb5
  case hib5 => (simp only [List.getElem?_toArray, List.getElem?_cons_succ, List.getElem?_cons_zero]; rfl)
  case hwb5 => rfl
  case hyb5 => (intro w hSw; (try dsimp only at hSw); go_simp; try with_reducible rfl)
  (try simp only [Act.put, List.setIfInBounds_toArray, List.set_cons_zero, List.set_cons_succ])
  refine Held.take (i := 6) (oi := ?ob6) (v := ?vb6) ?hib6 (by kernel_rfl) (by kernel_rfl) (by kernel_rfl) (by kernel_rfl) (fun _ _ _ h => h) (Or.inl ⟨?hwb6, ?hyb6⟩) (by assumption) ?restb6
  case hib6 => (simp only [List.getElem?_toArray, List.getElem?_cons_succ, List.getElem?_cons_zero]; rfl)
  case hwb6 => rfl
  case hyb6 => (intro w hSw; (try dsimp only at hSw); go_simp; try with_reducible rfl)
  (try simp only [Act.put, List.setIfInBounds_toArray, List.set_cons_zero, List.set_cons_succ])
  refine Held.take (i := 7) (oi := ?ob7) (v := ?vb7) ?hib7 (by kernel_rfl) (by kernel_rfl) (by kernel_rfl) (by kernel_rfl) (fun _ _ _ h => h) (Or.inl ⟨?hwb7, ?hyb7⟩) (by assumption) ?restb7
  case hib7 => (simp only [List.getElem?_toArray, List.getElem?_cons_succ, List.getElem?_cons_zero]; rfl)
  case hwb7 => rfl
  case hyb7 => (intro w hSw; (try dsimp only at hSw); go_simp; try with_reducible rfl)
  (try simp only [Act.put, List.setIfInBounds_toArray, List.set_cons_zero, List.set_cons_succ])
  refine Held.take (i := 8) (oi := ?ob8) (v := ?vb8) ?hib8 (by kernel_rfl) (by kernel_rfl) (by kernel_rfl) (by kernel_rfl) (fun _ _ _ h => h) (Or.inl ⟨?hwb8, ?hyb8⟩) (by assumption) ?restb8
  case hib8 => (simp only [List.getElem?_toArray, List.getElem?_cons_succ, List.getElem?_cons_zero]; rfl)
  case hwb8 => rfl
  case hyb8 => (intro w hSw; (try dsimp only at hSw); go_simp; try with_reducible rfl)
  (try simp only [Act.put, List.setIfInBounds_toArray, List.set_cons_zero, List.set_cons_succ])
  refine Held.next (i := 9) (o := ?ob9) (by kernel_rfl) ?hib9 (fun K hK => ?stb9)
  case hib9 => (simp only [List.getElem?_toArray, List.getElem?_cons_succ, List.getElem?_cons_zero]; rfl)
  go_simp
  (go_at_call 67; refine (SI.out 1).mono ?_; rintro e w13 ⟨rfl, hf13⟩)
  (try go_wp2_with fail)
  refine hK.out _ _ (fun _ => by exact ⟨hf13.cell hHeld.1 id, hf13.cell hHeld.2.1 id, hf13.cell hHeld.2.2 id⟩) ?_
  clear hK K
  (try simp only [Act.put, List.setIfInBounds_toArray, List.set_cons_zero, List.set_cons_succ])
  have hH2 := And.intro (hf13.cell hHeld.1 id) (And.intro (hf13.cell hHeld.2.1 id) (hf13.cell hHeld.2.2 id))
  have hfe := hfd.trans hf13
  refine Held.take (i := 10) (oi := ?ob10) (v := ?vb10) ?hib10 (by kernel_rfl) (by kernel_rfl) (by kernel_rfl) (by kernel_rfl) (fun _ _ _ h => h) (Or.inl ⟨?hwb10, ?hyb10⟩) (by assumption) ?restb10
  case hib10 => (simp only [List.getElem?_toArray, List.getElem?_cons_succ, List.getElem?_cons_zero]; rfl)
  case hwb10 => rfl
  case hyb10 => (intro w hSw; (try dsimp only at hSw); go_simp; try with_reducible rfl)
  (try simp only [Act.put, List.setIfInBounds_toArray, List.set_cons_zero, List.set_cons_succ])
  refine Held.take (i := 11) (oi := ?ob11) (v := ?vb11) ?hib11 (by kernel_rfl) (by kernel_rfl) (by kernel_rfl) (by kernel_rfl) (fun _ _ _ h => h) (Or.inl ⟨?hwb11, ?hyb11⟩) (by assumption) ?restb11
  case hib11 => (simp only [List.getElem?_toArray, List.getElem?_cons_succ, List.getElem?_cons_zero]; rfl)
  case hwb11 => rfl
  case hyb11 => (intro w hSw; (try dsimp only at hSw); go_simp; try with_reducible rfl)
  (try simp only [Act.put, List.setIfInBounds_toArray, List.set_cons_zero, List.set_cons_succ])
  refine Held.take (i := 12) (oi := ?ob12) (v := ?vb12) ?hib12 (by kernel_rfl) (by kernel_rfl) (by kernel_rfl) (by kernel_rfl) (fun _ _ _ h => h) (Or.inl ⟨?hwb12, ?hyb12⟩) (by assumption) ?restb12
  case hib12 => (simp only [List.getElem?_toArray, List.getElem?_cons_succ, List.getElem?_cons_zero]; rfl)
  case hwb12 => rfl
  case hyb12 => (intro w hSw; (try dsimp only at hSw); go_simp; try with_reducible rfl)
  (try simp only [Act.put, List.setIfInBounds_toArray, List.set_cons_zero, List.set_cons_succ])
  refine Held.take (i := 13) (oi := ?ob13) (v := ?vb13) ?hib13 (by kernel_rfl) (by kernel_rfl) (by kernel_rfl) (by kernel_rfl) (fun _ _ _ h => h) (Or.inl ⟨?hwb13, ?hyb13⟩) (by assumption) ?restb13
  case hib13 => (simp only [List.getElem?_toArray, List.getElem?_cons_succ, List.getElem?_cons_zero]; rfl)
  case hwb13 => rfl
  case hyb13 => (intro w hSw; (try dsimp only at hSw); go_simp; try with_reducible rfl)
  (try simp only [Act.put, List.setIfInBounds_toArray, List.set_cons_zero, List.set_cons_succ])
  refine Held.take (i := 14) (oi := ?ob14) (v := ?vb14) ?hib14 (by kernel_rfl) (by kernel_rfl) (by kernel_rfl) (by kernel_rfl) (fun _ _ _ h => h) (Or.inl ⟨?hwb14, ?hyb14⟩) (by assumption) ?restb14
  case hib14 => (simp only [List.getElem?_toArray, List.getElem?_cons_succ, List.getElem?_cons_zero]; rfl)
  case hwb14 => rfl
  case hyb14 => (intro w hSw; (try dsimp only at hSw); go_simp; try with_reducible rfl)
  (try simp only [Act.put, List.setIfInBounds_toArray, List.set_cons_zero, List.set_cons_succ])
  refine Held.take (i := 16) (oi := ?ob16) (v := ?vb16) ?hib16 (by kernel_rfl) (by kernel_rfl) (by kernel_rfl) (by kernel_rfl) (fun _ _ _ h => h) (Or.inl ⟨?hwb16, ?hyb16⟩) (by assumption) ?restb16
  case hib16 => (simp only [List.getElem?_toArray, List.getElem?_cons_succ, List.getElem?_cons_zero]; rfl)
  case hwb16 => rfl
  case hyb16 => (intro w hSw; (try dsimp only at hSw); go_simp; try with_reducible rfl)
  (try simp only [Act.put, List.setIfInBounds_toArray, List.set_cons_zero, List.set_cons_succ])
  refine Held.next (i := 15) (o := ?ob15) (by kernel_rfl) ?hib15 (fun K hK => ?stb15)
  case hib15 => (simp only [List.getElem?_toArray, List.getElem?_cons_succ, List.getElem?_cons_zero]; rfl)
  go_simp
  (go_at_call 37; refine (HCI.out _ hfe).mono ?_; rintro e w14 ⟨v14, rfl, hC14, hf14⟩)
  (try go_wp2_with fail)
  refine hK.out _ _ (fun _ => by exact ⟨hf14.cell hH2.1 id, hf14.cell hH2.2.1 id, hf14.cell hH2.2.2 id⟩) ?_
  clear hK K
  (try simp only [Act.put, List.setIfInBounds_toArray, List.set_cons_zero, List.set_cons_succ])
  have hH3 := And.intro (hf14.cell hH2.1 id) (And.intro (hf14.cell hH2.2.1 id) (hf14.cell hH2.2.2 id))
  have hff := hfe.trans hf14
  refine Held.next (i := 17) (o := ?ob17) (by kernel_rfl) ?hib17 (fun K hK => ?stb17)
  case hib17 => (simp only [List.getElem?_toArray, List.getElem?_cons_succ, List.getElem?_cons_zero]; rfl)
  go_simp
  (go_at_call 38; refine (sameCircuit_any (by omega) (by rw [HGM.out]; omega) hC14 (HCV.out _ hff)).mono ?_; rintro e w15 ⟨rfl, hf15⟩)
  (try go_wp2_with fail)
  refine hK.out _ _ (fun _ => by exact ⟨hf15.cell hH3.1 id, hf15.cell hH3.2.1 id, hf15.cell hH3.2.2 id⟩) ?_
  clear hK K
  (try simp only [Act.put, List.setIfInBounds_toArray, List.set_cons_zero, List.set_cons_succ])
  have hH4 := And.intro (hf15.cell hH3.1 id) (And.intro (hf15.cell hH3.2.1 id) (hf15.cell hH3.2.2 id))
  refine Held.take (i := 18) (oi := ?ob18) (v := ?vb18) ?hib18 (by kernel_rfl) (by kernel_rfl) (by kernel_rfl) (by kernel_rfl) (fun _ _ _ h => h) (Or.inl ⟨?hwb18, ?hyb18⟩) (by assumption) ?restb18
  case hib18 => (simp only [List.getElem?_toArray, List.getElem?_cons_succ, List.getElem?_cons_zero]; rfl)
  case hwb18 => rfl
  case hyb18 => (intro w hSw; (try dsimp only at hSw); go_simp; try with_reducible rfl)
  (try simp only [Act.put, List.setIfInBounds_toArray, List.set_cons_zero, List.set_cons_succ])
  refine Held.take (i := 19) (oi := ?ob19) (v := ?vb19) ?hib19 (by kernel_rfl) (by kernel_rfl) (by kernel_rfl) (by kernel_rfl) (fun _ _ _ h => h) (Or.inl ⟨?hwb19, ?hyb19⟩) (by assumption) ?restb19
  case hib19 => (simp only [List.getElem?_toArray, List.getElem?_cons_succ, List.getElem?_cons_zero]; rfl)
  case hwb19 => rfl
  case hyb19 => (intro w hSw; (try dsimp only at hSw); go_simp; try with_reducible rfl)
  (try simp only [Act.put, List.setIfInBounds_toArray, List.set_cons_zero, List.set_cons_succ])
  refine Held.done (by kernel_rfl) ?_ _
  refine NoPanic.normal ?_
  have hfg := hff.trans hf15
  have hf015 := hf012.trans hfg
  have hb15 := hb12.frm hfg id
  have x0 := hb15.at_ 0 rfl
  have x1 := hb15.at_ 1 rfl
  have x2 := hb15.at_ 2 rfl
  clear hH0 hH2 hH3 hH4 hHeld hC14 HCV HCI SI hfd hfe hff hf13 hf14 hf15 y0 y1 y2 hbd12 hb12
  go_wp2_with fail
  have HB := Lib.hid (show Calls Tryd.prog 66 #[cv N A m c B k d] w15 fun e w' => ∃ u1 u2, e = .returned (.tuple #[u1, u2, PE P (ckCode N L0 l0)]) ∧ Frm (fun _ => False) w15 w' from by
    by_cases hz : ckCode N L0 l0 = 0
    · refine (KG.out w15 hf015 hz).mono ?_
      rintro e w' ⟨gb', fp', O', q', rfl, _, _, _, hf⟩
      rw [hz]
      exact ⟨_, _, rfl, hf⟩
    · refine (KB.out w15 hf015 hz).mono ?_
      rintro e w' ⟨rfl, hf⟩
      exact ⟨_, _, rfl, hf⟩)
  refine HB.out.mono ?_
  rintro e w16 ⟨u1, u2, rfl, hf16⟩
  have hf016 := hf015.trans hf16
  have hb16 := hb15.frm hf16 id
  have y0 := hb16.at_ 0 rfl
  have y1 := hb16.at_ 1 rfl
  have y2 := hb16.at_ 2 rfl
  have hH0 : w16.drew.cell? ⟨w.heap.size, 0, none⟩ = some (.int .i64 N) ∧ w16.drew.cell? ⟨w.heap.size, 1, none⟩ = some (.slice A m c) ∧ w16.drew.cell? ⟨w.heap.size, 2, none⟩ = some (.slice B k d) := ⟨y0, y1, y2⟩
  have hfd := hf016.drewN 1
  clear x0 x1 x2 HB
  go_wp2_with fail
  have hHeld := hH0
  refine Held.begin (fun w' => w'.cell? ⟨w.heap.size, 0, none⟩ = some (.int .i64 N) ∧ w'.cell? ⟨w.heap.size, 1, none⟩ = some (.slice A m c) ∧ w'.cell? ⟨w.heap.size, 2, none⟩ = some (.slice B k d)) 9 (by kernel_rfl) ?_
  refine Held.take (i := 0) (oi := ?oc0) (v := ?vc0) ?hic0 (by kernel_rfl) (by kernel_rfl) (by kernel_rfl) (by kernel_rfl) (fun _ _ _ h => h) (Or.inl ⟨?hwc0, ?hyc0⟩) (by assumption) ?restc0
  case hic0 => (simp only [List.getElem?_toArray, List.getElem?_cons_zero]; rfl)
  case hwc0 => rfl
  case hyc0 => (intro w hSw; (try dsimp only at hSw); go_simp; try with_reducible rfl)
  (try simp only [Act.put, List.setIfInBounds_toArray, List.set_cons_zero, List.set_cons_succ])
  refine Held.take (i := 1) (oi := ?oc1) (v := ?vc1) ?hic1 (by kernel_rfl) (by kernel_rfl) (by kernel_rfl) (by kernel_rfl) (fun _ _ _ h => h) (Or.inl ⟨?hwc1, ?hyc1⟩) (by assumption) ?restc1
  case hic1 => (simp only [List.getElem?_toArray, List.getElem?_cons_succ, List.getElem?_cons_zero]; rfl)
  case hwc1 => rfl
  case hyc1 => (intro w hSw; (try dsimp only at hSw); go_simp; try with_reducible rfl)
  (try simp only [Act.put, List.setIfInBounds_toArray, List.set_cons_zero, List.set_cons_succ])
  refine Held.take (i := 2) (oi := ?oc2) (v := ?vc2) ?hic2 (by kernel_rfl) (by kernel_rfl) (by kernel_rfl) (by kernel_rfl) (fun _ _ _ h => h) (Or.inl ⟨?hwc2, ?hyc2⟩) (by assumption) ?restc2
  case hic2 => (simp only [List.getElem?_toArray, List.getElem?_cons_succ, List.getElem?_cons_zero]; rfl)
  case hwc2 => rfl
  case hyc2 => (intro w hSw; (try dsimp only at hSw); go_simp; try with_reducible rfl)
  (try simp only [Act.put, List.setIfInBounds_toArray, List.set_cons_zero, List.set_cons_succ])
  refine Held.take (i := 4) (oi := ?oc4) (v := ?vc4) ?hic4 (by kernel_rfl) (by kernel_rfl) (by kernel_rfl) (by kernel_rfl) (fun _ _ _ h => h) (Or.inl ⟨?hwc4, ?hyc4⟩) (by assumption) ?restc4
  case hic4 => (simp only [List.getElem?_toArray, List.getElem?_cons_succ, List.getElem?_cons_zero]; rfl)
  case hwc4 => rfl
  case hyc4 => (intro w hSw; (try dsimp only at hSw); go_simp; try with_reducible rfl)
  (try simp only [Act.put, List.setIfInBounds_toArray, List.set_cons_zero, List.set_cons_succ])
  refine Held.next (i := 3) (o := ?oc3) (by kernel_rfl) ?hic3 (fun K hK => ?stc3)
  case hic3 => (simp only [List.getElem?_toArray, List.getElem?_cons_succ, List.getElem?_cons_zero]; rfl)
  go_simp
  (go_at_call 36; refine (KD.out _ hfd).mono ?_; rintro e w17 ⟨rfl, hf17⟩)
  (try go_wp2_with fail)
  refine hK.out _ _ (fun _ => by exact ⟨hf17.cell hHeld.1 id, hf17.cell hHeld.2.1 id, hf17.cell hHeld.2.2 id⟩) ?_
  clear hK K
  (try simp only [Act.put, List.setIfInBounds_toArray, List.set_cons_zero, List.set_cons_succ])
  have hH2 := And.intro (hf17.cell hHeld.1 id) (And.intro (hf17.cell hHeld.2.1 id) (hf17.cell hHeld.2.2 id))
  have hfe := hfd.trans hf17
  refine Held.next (i := 5) (o := ?oc5) (by kernel_rfl) ?hic5 (fun K hK => ?stc5)
  case hic5 => (simp only [List.getElem?_toArray, List.getElem?_cons_succ, List.getElem?_cons_zero]; rfl)
  go_simp
  (go_at_call 65; refine (KR.out _ hfe).mono ?_; rintro e w18 ⟨rfl, hf18⟩)
  (try go_wp2_with fail)
  refine hK.out _ _ (fun _ => by exact ⟨hf18.cell hH2.1 id, hf18.cell hH2.2.1 id, hf18.cell hH2.2.2 id⟩) ?_
  clear hK K
  (try simp only [Act.put, List.setIfInBounds_toArray, List.set_cons_zero, List.set_cons_succ])
  have hH3 := And.intro (hf18.cell hH2.1 id) (And.intro (hf18.cell hH2.2.1 id) (hf18.cell hH2.2.2 id))
  refine Held.take (i := 6) (oi := ?oc6) (v := ?vc6) ?hic6 (by kernel_rfl) (by kernel_rfl) (by kernel_rfl) (by kernel_rfl) (fun _ _ _ h => h) (Or.inl ⟨?hwc6, ?hyc6⟩) (by assumption) ?restc6
  case hic6 => (simp only [List.getElem?_toArray, List.getElem?_cons_succ, List.getElem?_cons_zero]; rfl)
  case hwc6 => rfl
  case hyc6 => (intro w hSw; (try dsimp only at hSw); go_simp; try with_reducible rfl)
  (try simp only [Act.put, List.setIfInBounds_toArray, List.set_cons_zero, List.set_cons_succ])
  refine Held.take (i := 7) (oi := ?oc7) (v := ?vc7) ?hic7 (by kernel_rfl) (by kernel_rfl) (by kernel_rfl) (by kernel_rfl) (fun _ _ _ h => h) (Or.inl ⟨?hwc7, ?hyc7⟩) (by assumption) ?restc7
  case hic7 => (simp only [List.getElem?_toArray, List.getElem?_cons_succ, List.getElem?_cons_zero]; rfl)
  case hwc7 => rfl
  case hyc7 => (intro w hSw; (try dsimp only at hSw); go_simp; try with_reducible rfl)
  (try simp only [Act.put, List.setIfInBounds_toArray, List.set_cons_zero, List.set_cons_succ])
  refine Held.take (i := 8) (oi := ?oc8) (v := ?vc8) ?hic8 (by kernel_rfl) (by kernel_rfl) (by kernel_rfl) (by kernel_rfl) (fun _ _ _ h => h) (Or.inl ⟨?hwc8, ?hyc8⟩) (by assumption) ?restc8
  case hic8 => (simp only [List.getElem?_toArray, List.getElem?_cons_succ, List.getElem?_cons_zero]; rfl)
  case hwc8 => rfl
  case hyc8 => (intro w hSw; (try dsimp only at hSw); go_simp; try with_reducible rfl)
  (try simp only [Act.put, List.setIfInBounds_toArray, List.set_cons_zero, List.set_cons_succ])
  refine Held.done (by kernel_rfl) ?_ _
  refine NoPanic.normal ?_
  go_wp2_with fail
  go_ret
  exact ⟨rfl, hfe.trans hf18⟩

set_option maxRecDepth 100000 in
set_option maxHeartbeats 4000000 in
/-- the guards' own ways out -/
theorem gbl_out (N : Int) (A : Option Addr) (m c : Nat) (B : Option Addr) (k d : Nat) (i : Int) (a1 : Option Addr) (len1 cap1 : Nat) (a2 : Option Addr) (len2 cap2 : Nat) (w : World)
    (h : ¬ (m ≤ 100 ∧ k ≤ 100 ∧ len1 ≤ 200 ∧ len2 ≤ 20 ∧ 0 ≤ i ∧ i ≤ 50)) :
    Calls Tryd.prog 11 #[cv N A m c B k d, .int .i64 i, .slice a1 len1 cap1, .slice a2 len2 cap2] w fun e w' => e = .returned (.bool true) ∧ Frm (fun _ => False) w w' := by
  have hf0 := (Frm.refl (fun _ => False) w).alloc (.cells #[.int .i64 N, .slice A m c, .slice B k d] 40)
  have hb0 : Blk (w.alloc (.cells #[.int .i64 N, .slice A m c, .slice B k d] 40)) w.heap.size 40 [.int .i64 N, .slice A m c, .slice B k d] := Blk.new _ _ _
  have HN := Lib.hid h
  clear h
  by_cases g0 : (100 : Int) < m
  · skip
    go_enter Tryd.func11, Tryd.ntmps11
    go_wp2_with fail
    refine (first8_any _).mono ?_
    rintro e w1 ⟨rfl, hf1⟩
    have hb1 := hb0.frm hf1 id
    have b1 := hb1.at_ 1 rfl
    have b2 := hb1.at_ 2 rfl
    go_wp2_with fail
    go_ret
    exact ⟨rfl, hf0.trans hf1⟩
  · skip
    by_cases g1 : (100 : Int) < k
    · skip
      go_enter Tryd.func11, Tryd.ntmps11
      go_wp2_with fail
      refine (first8_any _).mono ?_
      rintro e w1 ⟨rfl, hf1⟩
      have hb1 := hb0.frm hf1 id
      have b1 := hb1.at_ 1 rfl
      have b2 := hb1.at_ 2 rfl
      go_wp2_with fail
      go_ret
      exact ⟨rfl, hf0.trans hf1⟩
    · skip
      by_cases g2 : (200 : Int) < len1
      · skip
        go_enter Tryd.func11, Tryd.ntmps11
        go_wp2_with fail
        refine (first8_any _).mono ?_
        rintro e w1 ⟨rfl, hf1⟩
        have hb1 := hb0.frm hf1 id
        have b1 := hb1.at_ 1 rfl
        have b2 := hb1.at_ 2 rfl
        go_wp2_with fail
        go_ret
        exact ⟨rfl, hf0.trans hf1⟩
      · skip
        by_cases g3 : (20 : Int) < len2
        · skip
          go_enter Tryd.func11, Tryd.ntmps11
          go_wp2_with fail
          refine (first8_any _).mono ?_
          rintro e w1 ⟨rfl, hf1⟩
          have hb1 := hb0.frm hf1 id
          have b1 := hb1.at_ 1 rfl
          have b2 := hb1.at_ 2 rfl
          go_wp2_with fail
          go_ret
          exact ⟨rfl, hf0.trans hf1⟩
        · skip
          by_cases g4 : i < 0
          · skip
            go_enter Tryd.func11, Tryd.ntmps11
            go_wp2_with fail
            refine (first8_any _).mono ?_
            rintro e w1 ⟨rfl, hf1⟩
            have hb1 := hb0.frm hf1 id
            have b1 := hb1.at_ 1 rfl
            have b2 := hb1.at_ 2 rfl
            go_wp2_with fail
            go_ret
            exact ⟨rfl, hf0.trans hf1⟩
          · skip
            have g5 : 50 < i := by have := HN.out; omega
            go_enter Tryd.func11, Tryd.ntmps11
            go_wp2_with fail
            refine (first8_any _).mono ?_
            rintro e w1 ⟨rfl, hf1⟩
            have hb1 := hb0.frm hf1 id
            have b1 := hb1.at_ 1 rfl
            have b2 := hb1.at_ 2 rfl
            go_wp2_with fail
            go_ret
            exact ⟨rfl, hf0.trans hf1⟩

end Go.Proofs.YtkjlgamggkencaaDoor
