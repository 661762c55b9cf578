/-
  The walk of LookSays.
-/
import Derived.Test.YtkjlgamggkencaaDoorMCopyR
import Derived.Test.YtkjlgamggkencaaDoorMCopyAll
import Derived.Test.YtkjlgamggkencaaDoorMDepthR
import Derived.Test.YtkjlgamggkencaaDoorMLaw10
import Derived.Test.YtkjlgamggkencaaDoorMSameB
import Derived.Test.YtkjlgamggkencaaDoorMMakeC
import Derived.Test.YtkjlgamggkencaaDoorMReachR
import Derived.Test.YtkjlgamggkencaaDoorMLookE
import Derived.Test.YtkjlgamggkencaaDoorMGraphFolds
import Derived.Deep.Cut
import Derived.Deep.CutRange
namespace Go.Proofs.YtkjlgamggkencaaDoor
open Go.RowKit
set_option linter.unusedVariables false

theorem sl_take {w : World} {F : Nat → Prop} {A : Option Addr} {n c k : Nat} {xs : List Value} (h : Sl w F 1 (.slice A n c) n xs) (hk : k ≤ n) : Sl w F 1 (.slice A k c) k (xs.take k) := by
  obtain ⟨hl, A', c', e, hc, ha, hx⟩ := h
  cases e
  refine ⟨by rw [List.length_take]; omega, A, c, rfl, by omega, ha, fun i u hu => hx i u ?_⟩
  rw [List.getElem?_take] at hu
  split at hu
  · exact hu
  · cases hu
theorem sameI_any (A B : Option Addr) (n c d : Nat) (F G : Nat → Prop) (l : List Int) (w : World) (hn : l.length = n) (hb : n ≤ 1000000) (h1 : Sl w F 1 (.slice A n c) n (l.map (.int .i64))) (h2 : Sl w G 1 (.slice B n d) n (l.map (.int .i64))) :
    Calls Tryd.prog 67 #[.slice A n c, .slice B n d] w fun e w' => e = .returned (.bool true) ∧ Frm (fun _ => False) w w' := by
  refine (sameInts_eq A B n c d F G l w hn hb h1 h2).mono ?_
  rintro e w' ⟨rfl, k, rfl⟩
  exact ⟨rfl, (Frm.refl _ _).drewN k⟩
theorem pr_new2 {E : Nat → Value} {g x : Gr} {gb : Nat} {w0 w1 w2 : World} {fp : Nat → Prop} (hG : IsGr E w1 fp gb g) (hfp : ∀ k, fp k → w0.heap.size ≤ k ∧ k < w1.heap.size) (hf1 : Frm (fun _ => False) w0 w1)
    (hX : IsX w2 (fun k => k = w1.heap.size) w1.heap.size x) (hf2 : Frm (fun _ => False) w1 w2) (hsz : w2.heap.size = w1.heap.size + 1) : Pr E (fun k => k < w0.heap.size) w2 gb g w1.heap.size x := by
  have s1 := hf1.size
  refine ⟨fp, _, hG.frm hf2 (fun _ _ => id), hX, fun k hk e => ?_, fun k hk => ?_, fun k hk => ?_, fun k hk => ?_⟩
  · have := (hfp k hk).2; omega
  · have := hfp k hk; omega
  · omega
  · omega

set_option maxRecDepth 100000 in
set_option maxHeartbeats 16000000 in
theorem lsl_any (i : Nat) (a0 : Option Addr) (len0 cap0 : Nat) (z0 : List Int) (hz0 : z0.length = len0) (a1 : Option Addr) (len1 cap1 : Nat) (z1 : List Int) (hz1 : z1.length = len1) (x lit : Int) (a2 : Option Addr) (len2 cap2 : Nat) (z2 : List Int) (hz2 : z2.length = len2) (w : World)
    (s0 : Sl w (fun k => k < w.heap.size) 1 (.slice a0 len0 cap0) len0 (z0.map (.int .i64))) (s1 : Sl w (fun k => k < w.heap.size) 1 (.slice a1 len1 cap1) len1 (z1.map (.int .i64))) (s2 : Sl w (fun k => k < w.heap.size) 1 (.slice a2 len2 cap2) len2 (z2.map (.int .i64)))
    (h0 : len0 ≤ 120) (h1 : len1 ≤ 20) (h2 : len2 ≤ 40) (hi : i ≤ 30) :
    Calls Tryd.prog 19 #[.int .i64 i, .slice a0 len0 cap0, .slice a1 len1 cap1, .int .i64 x, .int .i64 lit, .slice a2 len2 cap2] w fun e w' => e = .returned (.bool true) ∧ Frm (fun _ => False) w w' := by
  have t0 : decide ((120 : Int) < (len0 : Int)) = false := by simp; omega
  have t1 : decide ((20 : Int) < (len1 : Int)) = false := by simp; omega
  have t2 : decide ((40 : Int) < (len2 : Int)) = false := by simp; omega
  have t3 : decide ((i : Int) < 0) = false := by simp
  have t4 : decide ((30 : Int) < (i : Int)) = false := by simp; omega
  have hlm : (mkAnds i z0).length ≤ 60 := by rw [mkAnds_length]; omega
  have hlo : (mkOuts i z0 z1).length ≤ 20 := by rw [mkOuts, List.length_map]; omega
  have hr := mkAnds_right i z0
  have hl : ∀ x ∈ mkOuts i z0 z1, isL x (i + (mkAnds i z0).length) = true := by rw [mkAnds_length]; exact mkOuts_isL i z0 z1
  have HMK := Lib.hid (fun W (hf : Frm (fun _ => False) w W) => make_any i a0 len0 cap0 z0 hz0 a1 len1 cap1 z1 hz1 _ _ W (s0.frm hf (fun _ _ => id)) (s1.frm hf (fun _ _ => id)) (by omega) (by omega) (by omega))
  have HR := Lib.hid hr
  have HL := Lib.hid hl
  have HZ2 := Lib.hid hz2
  clear hz0 hz1 hz2 s0 s1 hr hl
  generalize mkAnds i z0 = L at *
  generalize mkOuts i z0 z1 = l at *
  obtain ⟨j0, hj0, hq0, hq1, hq2⟩ := info_parts infoIntG
  go_enter Tryd.func19, Tryd.ntmps19
  go_wp2_with fail
  refine (first10_any w).mono ?_
  rintro e w1 ⟨rfl, hf1⟩
  go_wp2_with fail
  refine (HMK.out w1 hf1).mono ?_
  rintro e w5 ⟨v, rfl, ⟨A, c, B, d, rfl, hA, hB⟩, hf5⟩
  clear HMK
  have hf05 := hf1.trans hf5
  have hfa := (Frm.refl (fun _ => False) w5).alloc (.cells #[.int .i64 i, .slice A L.length c, .slice B l.length d] 40)
  have hba : Blk (w5.alloc (.cells #[.int .i64 i, .slice A L.length c, .slice B l.length d] 40)) w5.heap.size 40 [.int .i64 i, .slice A L.length c, .slice B l.length d] := Blk.new _ _ _
  have hf05a := hf05.trans hfa
  have hA1 := hA.frm hfa (fun _ _ => id)
  have hB1 := hB.frm hfa (fun _ _ => id)
  clear hf1 hf5 hf05 hA hB
  go_wp2_with fail
  refine (values_any x i (by omega) _).mono ?_
  rintro e w6 ⟨Ai, ci, rfl, hown6, hf6⟩
  have hin6 := own_sl hown6
  have hptr : 0 < i → ∃ g, Ai = some ⟨g, 0, none⟩ := fun h => by obtain ⟨g, hg, _⟩ := own_ptr hown6 h; exact ⟨g, hg⟩
  have hcap : i ≤ ci := by obtain ⟨_, _, e, h, _⟩ := hin6.form; cases e; exact h
  have hba6 := hba.frm hf6 id
  have hA6 := hA1.frm hf6 (fun _ _ => id)
  have hB6 := hB1.frm hf6 (fun _ _ => id)
  have hf06 := hf05a.trans hf6
  have hinl := mkVals_length x i
  have hlt5 := hba6.lt
  generalize mkVals x i = inp0 at *
  clear hown6 hba hA1 hB1 hf05a hfa hf6
  go_upto_region 8 with (fail)
  go_cut [60] from 54 to 60 (fun t60 wr => ∃ z : Bool, t60 = .bool z ∧ (z = true → 0 < i) ∧ wr = w6)
  case first =>
    cases hz : (bits .and .i64 x 7 == 7)
    · go_wp2_with fail
      go_meet
      exact ⟨false, rfl, by simp, rfl⟩
    · by_cases hi0 : (0 : Int) < i
      · go_wp2_with fail
        go_meet
        exact ⟨_, rfl, fun h => of_decide_eq_true h, rfl⟩
      · go_wp2_with fail
        go_meet
        exact ⟨_, rfl, fun h => of_decide_eq_true h, rfl⟩
  case rest =>
  obtain ⟨z, rfl, hz, rfl⟩ := hcut
  go_upto_if 60 with (fail)
  go_cut [15] from 54 to 64 (fun t15 wr => ∃ li : Nat, t15 = .slice Ai li ci ∧ li ≤ i ∧ wr = wc)
  case first =>
    cases z
    · go_wp2_with fail
      go_meet
      exact ⟨i, rfl, Nat.le_refl _, rfl⟩
    · have hi1 := hz rfl
      obtain ⟨g, rfl⟩ := hptr hi1
      have wi : IntKind.i64.wrap ((i : Int) - 1) = (i : Int) - 1 := IntWalk.i64_in _ (by omega)
      obtain ⟨i', rfl⟩ : ∃ i', i = i' + 1 := ⟨i - 1, by omega⟩
      have hii : ((i' + 1 : Nat) : Int) - 1 = i' := by omega
      go_wp2_with fail
      go_meet
      exact ⟨i', by simp, by omega, rfl⟩
  case rest =>
  obtain ⟨li, rfl, hli, rfl⟩ := hcut
  obtain ⟨w6, rfl⟩ : ∃ w6, w6 = wc := ⟨_, rfl⟩
  have hin := sl_take hin6 hli
  rw [← List.map_take] at hin
  have hilen : (inp0.take li).length = li := by rw [List.length_take]; omega
  generalize inp0.take li = inp at *
  have HIL := Lib.hid hilen
  clear hin6 hptr hcap hinl hilen hz z
  have b1 := hba6.at_ 1 rfl
  have wa : IntKind.i64.wrap ((i : Int) + (L.length : Int)) = (i : Int) + (L.length : Int) := IntWalk.i64_in _ (by omega)
  have wb : IntKind.i64.wrap (2 * ((i : Int) + (L.length : Int))) = 2 * ((i : Int) + (L.length : Int)) := IntWalk.i64_in _ (by omega)
  have wd : IntKind.i64.wrap (2 * ((i : Int) + (L.length : Int)) + 2) = 2 * ((i : Int) + (L.length : Int)) + 2 := IntWalk.i64_in _ (by omega)
  go_wp2_with fail
  refine (number_any lit (2 * ((i : Int) + (L.length : Int)) + 2) _ (by omega) (by omega)).mono ?_
  rintro e w' ⟨rfl, rfl⟩
  have hy : isL (lit % (2 * ((i : Int) + (L.length : Int)) + 2)) (i + L.length) = true := by
    have := isL_emod lit (i + L.length)
    rwa [show 2 * ((i + L.length : Nat) : Int) + 2 = 2 * ((i : Int) + (L.length : Int)) + 2 from by omega] at this
  generalize lit % (2 * ((i : Int) + (L.length : Int)) + 2) = y at *
  have HY := Lib.hid hy
  clear hy wa wb wd b1
  have K1 := Lib.hid (fun (W : World) (hf : Frm (fun _ => False) w6 W) => lnodes_any i L A L.length c B l.length d l Ai li ci inp _ _ _ W rfl rfl HIL.out HR.out (by omega) (by omega) (by omega) (by omega) HL.out (hA6.frm hf (fun _ _ => id)) (hB6.frm hf (fun _ _ => id)) (hin.frm hf (fun _ _ => id)))
  have K2 := Lib.hid (fun (W : World) (hf : Frm (fun _ => False) w6 W) => rnodes_any i L A L.length c B l.length d Ai li ci inp _ _ W rfl HIL.out HR.out (by omega) (by omega) (hA6.frm hf (fun _ _ => id)) (hin.frm hf (fun _ _ => id)))
  have K3 := Lib.hid (fun (W : World) (hf : Frm (fun _ => False) w6 W) => leval_any i L A L.length c B l.length d l Ai li ci inp _ _ _ W rfl rfl HIL.out HR.out (by omega) (by omega) (by omega) (by omega) HL.out (hA6.frm hf (fun _ _ => id)) (hB6.frm hf (fun _ _ => id)) (hin.frm hf (fun _ _ => id)))
  have K4 := Lib.hid (fun (W : World) (hf : Frm (fun _ => False) w6 W) => reval_any i L A L.length c B l.length d l Ai li ci inp _ _ _ W rfl rfl HIL.out HR.out (by omega) (by omega) (by omega) HL.out (hA6.frm hf (fun _ _ => id)) (hB6.frm hf (fun _ _ => id)) (hin.frm hf (fun _ _ => id)))
  have K5 := Lib.hid (fun (W : World) (hf : Frm (fun _ => False) w6 W) => supp_any i L A L.length c B l.length d l y _ _ W rfl rfl HR.out (by omega) (by omega) (by omega) HL.out HY.out (hA6.frm hf (fun _ _ => id)) (hB6.frm hf (fun _ _ => id)))
  have K6 := Lib.hid (fun (W : World) (hf : Frm (fun _ => False) w6 W) => rsupp_any i L A L.length c B l.length d y _ W rfl HR.out (by omega) (by omega) HY.out (hA6.frm hf (fun _ _ => id)))
  have K7 := Lib.hid (fun (W : World) (hf : Frm (fun _ => False) w6 W) => cone_any i L A L.length c B l.length d l y _ _ W rfl rfl HR.out (by omega) (by omega) (by omega) HL.out HY.out (hA6.frm hf (fun _ _ => id)) (hB6.frm hf (fun _ _ => id)))
  have K8 := Lib.hid (fun (W : World) (hf : Frm (fun _ => False) w6 W) => rcone_any i L A L.length c B l.length d y _ W rfl HR.out (by omega) (by omega) HY.out (hA6.frm hf (fun _ _ => id)))
  have K9 := Lib.hid (fun (W : World) (hf : Frm (fun _ => False) w6 W) => depth_any i L A L.length c B l.length d l _ _ W rfl rfl HR.out (by omega) (by omega) (by omega) HL.out (hA6.frm hf (fun _ _ => id)) (hB6.frm hf (fun _ _ => id)))
  have K10 := Lib.hid (fun (W : World) (hf : Frm (fun _ => False) w6 W) => rdepth_any i L A L.length c B l.length d l _ _ W rfl rfl HR.out (by omega) (by omega) (by omega) HL.out (hA6.frm hf (fun _ _ => id)) (hB6.frm hf (fun _ _ => id)))
  have hnl := nodes_length i L inp
  have hel : (evalOuts (nodes i L inp) l).length = l.length := by unfold evalOuts; simp
  have hcl : (coneL i L y).length ≤ 1000 := by unfold coneL; have := coneOf_length i (marksL i L y) L.length; omega
  have hsl : (suppL i L y).length ≤ 1000 := by unfold suppL; have := suppOf_length (marksL i L y) i; omega
  generalize evalOuts (nodes i L inp) l = ev at *
  generalize nodes i L inp = ns at *
  generalize coneL i L y = cn at *
  generalize suppL i L y = sp at *
  generalize depthL i L l = dp at *
  have HNL := Lib.hid hnl
  have HEL := Lib.hid hel
  clear hnl hel
  have hH0 : w6.drew.cell? ⟨w5.heap.size, 0, none⟩ = some (.int .i64 (i : Int)) ∧ w6.drew.cell? ⟨w5.heap.size, 1, none⟩ = some (.slice A L.length c) ∧ w6.drew.cell? ⟨w5.heap.size, 2, none⟩ = some (.slice B l.length d) := ⟨hba6.at_ 0 rfl, hba6.at_ 1 rfl, hba6.at_ 2 rfl⟩
  have HH := Lib.hid (fun (W W' : World) (hf : Frm (fun _ => False) W W') (h : W.cell? ⟨w5.heap.size, 0, none⟩ = some (.int .i64 (i : Int)) ∧ W.cell? ⟨w5.heap.size, 1, none⟩ = some (.slice A L.length c) ∧ W.cell? ⟨w5.heap.size, 2, none⟩ = some (.slice B l.length d)) =>
    show W'.cell? ⟨w5.heap.size, 0, none⟩ = some (.int .i64 (i : Int)) ∧ W'.cell? ⟨w5.heap.size, 1, none⟩ = some (.slice A L.length c) ∧ W'.cell? ⟨w5.heap.size, 2, none⟩ = some (.slice B l.length d) from ⟨hf.cell h.1 id, hf.cell h.2.1 id, hf.cell h.2.2 id⟩)
  have e0 : Frm (fun _ => False) w6 w6.drew := (Frm.refl _ _).drewN 1
  go_wp2_with fail
  have hHeld := hH0
  refine Held.begin (fun w' => w'.cell? ⟨w5.heap.size, 0, none⟩ = some (.int .i64 (i : Int)) ∧ w'.cell? ⟨w5.heap.size, 1, none⟩ = some (.slice A L.length c) ∧ w'.cell? ⟨w5.heap.size, 2, none⟩ = some (.slice B l.length d)) 45 (by kernel_rfl) ?_
  refine Held.take (i := 0) (oi := ?oa0) (v := ?va0) ?hia0 (by kernel_rfl) (by kernel_rfl) (by kernel_rfl) (by kernel_rfl) (fun _ _ _ h => h) (Or.inl ⟨?hwa0, ?hya0⟩) (by assumption) ?resta0
  case hia0 => (simp only [List.getElem?_toArray, List.getElem?_cons_zero]; rfl)
  case hwa0 => rfl
  case hya0 => (intro w hSw; (try dsimp only at hSw); go_simp; try with_reducible rfl)
  (try simp only [Act.put, List.setIfInBounds_toArray, List.set_cons_zero, List.set_cons_succ])
  refine Held.take (i := 1) (oi := ?oa1) (v := ?va1) ?hia1 (by kernel_rfl) (by kernel_rfl) (by kernel_rfl) (by kernel_rfl) (fun _ _ _ h => h) (Or.inl ⟨?hwa1, ?hya1⟩) (by assumption) ?resta1
  case hia1 => (simp only [List.getElem?_toArray, List.getElem?_cons_succ, List.getElem?_cons_zero]; rfl)
  case hwa1 => rfl
  case hya1 => (intro w hSw; (try dsimp only at hSw); go_simp; try with_reducible rfl)
  (try simp only [Act.put, List.setIfInBounds_toArray, List.set_cons_zero, List.set_cons_succ])
  refine Held.take (i := 3) (oi := ?oa3) (v := ?va3) ?hia3 (by kernel_rfl) (by kernel_rfl) (by kernel_rfl) (by kernel_rfl) (fun _ _ _ h => h) (Or.inl ⟨?hwa3, ?hya3⟩) (by assumption) ?resta3
  case hia3 => (simp only [List.getElem?_toArray, List.getElem?_cons_succ, List.getElem?_cons_zero]; rfl)
  case hwa3 => rfl
  case hya3 => (intro w hSw; (try dsimp only at hSw); go_simp; try with_reducible rfl)
  (try simp only [Act.put, List.setIfInBounds_toArray, List.set_cons_zero, List.set_cons_succ])
  refine Held.take (i := 4) (oi := ?oa4) (v := ?va4) ?hia4 (by kernel_rfl) (by kernel_rfl) (by kernel_rfl) (by kernel_rfl) (fun _ _ _ h => h) (Or.inl ⟨?hwa4, ?hya4⟩) (by assumption) ?resta4
  case hia4 => (simp only [List.getElem?_toArray, List.getElem?_cons_succ, List.getElem?_cons_zero]; rfl)
  case hwa4 => rfl
  case hya4 => (intro w hSw; (try dsimp only at hSw); go_simp; try with_reducible rfl)
  (try simp only [Act.put, List.setIfInBounds_toArray, List.set_cons_zero, List.set_cons_succ])
  refine Held.next (i := 2) (o := ?oa2) (by kernel_rfl) ?hia2 (fun K hK => ?sta2)
  case hia2 => (simp only [List.getElem?_toArray, List.getElem?_cons_succ, List.getElem?_cons_zero]; rfl)
  go_simp
  (go_at_call 87; refine (K1.out _ e0).mono ?_; rintro e v1 ⟨R1, p1, rfl, o1, f1⟩)
  (try go_wp2_with fail)
  refine hK.out _ _ (fun _ => by exact HH.out _ _ f1 hHeld) ?_
  clear hK K
  (try simp only [Act.put, List.setIfInBounds_toArray, List.set_cons_zero, List.set_cons_succ])
  have h1 := HH.out _ _ f1 hHeld
  have e1 := e0.trans f1
  refine Held.next (i := 5) (o := ?oa5) (by kernel_rfl) ?hia5 (fun K hK => ?sta5)
  case hia5 => (simp only [List.getElem?_toArray, List.getElem?_cons_succ, List.getElem?_cons_zero]; rfl)
  go_simp
  (go_at_call 48; refine (K2.out _ e1).mono ?_; rintro e v2 ⟨R2, p2, rfl, o2, f2⟩)
  (try go_wp2_with fail)
  refine hK.out _ _ (fun _ => by exact HH.out _ _ f2 h1) ?_
  clear hK K
  (try simp only [Act.put, List.setIfInBounds_toArray, List.set_cons_zero, List.set_cons_succ])
  have h2 := HH.out _ _ f2 h1
  have e2 := e1.trans f2
  refine Held.next (i := 6) (o := ?oa6) (by kernel_rfl) ?hia6 (fun K hK => ?sta6)
  case hia6 => (simp only [List.getElem?_toArray, List.getElem?_cons_succ, List.getElem?_cons_zero]; rfl)
  go_simp
  (go_at_call 68; refine (sameB_eq R1 R2 (i + 1 + L.length) p1 p2 _ _ ns _ HNL.out (by omega) ((own_sl o1).frm f2 (fun _ _ => id)) (own_sl o2)).mono ?_; rintro e w' ⟨rfl, n3, rfl⟩)
  (try go_wp2_with fail)
  refine hK.out _ _ (fun _ => by exact h2) ?_
  clear hK K
  (try simp only [Act.put, List.setIfInBounds_toArray, List.set_cons_zero, List.set_cons_succ])
  have h3 := HH.out _ _ ((Frm.refl (fun _ => False) v2).drewN n3) h2
  have e3 := e2.drewN n3
  clear o1 o2 f1 f2 h1 h2 e1 e2
  refine Held.take (i := 7) (oi := ?oa7) (v := ?va7) ?hia7 (by kernel_rfl) (by kernel_rfl) (by kernel_rfl) (by kernel_rfl) (fun _ _ _ h => h) (Or.inl ⟨?hwa7, ?hya7⟩) (by assumption) ?resta7
  case hia7 => (simp only [List.getElem?_toArray, List.getElem?_cons_succ, List.getElem?_cons_zero]; rfl)
  case hwa7 => rfl
  case hya7 => (intro w hSw; (try dsimp only at hSw); go_simp; try with_reducible rfl)
  (try simp only [Act.put, List.setIfInBounds_toArray, List.set_cons_zero, List.set_cons_succ])
  refine Held.take (i := 8) (oi := ?oa8) (v := ?va8) ?hia8 (by kernel_rfl) (by kernel_rfl) (by kernel_rfl) (by kernel_rfl) (fun _ _ _ h => h) (Or.inl ⟨?hwa8, ?hya8⟩) (by assumption) ?resta8
  case hia8 => (simp only [List.getElem?_toArray, List.getElem?_cons_succ, List.getElem?_cons_zero]; rfl)
  case hwa8 => rfl
  case hya8 => (intro w hSw; (try dsimp only at hSw); go_simp; try with_reducible rfl)
  (try simp only [Act.put, List.setIfInBounds_toArray, List.set_cons_zero, List.set_cons_succ])
  refine Held.take (i := 9) (oi := ?oa9) (v := ?va9) ?hia9 (by kernel_rfl) (by kernel_rfl) (by kernel_rfl) (by kernel_rfl) (fun _ _ _ h => h) (Or.inl ⟨?hwa9, ?hya9⟩) (by assumption) ?resta9
  case hia9 => (simp only [List.getElem?_toArray, List.getElem?_cons_succ, List.getElem?_cons_zero]; rfl)
  case hwa9 => rfl
  case hya9 => (intro w hSw; (try dsimp only at hSw); go_simp; try with_reducible rfl)
  (try simp only [Act.put, List.setIfInBounds_toArray, List.set_cons_zero, List.set_cons_succ])
  refine Held.take (i := 10) (oi := ?oa10) (v := ?va10) ?hia10 (by kernel_rfl) (by kernel_rfl) (by kernel_rfl) (by kernel_rfl) (fun _ _ _ h => h) (Or.inl ⟨?hwa10, ?hya10⟩) (by assumption) ?resta10
  case hia10 => (simp only [List.getElem?_toArray, List.getElem?_cons_succ, List.getElem?_cons_zero]; rfl)
  case hwa10 => rfl
  case hya10 => (intro w hSw; (try dsimp only at hSw); go_simp; try with_reducible rfl)
  (try simp only [Act.put, List.setIfInBounds_toArray, List.set_cons_zero, List.set_cons_succ])
  refine Held.take (i := 12) (oi := ?oa12) (v := ?va12) ?hia12 (by kernel_rfl) (by kernel_rfl) (by kernel_rfl) (by kernel_rfl) (fun _ _ _ h => h) (Or.inl ⟨?hwa12, ?hya12⟩) (by assumption) ?resta12
  case hia12 => (simp only [List.getElem?_toArray, List.getElem?_cons_succ, List.getElem?_cons_zero]; rfl)
  case hwa12 => rfl
  case hya12 => (intro w hSw; (try dsimp only at hSw); go_simp; try with_reducible rfl)
  (try simp only [Act.put, List.setIfInBounds_toArray, List.set_cons_zero, List.set_cons_succ])
  refine Held.take (i := 13) (oi := ?oa13) (v := ?va13) ?hia13 (by kernel_rfl) (by kernel_rfl) (by kernel_rfl) (by kernel_rfl) (fun _ _ _ h => h) (Or.inl ⟨?hwa13, ?hya13⟩) (by assumption) ?resta13
  case hia13 => (simp only [List.getElem?_toArray, List.getElem?_cons_succ, List.getElem?_cons_zero]; rfl)
  case hwa13 => rfl
  case hya13 => (intro w hSw; (try dsimp only at hSw); go_simp; try with_reducible rfl)
  (try simp only [Act.put, List.setIfInBounds_toArray, List.set_cons_zero, List.set_cons_succ])
  refine Held.next (i := 11) (o := ?oa11) (by kernel_rfl) ?hia11 (fun K hK => ?sta11)
  case hia11 => (simp only [List.getElem?_toArray, List.getElem?_cons_succ, List.getElem?_cons_zero]; rfl)
  go_simp
  (go_at_call 77; refine (K3.out _ e3).mono ?_; rintro e v4 ⟨R1, p1, rfl, o1, f1⟩)
  (try go_wp2_with fail)
  refine hK.out _ _ (fun _ => by exact HH.out _ _ f1 h3) ?_
  clear hK K
  (try simp only [Act.put, List.setIfInBounds_toArray, List.set_cons_zero, List.set_cons_succ])
  have h4 := HH.out _ _ f1 h3
  have e4 := e3.trans f1
  refine Held.next (i := 14) (o := ?oa14) (by kernel_rfl) ?hia14 (fun K hK => ?sta14)
  case hia14 => (simp only [List.getElem?_toArray, List.getElem?_cons_succ, List.getElem?_cons_zero]; rfl)
  go_simp
  (go_at_call 47; refine (K4.out _ e4).mono ?_; rintro e v5 ⟨R2, p2, rfl, o2, f2⟩)
  (try go_wp2_with fail)
  refine hK.out _ _ (fun _ => by exact HH.out _ _ f2 h4) ?_
  clear hK K
  (try simp only [Act.put, List.setIfInBounds_toArray, List.set_cons_zero, List.set_cons_succ])
  have h5 := HH.out _ _ f2 h4
  have e5 := e4.trans f2
  refine Held.next (i := 15) (o := ?oa15) (by kernel_rfl) ?hia15 (fun K hK => ?sta15)
  case hia15 => (simp only [List.getElem?_toArray, List.getElem?_cons_succ, List.getElem?_cons_zero]; rfl)
  go_simp
  (go_at_call 68; refine (sameB_eq R1 R2 l.length p1 p2 _ _ ev _ HEL.out (by omega) ((own_sl o1).frm f2 (fun _ _ => id)) (own_sl o2)).mono ?_; rintro e w' ⟨rfl, n6, rfl⟩)
  (try go_wp2_with fail)
  refine hK.out _ _ (fun _ => by exact h5) ?_
  clear hK K
  (try simp only [Act.put, List.setIfInBounds_toArray, List.set_cons_zero, List.set_cons_succ])
  have h6 := HH.out _ _ ((Frm.refl (fun _ => False) v5).drewN n6) h5
  have e6 := e5.drewN n6
  clear o1 o2 f1 f2 h3 h4 h5 e3 e4 e5
  refine Held.take (i := 16) (oi := ?oa16) (v := ?va16) ?hia16 (by kernel_rfl) (by kernel_rfl) (by kernel_rfl) (by kernel_rfl) (fun _ _ _ h => h) (Or.inl ⟨?hwa16, ?hya16⟩) (by assumption) ?resta16
  case hia16 => (simp only [List.getElem?_toArray, List.getElem?_cons_succ, List.getElem?_cons_zero]; rfl)
  case hwa16 => rfl
  case hya16 => (intro w hSw; (try dsimp only at hSw); go_simp; try with_reducible rfl)
  (try simp only [Act.put, List.setIfInBounds_toArray, List.set_cons_zero, List.set_cons_succ])
  refine Held.take (i := 17) (oi := ?oa17) (v := ?va17) ?hia17 (by kernel_rfl) (by kernel_rfl) (by kernel_rfl) (by kernel_rfl) (fun _ _ _ h => h) (Or.inl ⟨?hwa17, ?hya17⟩) (by assumption) ?resta17
  case hia17 => (simp only [List.getElem?_toArray, List.getElem?_cons_succ, List.getElem?_cons_zero]; rfl)
  case hwa17 => rfl
  case hya17 => (intro w hSw; (try dsimp only at hSw); go_simp; try with_reducible rfl)
  (try simp only [Act.put, List.setIfInBounds_toArray, List.set_cons_zero, List.set_cons_succ])
  refine Held.take (i := 18) (oi := ?oa18) (v := ?va18) ?hia18 (by kernel_rfl) (by kernel_rfl) (by kernel_rfl) (by kernel_rfl) (fun _ _ _ h => h) (Or.inl ⟨?hwa18, ?hya18⟩) (by assumption) ?resta18
  case hia18 => (simp only [List.getElem?_toArray, List.getElem?_cons_succ, List.getElem?_cons_zero]; rfl)
  case hwa18 => rfl
  case hya18 => (intro w hSw; (try dsimp only at hSw); go_simp; try with_reducible rfl)
  (try simp only [Act.put, List.setIfInBounds_toArray, List.set_cons_zero, List.set_cons_succ])
  refine Held.take (i := 19) (oi := ?oa19) (v := ?va19) ?hia19 (by kernel_rfl) (by kernel_rfl) (by kernel_rfl) (by kernel_rfl) (fun _ _ _ h => h) (Or.inl ⟨?hwa19, ?hya19⟩) (by assumption) ?resta19
  case hia19 => (simp only [List.getElem?_toArray, List.getElem?_cons_succ, List.getElem?_cons_zero]; rfl)
  case hwa19 => rfl
  case hya19 => (intro w hSw; (try dsimp only at hSw); go_simp; try with_reducible rfl)
  (try simp only [Act.put, List.setIfInBounds_toArray, List.set_cons_zero, List.set_cons_succ])
  refine Held.take (i := 20) (oi := ?oa20) (v := ?va20) ?hia20 (by kernel_rfl) (by kernel_rfl) (by kernel_rfl) (by kernel_rfl) (fun _ _ _ h => h) (Or.inl ⟨?hwa20, ?hya20⟩) (by assumption) ?resta20
  case hia20 => (simp only [List.getElem?_toArray, List.getElem?_cons_succ, List.getElem?_cons_zero]; rfl)
  case hwa20 => rfl
  case hya20 => (intro w hSw; (try dsimp only at hSw); go_simp; try with_reducible rfl)
  (try simp only [Act.put, List.setIfInBounds_toArray, List.set_cons_zero, List.set_cons_succ])
  refine Held.take (i := 22) (oi := ?oa22) (v := ?va22) ?hia22 (by kernel_rfl) (by kernel_rfl) (by kernel_rfl) (by kernel_rfl) (fun _ _ _ h => h) (Or.inl ⟨?hwa22, ?hya22⟩) (by assumption) ?resta22
  case hia22 => (simp only [List.getElem?_toArray, List.getElem?_cons_succ, List.getElem?_cons_zero]; rfl)
  case hwa22 => rfl
  case hya22 => (intro w hSw; (try dsimp only at hSw); go_simp; try with_reducible rfl)
  (try simp only [Act.put, List.setIfInBounds_toArray, List.set_cons_zero, List.set_cons_succ])
  refine Held.take (i := 23) (oi := ?oa23) (v := ?va23) ?hia23 (by kernel_rfl) (by kernel_rfl) (by kernel_rfl) (by kernel_rfl) (fun _ _ _ h => h) (Or.inl ⟨?hwa23, ?hya23⟩) (by assumption) ?resta23
  case hia23 => (simp only [List.getElem?_toArray, List.getElem?_cons_succ, List.getElem?_cons_zero]; rfl)
  case hwa23 => rfl
  case hya23 => (intro w hSw; (try dsimp only at hSw); go_simp; try with_reducible rfl)
  (try simp only [Act.put, List.setIfInBounds_toArray, List.set_cons_zero, List.set_cons_succ])
  refine Held.next (i := 21) (o := ?oa21) (by kernel_rfl) ?hia21 (fun K hK => ?sta21)
  case hia21 => (simp only [List.getElem?_toArray, List.getElem?_cons_succ, List.getElem?_cons_zero]; rfl)
  go_simp
  (go_at_call 78; refine (K5.out _ e6).mono ?_; rintro e v7 ⟨R1, p1, rfl, o1, f1⟩)
  (try go_wp2_with fail)
  refine hK.out _ _ (fun _ => by exact HH.out _ _ f1 h6) ?_
  clear hK K
  (try simp only [Act.put, List.setIfInBounds_toArray, List.set_cons_zero, List.set_cons_succ])
  have h7 := HH.out _ _ f1 h6
  have e7 := e6.trans f1
  refine Held.next (i := 24) (o := ?oa24) (by kernel_rfl) ?hia24 (fun K hK => ?sta24)
  case hia24 => (simp only [List.getElem?_toArray, List.getElem?_cons_succ, List.getElem?_cons_zero]; rfl)
  go_simp
  (go_at_call 88; refine (K6.out _ e7).mono ?_; rintro e v8 ⟨R2, p2, rfl, o2, f2⟩)
  (try go_wp2_with fail)
  refine hK.out _ _ (fun _ => by exact HH.out _ _ f2 h7) ?_
  clear hK K
  (try simp only [Act.put, List.setIfInBounds_toArray, List.set_cons_zero, List.set_cons_succ])
  have h8 := HH.out _ _ f2 h7
  have e8 := e7.trans f2
  refine Held.next (i := 25) (o := ?oa25) (by kernel_rfl) ?hia25 (fun K hK => ?sta25)
  case hia25 => (simp only [List.getElem?_toArray, List.getElem?_cons_succ, List.getElem?_cons_zero]; rfl)
  go_simp
  (go_at_call 67; refine (sameI_any R1 R2 sp.length p1 p2 _ _ sp _ rfl (by omega) ((own_sl o1).frm f2 (fun _ _ => id)) (own_sl o2)).mono ?_; rintro e v9 ⟨rfl, f3⟩)
  (try go_wp2_with fail)
  refine hK.out _ _ (fun _ => by exact HH.out _ _ f3 h8) ?_
  clear hK K
  (try simp only [Act.put, List.setIfInBounds_toArray, List.set_cons_zero, List.set_cons_succ])
  have h9 := HH.out _ _ f3 h8
  have e9 := e8.trans f3
  clear o1 o2 f1 f2 f3 h6 h7 h8 e6 e7 e8
  refine Held.take (i := 26) (oi := ?oa26) (v := ?va26) ?hia26 (by kernel_rfl) (by kernel_rfl) (by kernel_rfl) (by kernel_rfl) (fun _ _ _ h => h) (Or.inl ⟨?hwa26, ?hya26⟩) (by assumption) ?resta26
  case hia26 => (simp only [List.getElem?_toArray, List.getElem?_cons_succ, List.getElem?_cons_zero]; rfl)
  case hwa26 => rfl
  case hya26 => (intro w hSw; (try dsimp only at hSw); go_simp; try with_reducible rfl)
  (try simp only [Act.put, List.setIfInBounds_toArray, List.set_cons_zero, List.set_cons_succ])
  refine Held.take (i := 27) (oi := ?oa27) (v := ?va27) ?hia27 (by kernel_rfl) (by kernel_rfl) (by kernel_rfl) (by kernel_rfl) (fun _ _ _ h => h) (Or.inl ⟨?hwa27, ?hya27⟩) (by assumption) ?resta27
  case hia27 => (simp only [List.getElem?_toArray, List.getElem?_cons_succ, List.getElem?_cons_zero]; rfl)
  case hwa27 => rfl
  case hya27 => (intro w hSw; (try dsimp only at hSw); go_simp; try with_reducible rfl)
  (try simp only [Act.put, List.setIfInBounds_toArray, List.set_cons_zero, List.set_cons_succ])
  refine Held.take (i := 28) (oi := ?oa28) (v := ?va28) ?hia28 (by kernel_rfl) (by kernel_rfl) (by kernel_rfl) (by kernel_rfl) (fun _ _ _ h => h) (Or.inl ⟨?hwa28, ?hya28⟩) (by assumption) ?resta28
  case hia28 => (simp only [List.getElem?_toArray, List.getElem?_cons_succ, List.getElem?_cons_zero]; rfl)
  case hwa28 => rfl
  case hya28 => (intro w hSw; (try dsimp only at hSw); go_simp; try with_reducible rfl)
  (try simp only [Act.put, List.setIfInBounds_toArray, List.set_cons_zero, List.set_cons_succ])
  refine Held.take (i := 29) (oi := ?oa29) (v := ?va29) ?hia29 (by kernel_rfl) (by kernel_rfl) (by kernel_rfl) (by kernel_rfl) (fun _ _ _ h => h) (Or.inl ⟨?hwa29, ?hya29⟩) (by assumption) ?resta29
  case hia29 => (simp only [List.getElem?_toArray, List.getElem?_cons_succ, List.getElem?_cons_zero]; rfl)
  case hwa29 => rfl
  case hya29 => (intro w hSw; (try dsimp only at hSw); go_simp; try with_reducible rfl)
  (try simp only [Act.put, List.setIfInBounds_toArray, List.set_cons_zero, List.set_cons_succ])
  refine Held.take (i := 30) (oi := ?oa30) (v := ?va30) ?hia30 (by kernel_rfl) (by kernel_rfl) (by kernel_rfl) (by kernel_rfl) (fun _ _ _ h => h) (Or.inl ⟨?hwa30, ?hya30⟩) (by assumption) ?resta30
  case hia30 => (simp only [List.getElem?_toArray, List.getElem?_cons_succ, List.getElem?_cons_zero]; rfl)
  case hwa30 => rfl
  case hya30 => (intro w hSw; (try dsimp only at hSw); go_simp; try with_reducible rfl)
  (try simp only [Act.put, List.setIfInBounds_toArray, List.set_cons_zero, List.set_cons_succ])
  refine Held.take (i := 32) (oi := ?oa32) (v := ?va32) ?hia32 (by kernel_rfl) (by kernel_rfl) (by kernel_rfl) (by kernel_rfl) (fun _ _ _ h => h) (Or.inl ⟨?hwa32, ?hya32⟩) (by assumption) ?resta32
  case hia32 => (simp only [List.getElem?_toArray, List.getElem?_cons_succ, List.getElem?_cons_zero]; rfl)
  case hwa32 => rfl
  case hya32 => (intro w hSw; (try dsimp only at hSw); go_simp; try with_reducible rfl)
  (try simp only [Act.put, List.setIfInBounds_toArray, List.set_cons_zero, List.set_cons_succ])
  refine Held.take (i := 33) (oi := ?oa33) (v := ?va33) ?hia33 (by kernel_rfl) (by kernel_rfl) (by kernel_rfl) (by kernel_rfl) (fun _ _ _ h => h) (Or.inl ⟨?hwa33, ?hya33⟩) (by assumption) ?resta33
  case hia33 => (simp only [List.getElem?_toArray, List.getElem?_cons_succ, List.getElem?_cons_zero]; rfl)
  case hwa33 => rfl
  case hya33 => (intro w hSw; (try dsimp only at hSw); go_simp; try with_reducible rfl)
  (try simp only [Act.put, List.setIfInBounds_toArray, List.set_cons_zero, List.set_cons_succ])
  refine Held.next (i := 31) (o := ?oa31) (by kernel_rfl) ?hia31 (fun K hK => ?sta31)
  case hia31 => (simp only [List.getElem?_toArray, List.getElem?_cons_succ, List.getElem?_cons_zero]; rfl)
  go_simp
  (go_at_call 63; refine (K7.out _ e9).mono ?_; rintro e v10 ⟨R1, p1, rfl, o1, f1⟩)
  (try go_wp2_with fail)
  refine hK.out _ _ (fun _ => by exact HH.out _ _ f1 h9) ?_
  clear hK K
  (try simp only [Act.put, List.setIfInBounds_toArray, List.set_cons_zero, List.set_cons_succ])
  have h10 := HH.out _ _ f1 h9
  have e10 := e9.trans f1
  refine Held.next (i := 34) (o := ?oa34) (by kernel_rfl) ?hia34 (fun K hK => ?sta34)
  case hia34 => (simp only [List.getElem?_toArray, List.getElem?_cons_succ, List.getElem?_cons_zero]; rfl)
  go_simp
  (go_at_call 89; refine (K8.out _ e10).mono ?_; rintro e v11 ⟨R2, p2, rfl, o2, f2⟩)
  (try go_wp2_with fail)
  refine hK.out _ _ (fun _ => by exact HH.out _ _ f2 h10) ?_
  clear hK K
  (try simp only [Act.put, List.setIfInBounds_toArray, List.set_cons_zero, List.set_cons_succ])
  have h11 := HH.out _ _ f2 h10
  have e11 := e10.trans f2
  refine Held.next (i := 35) (o := ?oa35) (by kernel_rfl) ?hia35 (fun K hK => ?sta35)
  case hia35 => (simp only [List.getElem?_toArray, List.getElem?_cons_succ, List.getElem?_cons_zero]; rfl)
  go_simp
  (go_at_call 67; refine (sameI_any R1 R2 cn.length p1 p2 _ _ cn _ rfl (by omega) ((own_sl o1).frm f2 (fun _ _ => id)) (own_sl o2)).mono ?_; rintro e v12 ⟨rfl, f3⟩)
  (try go_wp2_with fail)
  refine hK.out _ _ (fun _ => by exact HH.out _ _ f3 h11) ?_
  clear hK K
  (try simp only [Act.put, List.setIfInBounds_toArray, List.set_cons_zero, List.set_cons_succ])
  have h12 := HH.out _ _ f3 h11
  have e12 := e11.trans f3
  clear o1 o2 f1 f2 f3 h9 h10 h11 e9 e10 e11
  refine Held.take (i := 36) (oi := ?oa36) (v := ?va36) ?hia36 (by kernel_rfl) (by kernel_rfl) (by kernel_rfl) (by kernel_rfl) (fun _ _ _ h => h) (Or.inl ⟨?hwa36, ?hya36⟩) (by assumption) ?resta36
  case hia36 => (simp only [List.getElem?_toArray, List.getElem?_cons_succ, List.getElem?_cons_zero]; rfl)
  case hwa36 => rfl
  case hya36 => (intro w hSw; (try dsimp only at hSw); go_simp; try with_reducible rfl)
  (try simp only [Act.put, List.setIfInBounds_toArray, List.set_cons_zero, List.set_cons_succ])
  refine Held.take (i := 37) (oi := ?oa37) (v := ?va37) ?hia37 (by kernel_rfl) (by kernel_rfl) (by kernel_rfl) (by kernel_rfl) (fun _ _ _ h => h) (Or.inl ⟨?hwa37, ?hya37⟩) (by assumption) ?resta37
  case hia37 => (simp only [List.getElem?_toArray, List.getElem?_cons_succ, List.getElem?_cons_zero]; rfl)
  case hwa37 => rfl
  case hya37 => (intro w hSw; (try dsimp only at hSw); go_simp; try with_reducible rfl)
  (try simp only [Act.put, List.setIfInBounds_toArray, List.set_cons_zero, List.set_cons_succ])
  refine Held.take (i := 38) (oi := ?oa38) (v := ?va38) ?hia38 (by kernel_rfl) (by kernel_rfl) (by kernel_rfl) (by kernel_rfl) (fun _ _ _ h => h) (Or.inl ⟨?hwa38, ?hya38⟩) (by assumption) ?resta38
  case hia38 => (simp only [List.getElem?_toArray, List.getElem?_cons_succ, List.getElem?_cons_zero]; rfl)
  case hwa38 => rfl
  case hya38 => (intro w hSw; (try dsimp only at hSw); go_simp; try with_reducible rfl)
  (try simp only [Act.put, List.setIfInBounds_toArray, List.set_cons_zero, List.set_cons_succ])
  refine Held.take (i := 39) (oi := ?oa39) (v := ?va39) ?hia39 (by kernel_rfl) (by kernel_rfl) (by kernel_rfl) (by kernel_rfl) (fun _ _ _ h => h) (Or.inl ⟨?hwa39, ?hya39⟩) (by assumption) ?resta39
  case hia39 => (simp only [List.getElem?_toArray, List.getElem?_cons_succ, List.getElem?_cons_zero]; rfl)
  case hwa39 => rfl
  case hya39 => (intro w hSw; (try dsimp only at hSw); go_simp; try with_reducible rfl)
  (try simp only [Act.put, List.setIfInBounds_toArray, List.set_cons_zero, List.set_cons_succ])
  refine Held.take (i := 41) (oi := ?oa41) (v := ?va41) ?hia41 (by kernel_rfl) (by kernel_rfl) (by kernel_rfl) (by kernel_rfl) (fun _ _ _ h => h) (Or.inl ⟨?hwa41, ?hya41⟩) (by assumption) ?resta41
  case hia41 => (simp only [List.getElem?_toArray, List.getElem?_cons_succ, List.getElem?_cons_zero]; rfl)
  case hwa41 => rfl
  case hya41 => (intro w hSw; (try dsimp only at hSw); go_simp; try with_reducible rfl)
  (try simp only [Act.put, List.setIfInBounds_toArray, List.set_cons_zero, List.set_cons_succ])
  refine Held.next (i := 40) (o := ?oa40) (by kernel_rfl) ?hia40 (fun K hK => ?sta40)
  case hia40 => (simp only [List.getElem?_toArray, List.getElem?_cons_succ, List.getElem?_cons_zero]; rfl)
  go_simp
  (go_at_call 62; refine (K9.out _ e12).mono ?_; rintro e v13 ⟨rfl, f1⟩)
  (try go_wp2_with fail)
  refine hK.out _ _ (fun _ => by exact HH.out _ _ f1 h12) ?_
  clear hK K
  (try simp only [Act.put, List.setIfInBounds_toArray, List.set_cons_zero, List.set_cons_succ])
  have h13 := HH.out _ _ f1 h12
  have e13 := e12.trans f1
  refine Held.next (i := 42) (o := ?oa42) (by kernel_rfl) ?hia42 (fun K hK => ?sta42)
  case hia42 => (simp only [List.getElem?_toArray, List.getElem?_cons_succ, List.getElem?_cons_zero]; rfl)
  go_simp
  (go_at_call 90; refine (K10.out _ e13).mono ?_; rintro e v14 ⟨rfl, f2⟩)
  (try go_wp2_with fail)
  refine hK.out _ _ (fun _ => by exact HH.out _ _ f2 h13) ?_
  clear hK K
  (try simp only [Act.put, List.setIfInBounds_toArray, List.set_cons_zero, List.set_cons_succ])
  have h14 := HH.out _ _ f2 h13
  have e14 := e13.trans f2
  refine Held.take (i := 43) (oi := ?oa43) (v := ?va43) ?hia43 (by kernel_rfl) (by kernel_rfl) (by kernel_rfl) (by kernel_rfl) (fun _ _ _ h => h) (Or.inl ⟨?hwa43, ?hya43⟩) (by assumption) ?resta43
  case hia43 => (simp only [List.getElem?_toArray, List.getElem?_cons_succ, List.getElem?_cons_zero]; rfl)
  case hwa43 => rfl
  case hya43 => (intro w hSw; (try dsimp only at hSw); go_simp; try with_reducible rfl)
  (try simp only [Act.put, List.setIfInBounds_toArray, List.set_cons_zero, List.set_cons_succ])
  refine Held.take (i := 44) (oi := ?oa44) (v := ?va44) ?hia44 (by kernel_rfl) (by kernel_rfl) (by kernel_rfl) (by kernel_rfl) (fun _ _ _ h => h) (Or.inl ⟨?hwa44, ?hya44⟩) (by assumption) ?resta44
  case hia44 => (simp only [List.getElem?_toArray, List.getElem?_cons_succ, List.getElem?_cons_zero]; rfl)
  case hwa44 => rfl
  case hya44 => (intro w hSw; (try dsimp only at hSw); go_simp; try with_reducible rfl)
  (try simp only [Act.put, List.setIfInBounds_toArray, List.set_cons_zero, List.set_cons_succ])
  refine Held.done (by kernel_rfl) ?_ _
  refine NoPanic.normal ?_
  have hba14 := hba6.frm e14 id
  have hA14 := hA6.frm e14 (fun _ _ => id)
  have hB14 := hB6.frm e14 (fun _ _ => id)
  have hf014 := hf06.trans e14
  clear hH0 hHeld HH h12 h13 h14 e0 e12 e13 e14 f1 f2 K1 K2 K3 K4 K5 K6 K7 K8 K9 K10 hin hba6 hA6 hB6 hf06 HNL HEL hcl hsl
  go_wp2_with fail
  refine (new_any E0 rfl 4 v14).mono ?_
  rintro e u1 ⟨gb, fp, rfl, hG, hfp, g1⟩
  go_wp2_with fail
  refine (xnew_any 4 u1).mono ?_
  rintro e u2 ⟨rfl, hX, g2, hsz⟩
  have hP0 : Pr E0 (fun k => k < v14.heap.size) u2 gb ⟨clamp 4, [], 0⟩ u1.heap.size ⟨clamp 4, [], 0⟩ := pr_new2 hG hfp g1 hX g2 hsz
  rw [show clamp 4 = 4 from by decide +kernel] at hP0
  have g02 := g1.trans g2
  clear hG hfp hX g1 g2 hsz
  generalize u1.heap.size = gx at *
  obtain ⟨D, hD⟩ : ∃ D : List Int, D = z2.map (fun y => y % 10) := ⟨_, rfl⟩
  have hDl : D.length = len2 := by rw [hD]; simpa using HZ2.out
  have hDk : ∀ j, j < len2 → D[j]? = some (z2.getD j 0 % 10) := by intro j hj; rw [hD, List.getElem?_map]; have h := HZ2.out; simp [List.getD, show j < z2.length by omega]
  have hDx : ∀ y ∈ D, isL y 4 = true := by
    intro y hy
    rw [hD] at hy
    obtain ⟨u, _, rfl⟩ := List.mem_map.1 hy
    exact isL_emod u 4
  have HDL := Lib.hid hDl
  have HDK := Lib.hid hDk
  have HDX := Lib.hid hDx
  clear hD hDl hDk hDx
  have hs14 := hf014.size
  have hsu2 := g02.size
  go_wp2_with fail
  go_loopw [18, 19] (fun tv iv wr => ∃ (j : Nat) (Ap : Option Addr) (cp : Nat), j ≤ len2 ∧ iv = .int .i64 j ∧ tv = .slice Ap j cp ∧ wr.ownsRow u2.heap.size 3 1 (.slice Ap j cp) j ((D.map (.int .i64)).take j) ∧ Frm (fun _ => False) u2 wr) (fun _ iv _ => len2 - (intOf iv).toNat)
  case atStart => exact ⟨0, none, 0, by omega, rfl, rfl, by simpa using World.ownsRow_nil _ _ _ _, Frm.refl _ _⟩
  case round =>
    obtain ⟨j, Ap, cp, hj, rfl, rfl, hown, hfk⟩ := hrel
    by_cases hlt : j < len2
    · obtain ⟨bk, o, u, rfl, _, hu, hcell⟩ := (s2.frm ((hf014.trans g02).trans hfk) (fun _ _ => id)).at_ hlt
      obtain rfl := at_getD hu
      have hdk := HDK.out j hlt
      have HDD := Lib.hid hdk
      clear hu hdk
      generalize z2.getD j 0 = q at *
      have k0 : (0 : Int) ≤ j := by omega
      have k1 : (j : Int) < len2 := by omega
      have hsk := hfk.size
      go_wp2_with fail
      refine (number_any q 10 _ (by omega) (by omega)).mono ?_
      rintro e w' ⟨rfl, rfl⟩
      generalize q % 10 = X at *
      go_wp2_with (at_builtin; refine wpList_append_own _ rfl (.tmp 129) (.tmp 135) 22 rfl u2.heap.size 3 j0 (.int .i64 0) 1 8 Tryd.underlying22 hj0 hq0 hq1 hq2 rfl (by decide) _ _ _ rfl (hown.alloc (.cells #[.int .i64 X] 3)) ⟨wr.heap.size, 0, none⟩ 1 1 [.int .i64 X] rfl rfl (cell_one_new _ _ _) ?c2 ?c3 ?c4 ?c5 ?_)
      case c2 => intro u hu; simp at hu; subst hu; rfl
      case c3 => unfold maxLen; omega
      case c4 => omega
      case c5 => simp; omega
      intro v' w9 hown9 hgrow _
      have hfk9 : Frm (fun _ => False) u2 w9 := (hfk.alloc (.cells #[.int .i64 X] 3)).grown hgrow (fun g hg hlt => by have := (hown.lt g hg).1; omega)
      obtain ⟨A3, c3, rfl, hownN⟩ := own_nextD (D := D) HDD.out hown9
      clear hown hown9 hgrow hcell hfk
      go_wp2_with fail
      go_roundw
      case rel => exact ⟨j + 1, A3, c3, by omega, by go_num, rfl, hownN, hfk9⟩
      case measure => simp [intOf]; omega
    · obtain rfl : len2 = j := by omega
      rw [List.take_of_length_le (by rw [List.length_map, HDL.out]; omega)] at hown
      have hsl := own_sl hown
      have hP9 := Pr.wide (K' := fun k => k < v14.heap.size ∨ (u2.heap.size ≤ k ∧ k < wr.heap.size)) hP0 hfk (fun k hk => hk)
      have hf14 := g02.trans hfk
      have hf09 := hf014.trans hf14
      have hA9 := (hA14.mono (G := fun k => k < v14.heap.size) (fun k hk _ => hk)).frm hf14 (fun _ _ => id)
      have hB9 := (hB14.mono (G := fun k => k < v14.heap.size) (fun k hk _ => hk)).frm hf14 (fun _ _ => id)
      have hba9 := hba14.frm hf14 id
      have hDX4 : ∀ y ∈ D, isL y (Gr.len ⟨4, [], 0⟩) = true := HDX.out
      have hdl := HDL.out
      have hcu := copy_up (Made.nil 4) (n := i) (L := L) (l := y) hDX4 (by show 4 + 0 + L.length < 8000; omega)
      have HC1 := Lib.hid (pr_call hP9 (fun K' hK hO => on_copy_all hO i L A L.length c B l.length d l y Ap len2 cp D _ _ _ (Made.nil 4) (by show 4 + 0 + L.length < 8000; omega) rfl rfl HDL.out HR.out (by omega) (by omega) (by omega) (by omega) HL.out HY.out hDX4 hA9 hB9 hsl (fun k hk => hK k (.inl hk))))
      have HC2 := Lib.hid (fun (W : World) (hf : Frm (fun k => ¬ (k < v14.heap.size ∨ (u2.heap.size ≤ k ∧ k < wr.heap.size))) wr W) (hP : Pr E0 (fun k => k < v14.heap.size ∨ (u2.heap.size ≤ k ∧ k < wr.heap.size)) W gb (copyG ⟨4, [], 0⟩ i L y D).2 gx ⟨4, [], 0⟩) => pr_callX hP (fun K' hK hO => rcopy_any hO i L A L.length c B l.length d y Ap len2 cp D _ _ (Made.nil 4) (by show 4 + 0 + L.length < 8000; omega) rfl HDL.out HR.out (by omega) (by omega) (by omega) HY.out hDX4 (hA9.frm hf (fun k hk h => h (.inl hk))) (hsl.frm hf (fun k hk h => h (.inr hk))) (fun k hk => hK k (.inl hk))))
      have hnum := hcu.1.num
      have hhi := hcu.1.high
      have hv5 : w5.heap.size < v14.heap.size := hba14.lt
      have b0 := hba9.at_ 0 rfl
      have b1 := hba9.at_ 1 rfl
      have b2 := hba9.at_ 2 rfl
      clear hcu hP0 hown hA14 hB14 hba14 hf14
      generalize copyG ⟨4, [], 0⟩ i L y D = R at *
      obtain ⟨r, gr⟩ := R
      simp only at HC1 HC2 hnum hhi
      have hga : gr.ands.length ≤ 1000 := by
        have h9 : gr.len = gr.n + gr.ands.length := rfl
        have h8 : Gr.len ⟨4, [], 0⟩ = 4 := rfl
        omega
      go_wp2_with fail
      refine HC1.out.mono ?_
      rintro e u3 ⟨rfl, hP3, g3⟩
      have hba3 := hba9.frm g3 (fun h => h (.inl hv5))
      have hf3 := frm_kept hf09 g3 (fun k hk => .inl (by omega))
      have b0' := hba3.at_ 0 rfl
      have b1' := hba3.at_ 1 rfl
      have b2' := hba3.at_ 2 rfl
      clear b0 b1 b2
      go_wp2_with fail
      refine (HC2.out _ g3 hP3).mono ?_
      rintro e u4 ⟨rfl, hP4, g4⟩
      have hf4 := frm_kept hf3 g4 (fun k hk => .inl (by omega))
      clear HC1 HC2 hP3 hP9 g3 hf3 hf09 hba3 hba9 b0' b1' b2' hA9 hB9 hsl
      have h4a := (Frm.refl (fun _ => False) u4).alloc (.cells #[.int .i64 r] 3)
      have hP5 := hP4.frm h4a
      have HCI := Lib.hid (on_circuit hP5.on (some ⟨u4.heap.size, 0, none⟩) 1 1 _ [r] rfl (by omega) ((Blk.new u4 3 [.int .i64 r]).sl 1 1 rfl))
      go_wp2_with fail
      refine HCI.out.mono ?_
      rintro e u5 ⟨v5', rfl, hC5, g5⟩
      have h5a := (Frm.refl (fun _ => False) u5).alloc (.cells #[.int .i64 r] 3)
      have hP6 := (hP5.frm g5).frm h5a
      have HXI := Lib.hid (onx_circuit hP6.onx (some ⟨u5.heap.size, 0, none⟩) 1 1 _ [r] rfl (by omega) ((Blk.new u5 3 [.int .i64 r]).sl 1 1 rfl))
      have hf5 := ((hf4.trans h4a).trans g5).trans h5a
      go_wp2_with fail
      refine HXI.out.mono ?_
      rintro e u6 ⟨v6', rfl, hC6, g6⟩
      have HSC := Lib.hid (sameCircuit_any (by omega) (by simp) ((hC5.frm h5a (fun _ _ => id)).frm g6 (fun _ _ => id)) hC6)
      have hf6 := hf5.trans g6
      go_wp2_with fail
      refine HSC.out.mono ?_
      rintro e u7 ⟨rfl, g7⟩
      go_wp2_with fail
      go_ret
      exact ⟨ret_bool (by simp), hf6.trans g7⟩

set_option maxRecDepth 100000 in
set_option maxHeartbeats 8000000 in
theorem lsl_out (i : Int) (a0 : Option Addr) (len0 cap0 : Nat) (a1 : Option Addr) (len1 cap1 : Nat) (x lit : Int) (a2 : Option Addr) (len2 cap2 : Nat) (w : World)
    (h : ¬ (len0 ≤ 120 ∧ len1 ≤ 20 ∧ len2 ≤ 40 ∧ 0 ≤ i ∧ i ≤ 30)) :
    Calls Tryd.prog 19 #[.int .i64 i, .slice a0 len0 cap0, .slice a1 len1 cap1, .int .i64 x, .int .i64 lit, .slice a2 len2 cap2] w fun e w' => e = .returned (.bool true) ∧ Frm (fun _ => False) w w' := by
  have HN := Lib.hid h
  clear h
  by_cases g0 : (120 : Int) < len0
  · skip
    go_enter Tryd.func19, Tryd.ntmps19
    go_wp2_with fail
    refine (first10_any _).mono ?_
    rintro e w1 ⟨rfl, hf1⟩
    go_wp2_with fail
    go_ret
    exact ⟨rfl, hf1⟩
  · skip
    by_cases g1 : (20 : Int) < len1
    · skip
      go_enter Tryd.func19, Tryd.ntmps19
      go_wp2_with fail
      refine (first10_any _).mono ?_
      rintro e w1 ⟨rfl, hf1⟩
      go_wp2_with fail
      go_ret
      exact ⟨rfl, hf1⟩
    · skip
      by_cases g2 : (40 : Int) < len2
      · skip
        go_enter Tryd.func19, Tryd.ntmps19
        go_wp2_with fail
        refine (first10_any _).mono ?_
        rintro e w1 ⟨rfl, hf1⟩
        go_wp2_with fail
        go_ret
        exact ⟨rfl, hf1⟩
      · skip
        by_cases g3 : i < 0
        · skip
          go_enter Tryd.func19, Tryd.ntmps19
          go_wp2_with fail
          refine (first10_any _).mono ?_
          rintro e w1 ⟨rfl, hf1⟩
          go_wp2_with fail
          go_ret
          exact ⟨rfl, hf1⟩
        · skip
          have g4 : 30 < i := by have := HN.out; omega
          go_enter Tryd.func19, Tryd.ntmps19
          go_wp2_with fail
          refine (first10_any _).mono ?_
          rintro e w1 ⟨rfl, hf1⟩
          go_wp2_with fail
          go_ret
          exact ⟨rfl, hf1⟩

theorem lsl_law (i : Int) (_ : (Lit.int .i64 i).wf = true)
    (a0 : Option Addr) (len0 cap0 : Nat) (z0 : List Int) (hz0 : z0.length = len0) {w0 : World} (s0 : Sl w0 (fun k => k < w0.heap.size) 1 (.slice a0 len0 cap0) len0 (z0.map (.int .i64))) (_ : ∀ n ∈ z0, (Lit.int .i64 n).wf = true)
    (a1 : Option Addr) (len1 cap1 : Nat) (z1 : List Int) (hz1 : z1.length = len1) (s1 : Sl w0 (fun k => k < w0.heap.size) 1 (.slice a1 len1 cap1) len1 (z1.map (.int .i64))) (_ : ∀ n ∈ z1, (Lit.int .i64 n).wf = true)
    (x : Int) (_ : (Lit.int .i64 x).wf = true) (lit : Int) (_ : (Lit.int .i64 lit).wf = true)
    (a2 : Option Addr) (len2 cap2 : Nat) (z2 : List Int) (hz2 : z2.length = len2) (s2 : Sl w0 (fun k => k < w0.heap.size) 1 (.slice a2 len2 cap2) len2 (z2.map (.int .i64))) (_ : ∀ n ∈ z2, (Lit.int .i64 n).wf = true)
    (w : World) (e : w = w0) :
    Calls Tryd.prog 19 #[.int .i64 i, .slice a0 len0 cap0, .slice a1 len1 cap1, .int .i64 x, .int .i64 lit, .slice a2 len2 cap2] w fun e w' => e = .returned (.bool true) ∧ Frm (fun _ => False) w w' := by
  subst e
  by_cases h : len0 ≤ 120 ∧ len1 ≤ 20 ∧ len2 ≤ 40 ∧ 0 ≤ i ∧ i ≤ 30
  · obtain ⟨n, rfl⟩ : ∃ n : Nat, i = n := ⟨i.toNat, by omega⟩
    exact lsl_any n a0 len0 cap0 z0 hz0 a1 len1 cap1 z1 hz1 x lit a2 len2 cap2 z2 hz2 w s0 s1 s2 h.1 h.2.1 h.2.2.1 (by omega)
  · exact lsl_out i a0 len0 cap0 a1 len1 cap1 x lit a2 len2 cap2 w h

end Go.Proofs.YtkjlgamggkencaaDoor
