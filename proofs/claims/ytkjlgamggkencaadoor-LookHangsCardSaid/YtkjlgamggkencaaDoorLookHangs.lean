/-
  The walk of LookHangs.
-/
import Derived.Test.YtkjlgamggkencaaDoorLookDepths
import Derived.Test.YtkjlgamggkencaaDoorLookHangsP
import Derived.Deep.Cut
import Derived.Deep.CutRange
namespace Go.Proofs.YtkjlgamggkencaaDoor
open Go.RowKit

/-- an owned row of pairs, one of them turned -/
theorem own_set2 {w : World} {g base n cap i : Nat} {e : TypeId} {L : List (Int × Int)} (h : w.ownsRow base e 2 (.slice (some ⟨g, 0, none⟩) n cap) n (pairs L)) (p : Int × Int) (hi : i < L.length) :
    ((w.setCell ⟨g, i * 2, none⟩ (.int .i64 p.1)).setCell ⟨g, i * 2 + 1, none⟩ (.int .i64 p.2)).ownsRow base e 2 (.slice (some ⟨g, 0, none⟩) n cap) n (pairs (L.set i p)) := by
  have hp : ∀ (L : List (Int × Int)) (i : Nat), i < L.length → pairs (L.set i p) = ((pairs L).set (i * 2) (.int .i64 p.1)).set (i * 2 + 1) (.int .i64 p.2) := by
    intro L
    induction L with
    | nil => intro i hi; simp at hi
    | cons x r ih =>
      intro i hi
      have he : ∀ (x : Int × Int) r, pairs (x :: r) = .int .i64 x.1 :: .int .i64 x.2 :: pairs r := by intro x r; simp [pairs]
      cases i with
      | zero => rw [List.set_cons_zero, he, he]; rfl
      | succ i =>
        rw [List.set_cons_succ, he, he, ih i (by simpa using hi), show (i + 1) * 2 = i * 2 + 1 + 1 from by omega]
        rfl
  obtain ⟨hl, h⟩ := h
  refine ⟨by rw [pairs_length, List.length_set, ← pairs_length]; exact hl, ?_⟩
  rcases h with ⟨h, _⟩ | ⟨g', cap', cur, he, hb, hg, h1, h2, h3, h4⟩
  · cases h
  · cases he
    refine .inr ⟨g, cap, (cur.setIfInBounds (i * 2) (.int .i64 p.1)).setIfInBounds (i * 2 + 1) (.int .i64 p.2), rfl, hb, ?_, h1, h2, by simpa using h3, ?_⟩
    · simp [World.setCell, Array.getElem?_modify, hg]
    · rw [Array.toList_setIfInBounds, Array.toList_setIfInBounds, List.take_set, List.take_set, h4, hp L i hi]
theorem own_free2 {w : World} {g base n cap : Nat} {e : TypeId} {xs : List Value} (h : w.ownsRow base e 2 (.slice (some ⟨g, 0, none⟩) n cap) n xs) (i : Nat) : w.frozen? ⟨g, i, none⟩ = false := by
  rcases h.2 with ⟨h, _⟩ | ⟨g', cap', cur, he, hb, hg, _⟩
  · cases h
  · cases he; simp [World.frozen?, hg]

theorem own_sl_at {w : World} {F : Nat → Prop} {g c : Nat} {b : Bool} (h : Sl w F 1 (.slice (some ⟨g, 0, none⟩) 1 c) 1 ([b].map .bool)) : w.cell? ⟨g, 0, none⟩ = some (.bool b) := by
  obtain ⟨b', o, u, e, _, hu, hc⟩ := h.at_ (k := 0) (by omega)
  cases e
  simp at hu
  subst hu
  simpa using hc
theorem own_ptr2 {w : World} {base n c : Nat} {e : TypeId} {A : Option Addr} {xs : List Value} (h : w.ownsRow base e 2 (.slice A n c) n xs) (hn : 0 < n) : ∃ g, A = some ⟨g, 0, none⟩ ∧ base ≤ g := by
  rcases h.2 with ⟨_, h⟩ | ⟨g, cap, cur, he, hb, _⟩
  · omega
  · cases he; exact ⟨g, rfl, hb⟩

set_option maxRecDepth 100000 in
set_option maxHeartbeats 8000000 in
theorem lhl_any (a0 : Option Addr) (len0 cap0 : Nat) (z0 : List Int) (hz0 : z0.length = len0) (lit nv k : Int) (w : World)
    (s0 : Sl w (fun k => k < w.heap.size) 1 (.slice a0 len0 cap0) len0 (z0.map (.int .i64))) (h0 : len0 ≤ 80) :
    Calls Tryd.prog 16 #[.slice a0 len0 cap0, .int .i64 lit, .int .i64 nv, .int .i64 k] w fun e w' => e = .returned (.bool true) ∧ Frm (fun _ => False) w w' := by
  have t0 : decide ((80 : Int) < (len0 : Int)) = false := by simp; omega
  have hlm : (mkAnds 12 z0).length ≤ 40 := by rw [mkAnds_length]; omega
  have hr := mkAnds_right 12 z0
  have HMK := Lib.hid (fun W (hf : Frm (fun _ => False) w W) => make_any 12 a0 len0 cap0 z0 hz0 none 0 0 [] rfl _ (fun _ => False) W (s0.frm hf (fun _ _ => id)) (Sl.nil_ _ _ _) (by omega) (by omega) (by omega))
  have HR := Lib.hid hr
  clear hz0 s0 hr
  generalize mkAnds 12 z0 = L at *
  have hmo : mkOuts 12 z0 [] = [] := rfl
  rw [hmo] at HMK
  clear hmo
  go_enter Tryd.func16, Tryd.ntmps16
  go_wp2_with fail
  refine (first10_any w).mono ?_
  rintro e w1 ⟨rfl, hf1⟩
  go_wp2_with fail
  refine (HMK.out w1 hf1).mono ?_
  rintro e w5 ⟨v, rfl, ⟨A, c, B, d, rfl, hA, hB⟩, hf5⟩
  clear HMK
  have hf05 := hf1.trans hf5
  have hfa := (Frm.refl (fun _ => False) w5).alloc (.cells #[.int .i64 12, .slice A L.length c, .slice B 0 d] 40)
  have hba : Blk (w5.alloc (.cells #[.int .i64 12, .slice A L.length c, .slice B 0 d] 40)) w5.heap.size 40 [.int .i64 12, .slice A L.length c, .slice B 0 d] := Blk.new _ _ _
  have hA1 := (hA.mono (G := fun k => k < w5.heap.size) (fun k hk _ => hk)).frm hfa (fun _ _ => id)
  have hf06 := hf05.trans hfa
  have b1 := hba.at_ 1 rfl
  have hs5 := hf05.size
  have wa : IntKind.i64.wrap (12 + (L.length : Int)) = 12 + (L.length : Int) := IntWalk.i64_in _ (by omega)
  have wb : IntKind.i64.wrap (2 * (12 + (L.length : Int))) = 2 * (12 + (L.length : Int)) := IntWalk.i64_in _ (by omega)
  have wc : IntKind.i64.wrap (2 * (12 + (L.length : Int)) + 2) = 2 * (12 + (L.length : Int)) + 2 := IntWalk.i64_in _ (by omega)
  simp only [List.length_nil]
  clear hf1 hf5 hf05 hA hB
  go_wp2_with fail
  refine (number_any lit (2 * (12 + (L.length : Int)) + 2) _ (by omega) (by omega)).mono ?_
  rintro e w' ⟨rfl, rfl⟩
  have hx : isL (lit % (2 * (12 + (L.length : Int)) + 2)) (12 + L.length) = true := by
    have := isL_emod lit (12 + L.length)
    rwa [show 2 * ((12 + L.length : Nat) : Int) + 2 = 2 * (12 + (L.length : Int)) + 2 from by omega] at this
  generalize lit % (2 * (12 + (L.length : Int)) + 2) = x at *
  go_wp2_with fail
  refine (number_any k 12 _ (by omega) (by omega)).mono ?_
  rintro e w' ⟨rfl, rfl⟩
  obtain ⟨K, hK, hKl⟩ := emod_nat k (m := 12) (by omega)
  rw [show k % 12 = (K : Int) from hK]
  clear hK
  obtain ⟨W5, hW5⟩ : ∃ W5, W5 = w5.alloc (.cells #[.int .i64 12, .slice A L.length c, .slice B 0 d] 40) := ⟨_, rfl⟩
  have hlt5 : w5.heap.size < W5.heap.size := by rw [hW5]; simp
  rw [← hW5] at hba hA1 hf06 b1
  simp only [← hW5]
  clear hW5 hfa wa wb wc
  have HX := Lib.hid hx
  clear hx
  obtain ⟨hbA, hbx, hset⟩ := out_set hba [.int .i64 x] 1
  obtain ⟨c2, z2⟩ := out_cell hba (.cells #[.int .i64 x] 3)
  have hA2 := hA1.frm hset (fun g hg e => by omega)
  have hf2 := hf06.then' hset (fun g hg e => by omega)
  have hxs := hbx.sl 1 1 rfl
  have hlx := hbx.lt
  clear hset hba hf06 hA1 hbx
  have HV := Lib.hid (fun (W : World) => values_any nv 12 (by omega) W)
  have hinl := mkVals_length nv 12
  generalize mkVals nv 12 = inp at *
  go_wp2_with fail
  refine (HV.out _).mono ?_
  rintro e w6 ⟨Ai, ci, rfl, hown6, hf6⟩
  clear HV c2 z2
  obtain ⟨gi, rfl, hgi⟩ := own_ptr hown6 (by omega)
  have hb6 := hbA.frm hf6 id
  have hA6 := hA2.frm hf6 (fun _ _ => id)
  have hx6 := hxs.frm hf6 (fun _ _ => id)
  have hf06 := hf2.trans hf6
  have hHL : ∀ y ∈ [x], isL y (12 + L.length) = true := by intro y hy; simp at hy; subst hy; exact HX.out
  have HLL := Lib.hid hHL
  have HEV := Lib.hid (leval_any 12 L A L.length c (some ⟨W5.heap.size, 0, none⟩) 1 1 [x] (some ⟨gi, 0, none⟩) 12 ci inp _ _ _ w6 rfl rfl hinl HR.out (by omega) (by omega) (by omega) (by omega) hHL hA6 hx6 (own_sl hown6))
  rw [show evalOuts (nodes 12 L inp) [x] = [worth (nodes 12 L inp) x] from rfl] at HEV
  have d0 := hb6.at_ 0 rfl
  have d1 := hb6.at_ 1 rfl
  have d2 := hb6.at_ 2 rfl
  clear hbA hA2 hxs hf2 hf6 hHL
  go_wp2_with fail
  refine HEV.out.mono ?_
  rintro e w7 ⟨Av, cv7, rfl, hown7, hf7⟩
  obtain ⟨ga, rfl, hga⟩ := own_ptr hown7 (by omega)
  have hb7 := hb6.frm hf7 id
  have hA7 := hA6.frm hf7 (fun _ _ => id)
  have hx7 := hx6.frm hf7 (fun _ _ => id)
  have hf07 := hf06.trans hf7
  have hown6' := own_frm hown6 hf7 (fun _ _ => id)
  have hlt6 := (hown6.lt gi rfl).2
  have hcell := own_at hown6' (bools_at (l := inp) (k := K) (by omega))
  have hfree := own_free hown6' K
  have hown8 := own_set hown6' (i := K) (.bool (!inp.getD K false))
  rw [← List.map_set] at hown8
  have hnot := fun hk => hangs_not HR.out HX.out (inp := inp) (k := K) hk (!inp.getD K false)
  have hnl8 : (inp.set K (!inp.getD K false)).length = 12 := by simpa using hinl
  clear HEV hb6 hA6 hx6 hf06 hf7 hown6 hown6' d0 d1 d2
  generalize inp.set K (!inp.getD K false) = inp2 at *
  generalize inp.getD K false = zk at *
  have HNOT := Lib.hid hnot
  clear hnot
  have hset : Frm (fun k => k = gi) w7 (w7.setCell ⟨gi, K, none⟩ (.bool !zk)) := (Frm.refl (fun k => k = gi) w7).setCell (p := ⟨gi, K, none⟩) (fun _ => rfl) _
  have hb8 := hb7.frm hset (by omega)
  have hA8 := hA7.frm hset (fun g hg e => by omega)
  have hx8 := hx7.frm hset (fun g hg e => by omega)
  have hf08 := hf07.then' hset (fun g hg e => by omega)
  have hown7' := own_frm hown7 hset (fun g hg e => by have := (hown7.lt g hg).1; omega)
  have d0 := hb8.at_ 0 rfl
  have d1 := hb8.at_ 1 rfl
  have d2 := hb8.at_ 2 rfl
  have j0 : (0 : Int) ≤ K := by omega
  have j1 : (K : Int) < 12 := by omega
  have HEV := Lib.hid (leval_any 12 L A L.length c (some ⟨W5.heap.size, 0, none⟩) 1 1 [x] (some ⟨gi, 0, none⟩) 12 ci inp2 _ _ _ _ rfl rfl hnl8 HR.out (by omega) (by omega) (by omega) (by omega) HLL.out hA8 hx8 (own_sl hown8))
  rw [show evalOuts (nodes 12 L inp2) [x] = [worth (nodes 12 L inp2) x] from rfl] at HEV
  clear hb7 hA7 hx7 hf07 hset hown7
  go_wp2_with fail
  refine HEV.out.mono ?_
  rintro e w9 ⟨Ab, cb9, rfl, hown9, hf9⟩
  obtain ⟨gb, rfl, hgb⟩ := own_ptr hown9 (by omega)
  have hb9 := hb8.frm hf9 id
  have hA9 := hA8.frm hf9 (fun _ _ => id)
  have hx9 := hx8.frm hf9 (fun _ _ => id)
  have hin9 := (own_sl hown8).frm hf9 (fun _ _ => id)
  have hva9 := (own_sl hown7').frm hf9 (fun _ _ => id)
  have hvb9 := own_sl hown9
  have hf09 := hf08.trans hf9
  have HSU := Lib.hid (supp_any 12 L A L.length c (some ⟨W5.heap.size, 0, none⟩) 1 1 [x] x _ _ w9 rfl rfl HR.out (by omega) (by omega) (by omega) HLL.out HX.out hA9 hx9)
  have hsl := suppOf_length (marksL 12 L x) 12
  have hms := mem_supp (n := 12) (L := L) (l := x) hKl
  rw [show suppOf (marksL 12 L x) 12 = suppL 12 L x from rfl] at hsl
  have HMS := Lib.hid hms
  have e0 := hb9.at_ 0 rfl
  have e1 := hb9.at_ 1 rfl
  have e2 := hb9.at_ 2 rfl
  clear HEV hb8 hA8 hx8 hown8 hown7' hown9 hf08 hf9 d0 d1 d2 hms
  generalize suppL 12 L x = SU at *
  go_wp2_with fail
  refine HSU.out.mono ?_
  rintro e w10 ⟨As, cs, rfl, hown10, hf10⟩
  have hb10 := hb9.frm hf10 id
  have hA10 := hA9.frm hf10 (fun _ _ => id)
  have hx10 := hx9.frm hf10 (fun _ _ => id)
  have hin10 := hin9.frm hf10 (fun _ _ => id)
  have hva10 := hva9.frm hf10 (fun _ _ => id)
  have hvb10 := hvb9.frm hf10 (fun _ _ => id)
  have hsu10 := own_sl hown10
  have hf010 := hf09.trans hf10
  have HCO := Lib.hid (cone_any 12 L A L.length c (some ⟨W5.heap.size, 0, none⟩) 1 1 [x] x _ _ w10 rfl rfl HR.out (by omega) (by omega) (by omega) HLL.out HX.out hA10 hx10)
  have hcl : (coneL 12 L x).length ≤ 40 := by have := coneOf_length 12 (marksL 12 L x) L.length; unfold coneL; omega
  have hsw := spoil_worth (n := 12) (by omega) HR.out HX.out inp2
  have hsr := fun j => spoil_right (C := coneL 12 L x) (n := 12) (by omega) HR.out j
  have HSW := Lib.hid hsw
  have HSR := Lib.hid hsr
  have e0 := hb10.at_ 0 rfl
  have e1 := hb10.at_ 1 rfl
  have e2 := hb10.at_ 2 rfl
  clear HSU hb9 hA9 hx9 hin9 hva9 hvb9 hown10 hf09 hf10 hsw hsr
  generalize coneL 12 L x = CO at *
  go_wp2_with fail
  refine HCO.out.mono ?_
  rintro e w11 ⟨Ac, cc, rfl, hown11, hf11⟩
  have hb11 := hb10.frm hf11 id
  have hA11 := hA10.frm hf11 (fun _ _ => id)
  have hx11 := hx10.frm hf11 (fun _ _ => id)
  have hin11 := hin10.frm hf11 (fun _ _ => id)
  have hva11 := hva10.frm hf11 (fun _ _ => id)
  have hvb11 := hvb10.frm hf11 (fun _ _ => id)
  have hsu11 := hsu10.frm hf11 (fun _ _ => id)
  have hco11 := own_sl hown11
  have hf011 := hf010.trans hf11
  clear HCO hb10 hA10 hx10 hin10 hva10 hvb10 hown11 hf010 hf11 e0 e1 e2 hsu10
  have HPR := Lib.hid (fun (W : World) (hf : Frm (fun _ => False) w11 W) => pairs_any A L.length c _ L W rfl (by omega) (hA11.frm hf (fun _ _ => id)))
  have hH0 : w11.drew.cell? ⟨w5.heap.size, 1, none⟩ = some (.slice A L.length c) ∧ w11.drew.cell? ⟨w5.heap.size, 2, none⟩ = some (.slice (some ⟨W5.heap.size, 0, none⟩) 1 1) := ⟨hb11.at_ 1 rfl, hb11.at_ 2 rfl⟩
  go_upto_region 18 with (fail)
  go_cut [16] from 71 to 76 (fun t16 wr => ∃ q Ad cd, t16 = .pointer (some ⟨q, 0, none⟩) ∧ Blk wr q 40 [.int .i64 12, .slice Ad L.length cd, .slice (some ⟨W5.heap.size, 0, none⟩) 1 1] ∧ wr.ownsRow w11.heap.size 73 2 (.slice Ad L.length cd) L.length (pairs L) ∧ w11.heap.size ≤ q ∧ (Value.slice Ad L.length cd).ownBlock ≠ some q ∧ Frm (fun _ => False) w11 wr)
  case first =>
    have hHeld := hH0
    refine Held.begin (fun w' => w'.cell? ⟨w5.heap.size, 1, none⟩ = some (.slice A L.length c) ∧ w'.cell? ⟨w5.heap.size, 2, none⟩ = some (.slice (some ⟨W5.heap.size, 0, none⟩) 1 1)) 7 (by kernel_rfl) ?_
    refine Held.take (i := 0) (oi := ?oa0) (v := ?va0) ?hia0 (by kernel_rfl) (by kernel_rfl) (by kernel_rfl) (by kernel_rfl) (fun _ _ _ h => h) (Or.inl ⟨?hwa0, ?hya0⟩) (by assumption) ?resta0
    case hia0 => (simp only [List.getElem?_toArray, List.getElem?_cons_zero]; rfl)
    case hwa0 => rfl
    case hya0 => (intro w hSw; (try dsimp only at hSw); go_simp; try with_reducible rfl)
    (try simp only [Act.put, List.setIfInBounds_toArray, List.set_cons_zero, List.set_cons_succ])
    refine Held.take (i := 1) (oi := ?oa1) (v := ?va1) ?hia1 (by kernel_rfl) (by kernel_rfl) (by kernel_rfl) (by kernel_rfl) (fun _ _ _ h => h) (Or.inl ⟨?hwa1, ?hya1⟩) (by assumption) ?resta1
    case hia1 => (simp only [List.getElem?_toArray, List.getElem?_cons_succ, List.getElem?_cons_zero]; rfl)
    case hwa1 => rfl
    case hya1 => (intro w hSw; (try dsimp only at hSw); go_simp; try with_reducible rfl)
    (try simp only [Act.put, List.setIfInBounds_toArray, List.set_cons_zero, List.set_cons_succ])
    refine Held.take (i := 3) (oi := ?oa3) (v := ?va3) ?hia3 (by kernel_rfl) (by kernel_rfl) (by kernel_rfl) (by kernel_rfl) (fun _ _ _ h => h) (Or.inl ⟨?hwa3, ?hya3⟩) (by assumption) ?resta3
    case hia3 => (simp only [List.getElem?_toArray, List.getElem?_cons_succ, List.getElem?_cons_zero]; rfl)
    case hwa3 => rfl
    case hya3 => (intro w hSw; (try dsimp only at hSw); go_simp; try with_reducible rfl)
    (try simp only [Act.put, List.setIfInBounds_toArray, List.set_cons_zero, List.set_cons_succ])
    refine Held.take (i := 4) (oi := ?oa4) (v := ?va4) ?hia4 (by kernel_rfl) (by kernel_rfl) (by kernel_rfl) (by kernel_rfl) (fun _ _ _ h => h) (Or.inl ⟨?hwa4, ?hya4⟩) (by assumption) ?resta4
    case hia4 => (simp only [List.getElem?_toArray, List.getElem?_cons_succ, List.getElem?_cons_zero]; rfl)
    case hwa4 => rfl
    case hya4 => (intro w hSw; (try dsimp only at hSw); go_simp; try with_reducible rfl)
    (try simp only [Act.put, List.setIfInBounds_toArray, List.set_cons_zero, List.set_cons_succ])
    refine Held.either (i := 2) (j := 6) (by kernel_rfl) (by simp only [List.getElem?_toArray, List.getElem?_cons_succ, List.getElem?_cons_zero]; rfl) (by simp only [List.getElem?_toArray, List.getElem?_cons_succ, List.getElem?_cons_zero]; rfl) (fun K hK => ?_) (fun K hK => ?_)
    · skip
      go_simp
      (go_at_call 79; refine (HPR.out _ ((Frm.refl _ _).drewN 1)).mono ?_; rintro e w12 ⟨Ad, cd, rfl, hown12, hf12⟩)
      (try go_wp2_with fail)
      refine hK.out _ _ (fun _ => by exact ⟨hf12.cell hHeld.1 id, hf12.cell hHeld.2 id⟩) ?_
      clear hK K
      (try simp only [Act.put, List.setIfInBounds_toArray, List.set_cons_zero, List.set_cons_succ])
      have hH2 : w12.cell? ⟨w5.heap.size, 1, none⟩ = some (.slice A L.length c) ∧ w12.cell? ⟨w5.heap.size, 2, none⟩ = some (.slice (some ⟨W5.heap.size, 0, none⟩) 1 1) := ⟨hf12.cell hHeld.1 id, hf12.cell hHeld.2 id⟩
      refine Held.take (i := 5) (oi := ?ob5) (v := ?vb5) ?hib5 (by kernel_rfl) (by kernel_rfl) (by kernel_rfl) (by kernel_rfl) (fun _ _ _ h => h) (Or.inl ⟨?hwb5, ?hyb5⟩) (by assumption) ?restb5
      case hib5 => (simp only [List.getElem?_toArray, List.getElem?_cons_succ, List.getElem?_cons_zero]; rfl)
      case hwb5 => rfl
      case hyb5 => (intro w hSw; (try dsimp only at hSw); go_simp; try with_reducible rfl)
      (try simp only [Act.put, List.setIfInBounds_toArray, List.set_cons_zero, List.set_cons_succ])
      refine Held.next (i := 6) (o := ?ob6) (by kernel_rfl) ?hib6 (fun K hK => ?stb6)
      case hib6 => (simp only [List.getElem?_toArray, List.getElem?_cons_succ, List.getElem?_cons_zero]; rfl)
      go_simp
      refine hK.out _ _ (fun _ => by exact ⟨(World.cell?_alloc_lt _ _ _ (World.block_lt_of_cell? _ _ hH2.1)).trans hH2.1, (World.cell?_alloc_lt _ _ _ (World.block_lt_of_cell? _ _ hH2.2)).trans hH2.2⟩) ?_
      clear hK K
      (try simp only [Act.put, List.setIfInBounds_toArray, List.set_cons_zero, List.set_cons_succ])
      refine Held.next (i := 7) (o := ?ob7) (by kernel_rfl) ?hib7 (fun K hK => ?stb7)
      case hib7 => (simp only [List.getElem?_toArray, List.getElem?_cons_succ, List.getElem?_cons_zero]; rfl)
      go_simp
      refine hK.out _ _ (fun h => absurd h (by decide)) ?_
      clear hK K
      (try simp only [Act.put, List.setIfInBounds_toArray, List.set_cons_zero, List.set_cons_succ])
      refine Held.done (by kernel_rfl) ?_ _
      refine NoPanic.normal ?_
      go_wp2_with fail
      go_meet
      have hs12 : w11.heap.size ≤ w12.heap.size := hf12.size
      exact ⟨w12.heap.size, Ad, cd, rfl, Blk.new _ _ _, hown12.alloc _, hs12, fun h => by have := (hown12.lt _ h).2; omega, (((Frm.refl _ _).drewN 1).trans hf12).alloc _⟩
    · skip
      go_simp
      refine hK.out _ _ (fun _ => by exact ⟨(World.cell?_alloc_lt _ _ _ (World.block_lt_of_cell? _ _ hHeld.1)).trans hHeld.1, (World.cell?_alloc_lt _ _ _ (World.block_lt_of_cell? _ _ hHeld.2)).trans hHeld.2⟩) ?_
      clear hK K
      (try simp only [Act.put, List.setIfInBounds_toArray, List.set_cons_zero, List.set_cons_succ])
      have hal := ((Frm.refl (fun _ => False) w11).alloc (.cells #[.int .i64 0, .slice none 0 0, .slice none 0 0] 40)).drew
      have hbq : Blk (w11.alloc (.cells #[.int .i64 0, .slice none 0 0, .slice none 0 0] 40)).drew w11.heap.size 40 [.int .i64 0, .slice none 0 0, .slice none 0 0] := Blk.new _ _ _
      have hH2 : (w11.alloc (.cells #[.int .i64 0, .slice none 0 0, .slice none 0 0] 40)).drew.cell? ⟨w5.heap.size, 1, none⟩ = some (.slice A L.length c) ∧ (w11.alloc (.cells #[.int .i64 0, .slice none 0 0, .slice none 0 0] 40)).drew.cell? ⟨w5.heap.size, 2, none⟩ = some (.slice (some ⟨W5.heap.size, 0, none⟩) 1 1) := ⟨hal.cell hHeld.1 id, hal.cell hHeld.2 id⟩
      refine Held.next (i := 2) (o := ?oc2) (by kernel_rfl) ?hic2 (fun K hK => ?stc2)
      case hic2 => (simp only [List.getElem?_toArray, List.getElem?_cons_succ, List.getElem?_cons_zero]; rfl)
      go_simp
      (go_at_call 79; refine (HPR.out _ hal).mono ?_; rintro e w12 ⟨Ad, cd, rfl, hown12, hf12⟩)
      (try go_wp2_with fail)
      refine hK.out _ _ (fun _ => by exact ⟨hf12.cell hH2.1 id, hf12.cell hH2.2 id⟩) ?_
      clear hK K
      (try simp only [Act.put, List.setIfInBounds_toArray, List.set_cons_zero, List.set_cons_succ])
      have hH3 : w12.cell? ⟨w5.heap.size, 1, none⟩ = some (.slice A L.length c) ∧ w12.cell? ⟨w5.heap.size, 2, none⟩ = some (.slice (some ⟨W5.heap.size, 0, none⟩) 1 1) := ⟨hf12.cell hH2.1 id, hf12.cell hH2.2 id⟩
      have hb12 := hbq.frm hf12 id
      have r0 := hb12.at_ 0 rfl
      have r1 := hb12.at_ 1 rfl
      have r2 := hb12.at_ 2 rfl
      have y0 := hb12.frozen 0
      have y1 := hb12.frozen 1
      have y2 := hb12.frozen 2
      refine Held.take (i := 5) (oi := ?oc5) (v := ?vc5) ?hic5 (by kernel_rfl) (by kernel_rfl) (by kernel_rfl) (by kernel_rfl) (fun _ _ _ h => h) (Or.inl ⟨?hwc5, ?hyc5⟩) (by assumption) ?restc5
      case hic5 => (simp only [List.getElem?_toArray, List.getElem?_cons_succ, List.getElem?_cons_zero]; rfl)
      case hwc5 => rfl
      case hyc5 => (intro w hSw; (try dsimp only at hSw); go_simp; try with_reducible rfl)
      (try simp only [Act.put, List.setIfInBounds_toArray, List.set_cons_zero, List.set_cons_succ])
      refine Held.next (i := 7) (o := ?oc7) (by kernel_rfl) ?hic7 (fun K hK => ?stc7)
      case hic7 => (simp only [List.getElem?_toArray, List.getElem?_cons_succ, List.getElem?_cons_zero]; rfl)
      go_simp
      refine hK.out _ _ (fun h => absurd h (by decide)) ?_
      clear hK K
      (try simp only [Act.put, List.setIfInBounds_toArray, List.set_cons_zero, List.set_cons_succ])
      refine Held.done (by kernel_rfl) ?_ _
      refine NoPanic.normal ?_
      go_wp2_with fail
      go_meet
      have hlq := hbq.lt
      have hob : ∀ g, (Value.slice Ad L.length cd).ownBlock = some g → w11.heap.size < g := fun g hg => by have := (hown12.lt g hg).1; omega
      have hf3 := (((Frm.refl (fun g => g = w11.heap.size) w12).setCell (p := ⟨w11.heap.size, 0, none⟩) (fun _ => rfl) (.int .i64 12)).setCell (p := ⟨w11.heap.size, 1, none⟩) (fun _ => rfl) (.slice Ad L.length cd)).setCell (p := ⟨w11.heap.size, 2, none⟩) (fun _ => rfl) (.slice (some ⟨W5.heap.size, 0, none⟩) 1 1)
      exact ⟨w11.heap.size, Ad, cd, rfl, ((hb12.set_ 0 _).set_ 1 _).set_ 2 _, own_mono (own_frm hown12 hf3 (fun g hg e => by have := hob g hg; omega)) (by omega), Nat.le_refl _, fun h => by have := hob _ h; omega, (hal.trans hf12).then' hf3 (fun g hg e => by omega)⟩
  case rest =>
    obtain ⟨q, Ad, cd, rfl, hbq, hownd, hqq, hob, hfc⟩ := hcut
    have hA12 := (hA11.mono (G := fun g => g < w11.heap.size) (fun g hk _ => hk)).frm hfc (fun _ _ => id)
    have hx12 := (hx11.mono (G := fun g => g < w11.heap.size) (fun g hk _ => hk)).frm hfc (fun _ _ => id)
    have hin12 := (hin11.mono (G := fun g => g < w11.heap.size) (fun g hk _ => hk)).frm hfc (fun _ _ => id)
    have hva12 := (hva11.mono (G := fun g => g < w11.heap.size) (fun g hk _ => hk)).frm hfc (fun _ _ => id)
    have hvb12 := (hvb11.mono (G := fun g => g < w11.heap.size) (fun g hk _ => hk)).frm hfc (fun _ _ => id)
    have hsu12 := (hsu11.mono (G := fun g => g < w11.heap.size) (fun g hk _ => hk)).frm hfc (fun _ _ => id)
    have hco12 := (hco11.mono (G := fun g => g < w11.heap.size) (fun g hk _ => hk)).frm hfc (fun _ _ => id)
    have hf012 := hf011.trans hfc
    have hobw : ∀ g, (Value.slice Ad L.length cd).ownBlock = some g → w11.heap.size ≤ g := fun g hg => (hownd.lt g hg).1
    have hs011 := hf011.size
    have d1 := hbq.at_ 1 rfl
    rw [← spoil_zero CO 12 L] at hownd
    rw [spoil_zero CO 12 L] at hownd
    clear hb11 hA11 hx11 hin11 hva11 hvb11 hsu11 hco11 hf011 hfc HPR hH0
    go_wp2_with fail
    go_loopw [17] (fun iv wr => ∃ (j : Nat), j ≤ L.length ∧ iv = .int .i64 (j : Int) ∧ wr.ownsRow w11.heap.size 73 2 (.slice Ad L.length cd) L.length (pairs (spoil CO 12 L j)) ∧ Frm (fun g => (Value.slice Ad L.length cd).ownBlock = some g) wc wr) (fun iv _ => L.length - (intOf iv).toNat)
    case atStart => exact ⟨0, by omega, rfl, by rw [spoil_zero]; exact hownd, Frm.refl _ _⟩
    case round =>
      clear hownd d1
      obtain ⟨j, hj, rfl, hown, hfj⟩ := hrel
      have hbj := hbq.frm hfj (fun e => hob e)
      have d1 := hbj.at_ 1 rfl
      have hcoj := hco12.frm hfj (fun g hg e => by have := hobw g e; omega)
      by_cases hlt : j < L.length
      · have hsu := spoil_succ CO 12 L hlt
        have hHA := has_any Ac CO.length cc _ CO (13 + (j : Int)) wr rfl (by omega) hcoj
        rw [show ((12 + 1 + j : Nat) : Int) = 13 + (j : Int) from by omega] at hsu
        have j0 : (0 : Int) ≤ j := by omega
        have j1 : (j : Int) < L.length := by omega
        have wj : IntKind.i64.wrap (13 + (j : Int)) = 13 + (j : Int) := IntWalk.i64_in _ (by omega)
        by_cases hc : 13 + (j : Int) ∈ CO
        · rw [if_pos hc] at hsu
          rw [decide_eq_true hc] at hHA
          have HH := Lib.hid hHA
          have HS := Lib.hid hsu
          clear hHA hsu hc
          go_wp2_with fail
          refine HH.out.mono ?_
          rintro e w13 ⟨rfl, hf13⟩
          have hown2 := own_frm hown hf13 (fun _ _ => id)
          have hfj2 := hfj.trans hf13.any
          clear hown hfj HH
          go_wp2_with fail
          go_roundw
          case rel => exact ⟨j + 1, by omega, by go_num, by rw [HS.out]; exact hown2, hfj2⟩
          case measure => simp [intOf]; omega
        · rw [if_neg hc] at hsu
          rw [decide_eq_false hc] at hHA
          have HH := Lib.hid hHA
          have HS := Lib.hid hsu
          clear hHA hsu hc
          go_wp2_with fail
          refine HH.out.mono ?_
          rintro e w13 ⟨rfl, hf13⟩
          have hown2 := own_frm hown hf13 (fun _ _ => id)
          have hfj2 := hfj.trans hf13.any
          obtain ⟨gd, rfl, hgd⟩ := own_ptr2 hown2 (by omega)
          have hb13 := hbj.frm hf13 id
          have d1' := hb13.at_ 1 rfl
          have hsl := spoil_length CO 12 L j
          obtain ⟨bb, oo, e1, _, p1, p2⟩ := sl_pair (own_sl hown2) (k := j) hlt
          cases e1
          rw [Nat.zero_add] at p1 p2
          have f1 := own_free2 hown2 (j * 2)
          have f2 := own_free2 hown2 (j * 2 + 1)
          have hown3 := own_set2 hown2 (i := j) (1, 1) (by omega)
          rw [← HS.out] at hown3
          have hst := (((Frm.refl (fun g => (Value.slice (some ⟨gd, 0, none⟩) L.length cd).ownBlock = some g) w13).setCell (p := ⟨gd, j * 2, none⟩) (fun _ => rfl) (.int .i64 1)).setCell (p := ⟨gd, j * 2 + 1, none⟩) (fun _ => rfl) (.int .i64 1))
          have hfj3 := hfj2.trans hst
          simp only at hown3
          clear hown hfj HH hown2 hfj2 d1 hst
          go_wp2_with fail
          go_roundw
          case rel => exact ⟨j + 1, by omega, by go_num, hown3, hfj3⟩
          case measure => simp [intOf]; omega
      · have hjl : L.length = j := by omega
        subst hjl
        have hsl := spoil_length CO 12 L L.length
        have hinj := hin12.frm hfj (fun g hg e => by have := hobw g e; omega)
        have hxj := hx12.frm hfj (fun g hg e => by have := hobw g e; omega)
        have hvaj := hva12.frm hfj (fun g hg e => by have := hobw g e; omega)
        have hvbj := hvb12.frm hfj (fun g hg e => by have := hobw g e; omega)
        have hsuj := hsu12.frm hfj (fun g hg e => by have := hobw g e; omega)
        have hf0j := hf012.then' hfj (fun g hg e => by have := hobw g e; omega)
        have d0 := hbj.at_ 0 rfl
        have d2 := hbj.at_ 2 rfl
        have HEV := Lib.hid (leval_any 12 (spoil CO 12 L L.length) Ad L.length cd (some ⟨W5.heap.size, 0, none⟩) 1 1 [x] (some ⟨gi, 0, none⟩) 12 ci inp2 _ _ _ wr hsl rfl hnl8 (HSR.out L.length) (by omega) (by omega) (by omega) (by omega) HLL.out (own_sl hown) hxj hinj)
        rw [show evalOuts (nodes 12 (spoil CO 12 L L.length) inp2) [x] = [worth (nodes 12 (spoil CO 12 L L.length) inp2) x] from rfl, HSW.out] at HEV
        have hge : ¬ (L.length : Int) < L.length := by omega
        clear hown hfj hin12 hx12 hva12 hvb12 hsu12 hco12 hf012 hcoj hlt hj hsl
        go_wp2_with fail
        refine HEV.out.mono ?_
        rintro e w14 ⟨Ae, ce, rfl, hown14, hf14⟩
        obtain ⟨ge, rfl, hge'⟩ := own_ptr hown14 (by omega)
        have hva := own_sl_at (hvaj.frm hf14 (fun _ _ => id))
        have hvb := own_sl_at (hvbj.frm hf14 (fun _ _ => id))
        have hve := own_sl_at (own_sl hown14)
        have hsu14 := hsuj.frm hf14 (fun _ _ => id)
        have hf014 := hf0j.trans hf14
        have HH := Lib.hid (fun (W : World) (hf : Frm (fun _ => False) w14 W) => has_any As SU.length cs _ SU (K : Int) W rfl (by omega) (hsu14.frm hf (fun _ _ => id)))
        have hmem := HMS.out
        have hno := HNOT.out
        clear HEV hown14 hf14 hvaj hvbj hsuj hf0j d0 d1 d2 hxj hinj hbj
        generalize worth (nodes 12 L inp2) x = vb at *
        generalize worth (nodes 12 L inp) x = va at *
        by_cases hc : (K : Int) ∈ SU
        · rw [show decide ((K : Int) ∈ SU) = true from decide_eq_true hc] at HH
          clear hmem hno hc
          have hH0 : w14.drew.cell? ⟨ga, 0, none⟩ = some (.bool va) ∧ w14.drew.cell? ⟨gb, 0, none⟩ = some (.bool vb) ∧ w14.drew.cell? ⟨ge, 0, none⟩ = some (.bool vb) := ⟨hva, hvb, hve⟩
          go_wp2_with fail
          have hHeld := hH0
          refine Held.begin (fun w' => w'.cell? ⟨ga, 0, none⟩ = some (.bool va) ∧ w'.cell? ⟨gb, 0, none⟩ = some (.bool vb) ∧ w'.cell? ⟨ge, 0, none⟩ = some (.bool vb)) 30 (by kernel_rfl) ?_
          refine Held.take (i := 0) (oi := ?od0) (v := ?vd0) ?hid0 (by kernel_rfl) (by kernel_rfl) (by kernel_rfl) (by kernel_rfl) (fun _ _ _ h => h) (Or.inl ⟨?hwd0, ?hyd0⟩) (by assumption) ?restd0
          case hid0 => (simp only [List.getElem?_toArray, List.getElem?_cons_zero]; rfl)
          case hwd0 => rfl
          case hyd0 => (intro w hSw; (try dsimp only at hSw); go_simp; try with_reducible rfl)
          (try simp only [Act.put, List.setIfInBounds_toArray, List.set_cons_zero, List.set_cons_succ])
          refine Held.take (i := 1) (oi := ?od1) (v := ?vd1) ?hid1 (by kernel_rfl) (by kernel_rfl) (by kernel_rfl) (by kernel_rfl) (fun _ _ _ h => h) (Or.inl ⟨?hwd1, ?hyd1⟩) (by assumption) ?restd1
          case hid1 => (simp only [List.getElem?_toArray, List.getElem?_cons_succ, List.getElem?_cons_zero]; rfl)
          case hwd1 => rfl
          case hyd1 => (intro w hSw; (try dsimp only at hSw); go_simp; try with_reducible rfl)
          (try simp only [Act.put, List.setIfInBounds_toArray, List.set_cons_zero, List.set_cons_succ])
          refine Held.take (i := 2) (oi := ?od2) (v := ?vd2) ?hid2 (by kernel_rfl) (by kernel_rfl) (by kernel_rfl) (by kernel_rfl) (fun _ _ _ h => h) (Or.inl ⟨?hwd2, ?hyd2⟩) (by assumption) ?restd2
          case hid2 => (simp only [List.getElem?_toArray, List.getElem?_cons_succ, List.getElem?_cons_zero]; rfl)
          case hwd2 => rfl
          case hyd2 => (intro w hSw; (try dsimp only at hSw); go_simp; try with_reducible rfl)
          (try simp only [Act.put, List.setIfInBounds_toArray, List.set_cons_zero, List.set_cons_succ])
          refine Held.take (i := 3) (oi := ?od3) (v := ?vd3) ?hid3 (by kernel_rfl) (by kernel_rfl) (by kernel_rfl) (by kernel_rfl) (fun _ _ _ h => h) (Or.inl ⟨?hwd3, ?hyd3⟩) (by assumption) ?restd3
          case hid3 => (simp only [List.getElem?_toArray, List.getElem?_cons_succ, List.getElem?_cons_zero]; rfl)
          case hwd3 => rfl
          case hyd3 => (intro w hSw; (try dsimp only at hSw); go_simp; try with_reducible rfl)
          (try simp only [Act.put, List.setIfInBounds_toArray, List.set_cons_zero, List.set_cons_succ])
          refine Held.next (i := 4) (o := ?od4) (by kernel_rfl) ?hid4 (fun K hK => ?std4)
          case hid4 => (simp only [List.getElem?_toArray, List.getElem?_cons_succ, List.getElem?_cons_zero]; rfl)
          go_simp
          (go_at_call 64; refine (HH.out _ ((Frm.refl _ _).drewN 1)).mono ?_; rintro e w15 ⟨rfl, hf15⟩)
          (try go_wp2_with fail)
          refine hK.out _ _ (fun _ => by exact ⟨hf15.cell hHeld.1 id, hf15.cell hHeld.2.1 id, hf15.cell hHeld.2.2 id⟩) ?_
          clear hK K
          (try simp only [Act.put, List.setIfInBounds_toArray, List.set_cons_zero, List.set_cons_succ])
          have hH2 : w15.cell? ⟨ga, 0, none⟩ = some (.bool va) ∧ w15.cell? ⟨gb, 0, none⟩ = some (.bool vb) ∧ w15.cell? ⟨ge, 0, none⟩ = some (.bool vb) := ⟨hf15.cell hHeld.1 id, hf15.cell hHeld.2.1 id, hf15.cell hHeld.2.2 id⟩
          refine Held.take (i := 5) (oi := ?od5) (v := ?vd5) ?hid5 (by kernel_rfl) (by kernel_rfl) (by kernel_rfl) (by kernel_rfl) (fun _ _ _ h => h) (Or.inl ⟨?hwd5, ?hyd5⟩) (by assumption) ?restd5
          case hid5 => (simp only [List.getElem?_toArray, List.getElem?_cons_succ, List.getElem?_cons_zero]; rfl)
          case hwd5 => rfl
          case hyd5 => (intro w hSw; (try dsimp only at hSw); go_simp; try with_reducible rfl)
          (try simp only [Act.put, List.setIfInBounds_toArray, List.set_cons_zero, List.set_cons_succ])
          refine Held.take (i := 6) (oi := ?od6) (v := undef) ?hid6 (by kernel_rfl) (by kernel_rfl) (by kernel_rfl) (by kernel_rfl) (fun _ _ _ h => h) (Or.inr ⟨?hwd6, rfl⟩) (by assumption) ?restd6
          case hid6 => (simp only [List.getElem?_toArray, List.getElem?_cons_succ, List.getElem?_cons_zero]; rfl)
          case hwd6 => rfl
          (try simp only [Act.put, List.setIfInBounds_toArray, List.set_cons_zero, List.set_cons_succ])
          refine Held.take (i := 7) (oi := ?od7) (v := undef) ?hid7 (by kernel_rfl) (by kernel_rfl) (by kernel_rfl) (by kernel_rfl) (fun _ _ _ h => h) (Or.inr ⟨?hwd7, rfl⟩) (by assumption) ?restd7
          case hid7 => (simp only [List.getElem?_toArray, List.getElem?_cons_succ, List.getElem?_cons_zero]; rfl)
          case hwd7 => rfl
          (try simp only [Act.put, List.setIfInBounds_toArray, List.set_cons_zero, List.set_cons_succ])
          refine Held.take (i := 8) (oi := ?od8) (v := undef) ?hid8 (by kernel_rfl) (by kernel_rfl) (by kernel_rfl) (by kernel_rfl) (fun _ _ _ h => h) (Or.inr ⟨?hwd8, rfl⟩) (by assumption) ?restd8
          case hid8 => (simp only [List.getElem?_toArray, List.getElem?_cons_succ, List.getElem?_cons_zero]; rfl)
          case hwd8 => rfl
          (try simp only [Act.put, List.setIfInBounds_toArray, List.set_cons_zero, List.set_cons_succ])
          refine Held.take (i := 9) (oi := ?od9) (v := undef) ?hid9 (by kernel_rfl) (by kernel_rfl) (by kernel_rfl) (by kernel_rfl) (fun _ _ _ h => h) (Or.inr ⟨?hwd9, rfl⟩) (by assumption) ?restd9
          case hid9 => (simp only [List.getElem?_toArray, List.getElem?_cons_succ, List.getElem?_cons_zero]; rfl)
          case hwd9 => rfl
          (try simp only [Act.put, List.setIfInBounds_toArray, List.set_cons_zero, List.set_cons_succ])
          refine Held.take (i := 10) (oi := ?od10) (v := undef) ?hid10 (by kernel_rfl) (by kernel_rfl) (by kernel_rfl) (by kernel_rfl) (fun _ _ _ h => h) (Or.inr ⟨?hwd10, rfl⟩) (by assumption) ?restd10
          case hid10 => (simp only [List.getElem?_toArray, List.getElem?_cons_succ, List.getElem?_cons_zero]; rfl)
          case hwd10 => rfl
          (try simp only [Act.put, List.setIfInBounds_toArray, List.set_cons_zero, List.set_cons_succ])
          refine Held.take (i := 11) (oi := ?od11) (v := undef) ?hid11 (by kernel_rfl) (by kernel_rfl) (by kernel_rfl) (by kernel_rfl) (fun _ _ _ h => h) (Or.inr ⟨?hwd11, rfl⟩) (by assumption) ?restd11
          case hid11 => (simp only [List.getElem?_toArray, List.getElem?_cons_succ, List.getElem?_cons_zero]; rfl)
          case hwd11 => rfl
          (try simp only [Act.put, List.setIfInBounds_toArray, List.set_cons_zero, List.set_cons_succ])
          refine Held.take (i := 12) (oi := ?od12) (v := undef) ?hid12 (by kernel_rfl) (by kernel_rfl) (by kernel_rfl) (by kernel_rfl) (fun _ _ _ h => h) (Or.inr ⟨?hwd12, rfl⟩) (by assumption) ?restd12
          case hid12 => (simp only [List.getElem?_toArray, List.getElem?_cons_succ, List.getElem?_cons_zero]; rfl)
          case hwd12 => rfl
          (try simp only [Act.put, List.setIfInBounds_toArray, List.set_cons_zero, List.set_cons_succ])
          refine Held.take (i := 13) (oi := ?od13) (v := ?vd13) ?hid13 (by kernel_rfl) (by kernel_rfl) (by kernel_rfl) (by kernel_rfl) (fun _ _ _ h => h) (Or.inl ⟨?hwd13, ?hyd13⟩) (by assumption) ?restd13
          case hid13 => (simp only [List.getElem?_toArray, List.getElem?_cons_succ, List.getElem?_cons_zero]; rfl)
          case hwd13 => rfl
          case hyd13 => (intro w hSw; (try dsimp only at hSw); go_simp; try with_reducible rfl)
          (try simp only [Act.put, List.setIfInBounds_toArray, List.set_cons_zero, List.set_cons_succ])
          refine Held.take (i := 14) (oi := ?od14) (v := ?vd14) ?hid14 (by kernel_rfl) (by kernel_rfl) (by kernel_rfl) (by kernel_rfl) (fun _ _ _ h => h) (Or.inl ⟨?hwd14, ?hyd14⟩) (by assumption) ?restd14
          case hid14 => (simp only [List.getElem?_toArray, List.getElem?_cons_succ, List.getElem?_cons_zero]; rfl)
          case hwd14 => rfl
          case hyd14 => (intro w hSw; (try dsimp only at hSw); go_simp; try with_reducible rfl)
          (try simp only [Act.put, List.setIfInBounds_toArray, List.set_cons_zero, List.set_cons_succ])
          refine Held.take (i := 15) (oi := ?od15) (v := ?vd15) ?hid15 (by kernel_rfl) (by kernel_rfl) (by kernel_rfl) (by kernel_rfl) (fun _ _ _ h => h) (Or.inl ⟨?hwd15, ?hyd15⟩) (by assumption) ?restd15
          case hid15 => (simp only [List.getElem?_toArray, List.getElem?_cons_succ, List.getElem?_cons_zero]; rfl)
          case hwd15 => rfl
          case hyd15 => (intro w hSw; (try dsimp only at hSw); go_simp; try with_reducible rfl)
          (try simp only [Act.put, List.setIfInBounds_toArray, List.set_cons_zero, List.set_cons_succ])
          refine Held.take (i := 16) (oi := ?od16) (v := ?vd16) ?hid16 (by kernel_rfl) (by kernel_rfl) (by kernel_rfl) (by kernel_rfl) (fun _ _ _ h => h) (Or.inl ⟨?hwd16, ?hyd16⟩) (by assumption) ?restd16
          case hid16 => (simp only [List.getElem?_toArray, List.getElem?_cons_succ, List.getElem?_cons_zero]; rfl)
          case hwd16 => rfl
          case hyd16 => (intro w hSw; (try dsimp only at hSw); go_simp; try with_reducible rfl)
          (try simp only [Act.put, List.setIfInBounds_toArray, List.set_cons_zero, List.set_cons_succ])
          refine Held.take (i := 17) (oi := ?od17) (v := ?vd17) ?hid17 (by kernel_rfl) (by kernel_rfl) (by kernel_rfl) (by kernel_rfl) (fun _ _ _ h => h) (Or.inl ⟨?hwd17, ?hyd17⟩) (by assumption) ?restd17
          case hid17 => (simp only [List.getElem?_toArray, List.getElem?_cons_succ, List.getElem?_cons_zero]; rfl)
          case hwd17 => rfl
          case hyd17 => (intro w hSw; (try dsimp only at hSw); go_simp; try with_reducible rfl)
          (try simp only [Act.put, List.setIfInBounds_toArray, List.set_cons_zero, List.set_cons_succ])
          refine Held.take (i := 18) (oi := ?od18) (v := ?vd18) ?hid18 (by kernel_rfl) (by kernel_rfl) (by kernel_rfl) (by kernel_rfl) (fun _ _ _ h => h) (Or.inl ⟨?hwd18, ?hyd18⟩) (by assumption) ?restd18
          case hid18 => (simp only [List.getElem?_toArray, List.getElem?_cons_succ, List.getElem?_cons_zero]; rfl)
          case hwd18 => rfl
          case hyd18 => (intro w hSw; (try dsimp only at hSw); go_simp; try with_reducible rfl)
          (try simp only [Act.put, List.setIfInBounds_toArray, List.set_cons_zero, List.set_cons_succ])
          refine Held.take (i := 19) (oi := ?od19) (v := ?vd19) ?hid19 (by kernel_rfl) (by kernel_rfl) (by kernel_rfl) (by kernel_rfl) (fun _ _ _ h => h) (Or.inl ⟨?hwd19, ?hyd19⟩) (by assumption) ?restd19
          case hid19 => (simp only [List.getElem?_toArray, List.getElem?_cons_succ, List.getElem?_cons_zero]; rfl)
          case hwd19 => rfl
          case hyd19 => (intro w hSw; (try dsimp only at hSw); go_simp; try with_reducible rfl)
          (try simp only [Act.put, List.setIfInBounds_toArray, List.set_cons_zero, List.set_cons_succ])
          refine Held.take (i := 20) (oi := ?od20) (v := ?vd20) ?hid20 (by kernel_rfl) (by kernel_rfl) (by kernel_rfl) (by kernel_rfl) (fun _ _ _ h => h) (Or.inl ⟨?hwd20, ?hyd20⟩) (by assumption) ?restd20
          case hid20 => (simp only [List.getElem?_toArray, List.getElem?_cons_succ, List.getElem?_cons_zero]; rfl)
          case hwd20 => rfl
          case hyd20 => (intro w hSw; (try dsimp only at hSw); go_simp; try with_reducible rfl)
          (try simp only [Act.put, List.setIfInBounds_toArray, List.set_cons_zero, List.set_cons_succ])
          refine Held.take (i := 21) (oi := ?od21) (v := ?vd21) ?hid21 (by kernel_rfl) (by kernel_rfl) (by kernel_rfl) (by kernel_rfl) (fun _ _ _ h => h) (Or.inl ⟨?hwd21, ?hyd21⟩) (by assumption) ?restd21
          case hid21 => (simp only [List.getElem?_toArray, List.getElem?_cons_succ, List.getElem?_cons_zero]; rfl)
          case hwd21 => rfl
          case hyd21 => (intro w hSw; (try dsimp only at hSw); go_simp; try with_reducible rfl)
          (try simp only [Act.put, List.setIfInBounds_toArray, List.set_cons_zero, List.set_cons_succ])
          refine Held.take (i := 22) (oi := ?od22) (v := ?vd22) ?hid22 (by kernel_rfl) (by kernel_rfl) (by kernel_rfl) (by kernel_rfl) (fun _ _ _ h => h) (Or.inl ⟨?hwd22, ?hyd22⟩) (by assumption) ?restd22
          case hid22 => (simp only [List.getElem?_toArray, List.getElem?_cons_succ, List.getElem?_cons_zero]; rfl)
          case hwd22 => rfl
          case hyd22 => (intro w hSw; (try dsimp only at hSw); go_simp; try with_reducible rfl)
          (try simp only [Act.put, List.setIfInBounds_toArray, List.set_cons_zero, List.set_cons_succ])
          refine Held.take (i := 23) (oi := ?od23) (v := ?vd23) ?hid23 (by kernel_rfl) (by kernel_rfl) (by kernel_rfl) (by kernel_rfl) (fun _ _ _ h => h) (Or.inl ⟨?hwd23, ?hyd23⟩) (by assumption) ?restd23
          case hid23 => (simp only [List.getElem?_toArray, List.getElem?_cons_succ, List.getElem?_cons_zero]; rfl)
          case hwd23 => rfl
          case hyd23 => (intro w hSw; (try dsimp only at hSw); go_simp; try with_reducible rfl)
          (try simp only [Act.put, List.setIfInBounds_toArray, List.set_cons_zero, List.set_cons_succ])
          refine Held.take (i := 24) (oi := ?od24) (v := ?vd24) ?hid24 (by kernel_rfl) (by kernel_rfl) (by kernel_rfl) (by kernel_rfl) (fun _ _ _ h => h) (Or.inl ⟨?hwd24, ?hyd24⟩) (by assumption) ?restd24
          case hid24 => (simp only [List.getElem?_toArray, List.getElem?_cons_succ, List.getElem?_cons_zero]; rfl)
          case hwd24 => rfl
          case hyd24 => (intro w hSw; (try dsimp only at hSw); go_simp; try with_reducible rfl)
          (try simp only [Act.put, List.setIfInBounds_toArray, List.set_cons_zero, List.set_cons_succ])
          refine Held.take (i := 25) (oi := ?od25) (v := ?vd25) ?hid25 (by kernel_rfl) (by kernel_rfl) (by kernel_rfl) (by kernel_rfl) (fun _ _ _ h => h) (Or.inl ⟨?hwd25, ?hyd25⟩) (by assumption) ?restd25
          case hid25 => (simp only [List.getElem?_toArray, List.getElem?_cons_succ, List.getElem?_cons_zero]; rfl)
          case hwd25 => rfl
          case hyd25 => (intro w hSw; (try dsimp only at hSw); go_simp; try with_reducible rfl)
          (try simp only [Act.put, List.setIfInBounds_toArray, List.set_cons_zero, List.set_cons_succ])
          refine Held.take (i := 26) (oi := ?od26) (v := ?vd26) ?hid26 (by kernel_rfl) (by kernel_rfl) (by kernel_rfl) (by kernel_rfl) (fun _ _ _ h => h) (Or.inl ⟨?hwd26, ?hyd26⟩) (by assumption) ?restd26
          case hid26 => (simp only [List.getElem?_toArray, List.getElem?_cons_succ, List.getElem?_cons_zero]; rfl)
          case hwd26 => rfl
          case hyd26 => (intro w hSw; (try dsimp only at hSw); go_simp; try with_reducible rfl)
          (try simp only [Act.put, List.setIfInBounds_toArray, List.set_cons_zero, List.set_cons_succ])
          refine Held.take (i := 27) (oi := ?od27) (v := ?vd27) ?hid27 (by kernel_rfl) (by kernel_rfl) (by kernel_rfl) (by kernel_rfl) (fun _ _ _ h => h) (Or.inl ⟨?hwd27, ?hyd27⟩) (by assumption) ?restd27
          case hid27 => (simp only [List.getElem?_toArray, List.getElem?_cons_succ, List.getElem?_cons_zero]; rfl)
          case hwd27 => rfl
          case hyd27 => (intro w hSw; (try dsimp only at hSw); go_simp; try with_reducible rfl)
          (try simp only [Act.put, List.setIfInBounds_toArray, List.set_cons_zero, List.set_cons_succ])
          refine Held.take (i := 28) (oi := ?od28) (v := ?vd28) ?hid28 (by kernel_rfl) (by kernel_rfl) (by kernel_rfl) (by kernel_rfl) (fun _ _ _ h => h) (Or.inl ⟨?hwd28, ?hyd28⟩) (by assumption) ?restd28
          case hid28 => (simp only [List.getElem?_toArray, List.getElem?_cons_succ, List.getElem?_cons_zero]; rfl)
          case hwd28 => rfl
          case hyd28 => (intro w hSw; (try dsimp only at hSw); go_simp; try with_reducible rfl)
          (try simp only [Act.put, List.setIfInBounds_toArray, List.set_cons_zero, List.set_cons_succ])
          refine Held.take (i := 29) (oi := ?od29) (v := ?vd29) ?hid29 (by kernel_rfl) (by kernel_rfl) (by kernel_rfl) (by kernel_rfl) (fun _ _ _ h => h) (Or.inl ⟨?hwd29, ?hyd29⟩) (by assumption) ?restd29
          case hid29 => (simp only [List.getElem?_toArray, List.getElem?_cons_succ, List.getElem?_cons_zero]; rfl)
          case hwd29 => rfl
          case hyd29 => (intro w hSw; (try dsimp only at hSw); go_simp; try with_reducible rfl)
          (try simp only [Act.put, List.setIfInBounds_toArray, List.set_cons_zero, List.set_cons_succ])
          refine Held.done (by kernel_rfl) ?_ _
          refine NoPanic.normal ?_
          go_wp2_with fail
          go_ret
          exact ⟨ret_bool (by simp), (hf014.drewN 1).trans hf15⟩
        · rw [show decide ((K : Int) ∈ SU) = false from decide_eq_false hc] at HH
          have hvv : va = vb := hno (fun h => hc (hmem.2 h))
          subst hvv
          clear hmem hno hc
          have hH0 : w14.drew.cell? ⟨ga, 0, none⟩ = some (.bool va) ∧ w14.drew.cell? ⟨gb, 0, none⟩ = some (.bool va) ∧ w14.drew.cell? ⟨ge, 0, none⟩ = some (.bool va) := ⟨hva, hvb, hve⟩
          go_wp2_with fail
          have hHeld := hH0
          refine Held.begin (fun w' => w'.cell? ⟨ga, 0, none⟩ = some (.bool va) ∧ w'.cell? ⟨gb, 0, none⟩ = some (.bool va) ∧ w'.cell? ⟨ge, 0, none⟩ = some (.bool va)) 30 (by kernel_rfl) ?_
          refine Held.take (i := 0) (oi := ?oe0) (v := ?ve0) ?hie0 (by kernel_rfl) (by kernel_rfl) (by kernel_rfl) (by kernel_rfl) (fun _ _ _ h => h) (Or.inl ⟨?hwe0, ?hye0⟩) (by assumption) ?reste0
          case hie0 => (simp only [List.getElem?_toArray, List.getElem?_cons_zero]; rfl)
          case hwe0 => rfl
          case hye0 => (intro w hSw; (try dsimp only at hSw); go_simp; try with_reducible rfl)
          (try simp only [Act.put, List.setIfInBounds_toArray, List.set_cons_zero, List.set_cons_succ])
          refine Held.take (i := 1) (oi := ?oe1) (v := ?ve1) ?hie1 (by kernel_rfl) (by kernel_rfl) (by kernel_rfl) (by kernel_rfl) (fun _ _ _ h => h) (Or.inl ⟨?hwe1, ?hye1⟩) (by assumption) ?reste1
          case hie1 => (simp only [List.getElem?_toArray, List.getElem?_cons_succ, List.getElem?_cons_zero]; rfl)
          case hwe1 => rfl
          case hye1 => (intro w hSw; (try dsimp only at hSw); go_simp; try with_reducible rfl)
          (try simp only [Act.put, List.setIfInBounds_toArray, List.set_cons_zero, List.set_cons_succ])
          refine Held.take (i := 2) (oi := ?oe2) (v := ?ve2) ?hie2 (by kernel_rfl) (by kernel_rfl) (by kernel_rfl) (by kernel_rfl) (fun _ _ _ h => h) (Or.inl ⟨?hwe2, ?hye2⟩) (by assumption) ?reste2
          case hie2 => (simp only [List.getElem?_toArray, List.getElem?_cons_succ, List.getElem?_cons_zero]; rfl)
          case hwe2 => rfl
          case hye2 => (intro w hSw; (try dsimp only at hSw); go_simp; try with_reducible rfl)
          (try simp only [Act.put, List.setIfInBounds_toArray, List.set_cons_zero, List.set_cons_succ])
          refine Held.take (i := 3) (oi := ?oe3) (v := ?ve3) ?hie3 (by kernel_rfl) (by kernel_rfl) (by kernel_rfl) (by kernel_rfl) (fun _ _ _ h => h) (Or.inl ⟨?hwe3, ?hye3⟩) (by assumption) ?reste3
          case hie3 => (simp only [List.getElem?_toArray, List.getElem?_cons_succ, List.getElem?_cons_zero]; rfl)
          case hwe3 => rfl
          case hye3 => (intro w hSw; (try dsimp only at hSw); go_simp; try with_reducible rfl)
          (try simp only [Act.put, List.setIfInBounds_toArray, List.set_cons_zero, List.set_cons_succ])
          refine Held.next (i := 4) (o := ?oe4) (by kernel_rfl) ?hie4 (fun K hK => ?ste4)
          case hie4 => (simp only [List.getElem?_toArray, List.getElem?_cons_succ, List.getElem?_cons_zero]; rfl)
          go_simp
          (go_at_call 64; refine (HH.out _ ((Frm.refl _ _).drewN 1)).mono ?_; rintro e w15 ⟨rfl, hf15⟩)
          (try go_wp2_with fail)
          refine hK.out _ _ (fun _ => by exact ⟨hf15.cell hHeld.1 id, hf15.cell hHeld.2.1 id, hf15.cell hHeld.2.2 id⟩) ?_
          clear hK K
          (try simp only [Act.put, List.setIfInBounds_toArray, List.set_cons_zero, List.set_cons_succ])
          have hH2 : w15.cell? ⟨ga, 0, none⟩ = some (.bool va) ∧ w15.cell? ⟨gb, 0, none⟩ = some (.bool va) ∧ w15.cell? ⟨ge, 0, none⟩ = some (.bool va) := ⟨hf15.cell hHeld.1 id, hf15.cell hHeld.2.1 id, hf15.cell hHeld.2.2 id⟩
          refine Held.take (i := 5) (oi := ?oe5) (v := ?ve5) ?hie5 (by kernel_rfl) (by kernel_rfl) (by kernel_rfl) (by kernel_rfl) (fun _ _ _ h => h) (Or.inl ⟨?hwe5, ?hye5⟩) (by assumption) ?reste5
          case hie5 => (simp only [List.getElem?_toArray, List.getElem?_cons_succ, List.getElem?_cons_zero]; rfl)
          case hwe5 => rfl
          case hye5 => (intro w hSw; (try dsimp only at hSw); go_simp; try with_reducible rfl)
          (try simp only [Act.put, List.setIfInBounds_toArray, List.set_cons_zero, List.set_cons_succ])
          refine Held.take (i := 6) (oi := ?oe6) (v := ?ve6) ?hie6 (by kernel_rfl) (by kernel_rfl) (by kernel_rfl) (by kernel_rfl) (fun _ _ _ h => h) (Or.inl ⟨?hwe6, ?hye6⟩) (by assumption) ?reste6
          case hie6 => (simp only [List.getElem?_toArray, List.getElem?_cons_succ, List.getElem?_cons_zero]; rfl)
          case hwe6 => rfl
          case hye6 => (intro w hSw; (try dsimp only at hSw); go_simp; try with_reducible rfl)
          (try simp only [Act.put, List.setIfInBounds_toArray, List.set_cons_zero, List.set_cons_succ])
          refine Held.take (i := 7) (oi := ?oe7) (v := ?ve7) ?hie7 (by kernel_rfl) (by kernel_rfl) (by kernel_rfl) (by kernel_rfl) (fun _ _ _ h => h) (Or.inl ⟨?hwe7, ?hye7⟩) (by assumption) ?reste7
          case hie7 => (simp only [List.getElem?_toArray, List.getElem?_cons_succ, List.getElem?_cons_zero]; rfl)
          case hwe7 => rfl
          case hye7 => (intro w hSw; (try dsimp only at hSw); go_simp; try with_reducible rfl)
          (try simp only [Act.put, List.setIfInBounds_toArray, List.set_cons_zero, List.set_cons_succ])
          refine Held.take (i := 8) (oi := ?oe8) (v := ?ve8) ?hie8 (by kernel_rfl) (by kernel_rfl) (by kernel_rfl) (by kernel_rfl) (fun _ _ _ h => h) (Or.inl ⟨?hwe8, ?hye8⟩) (by assumption) ?reste8
          case hie8 => (simp only [List.getElem?_toArray, List.getElem?_cons_succ, List.getElem?_cons_zero]; rfl)
          case hwe8 => rfl
          case hye8 => (intro w hSw; (try dsimp only at hSw); go_simp; try with_reducible rfl)
          (try simp only [Act.put, List.setIfInBounds_toArray, List.set_cons_zero, List.set_cons_succ])
          refine Held.take (i := 9) (oi := ?oe9) (v := ?ve9) ?hie9 (by kernel_rfl) (by kernel_rfl) (by kernel_rfl) (by kernel_rfl) (fun _ _ _ h => h) (Or.inl ⟨?hwe9, ?hye9⟩) (by assumption) ?reste9
          case hie9 => (simp only [List.getElem?_toArray, List.getElem?_cons_succ, List.getElem?_cons_zero]; rfl)
          case hwe9 => rfl
          case hye9 => (intro w hSw; (try dsimp only at hSw); go_simp; try with_reducible rfl)
          (try simp only [Act.put, List.setIfInBounds_toArray, List.set_cons_zero, List.set_cons_succ])
          refine Held.take (i := 10) (oi := ?oe10) (v := ?ve10) ?hie10 (by kernel_rfl) (by kernel_rfl) (by kernel_rfl) (by kernel_rfl) (fun _ _ _ h => h) (Or.inl ⟨?hwe10, ?hye10⟩) (by assumption) ?reste10
          case hie10 => (simp only [List.getElem?_toArray, List.getElem?_cons_succ, List.getElem?_cons_zero]; rfl)
          case hwe10 => rfl
          case hye10 => (intro w hSw; (try dsimp only at hSw); go_simp; try with_reducible rfl)
          (try simp only [Act.put, List.setIfInBounds_toArray, List.set_cons_zero, List.set_cons_succ])
          refine Held.take (i := 11) (oi := ?oe11) (v := ?ve11) ?hie11 (by kernel_rfl) (by kernel_rfl) (by kernel_rfl) (by kernel_rfl) (fun _ _ _ h => h) (Or.inl ⟨?hwe11, ?hye11⟩) (by assumption) ?reste11
          case hie11 => (simp only [List.getElem?_toArray, List.getElem?_cons_succ, List.getElem?_cons_zero]; rfl)
          case hwe11 => rfl
          case hye11 => (intro w hSw; (try dsimp only at hSw); go_simp; try with_reducible rfl)
          (try simp only [Act.put, List.setIfInBounds_toArray, List.set_cons_zero, List.set_cons_succ])
          refine Held.take (i := 12) (oi := ?oe12) (v := ?ve12) ?hie12 (by kernel_rfl) (by kernel_rfl) (by kernel_rfl) (by kernel_rfl) (fun _ _ _ h => h) (Or.inl ⟨?hwe12, ?hye12⟩) (by assumption) ?reste12
          case hie12 => (simp only [List.getElem?_toArray, List.getElem?_cons_succ, List.getElem?_cons_zero]; rfl)
          case hwe12 => rfl
          case hye12 => (intro w hSw; (try dsimp only at hSw); go_simp; try with_reducible rfl)
          (try simp only [Act.put, List.setIfInBounds_toArray, List.set_cons_zero, List.set_cons_succ])
          refine Held.take (i := 13) (oi := ?oe13) (v := ?ve13) ?hie13 (by kernel_rfl) (by kernel_rfl) (by kernel_rfl) (by kernel_rfl) (fun _ _ _ h => h) (Or.inl ⟨?hwe13, ?hye13⟩) (by assumption) ?reste13
          case hie13 => (simp only [List.getElem?_toArray, List.getElem?_cons_succ, List.getElem?_cons_zero]; rfl)
          case hwe13 => rfl
          case hye13 => (intro w hSw; (try dsimp only at hSw); go_simp; try with_reducible rfl)
          (try simp only [Act.put, List.setIfInBounds_toArray, List.set_cons_zero, List.set_cons_succ])
          refine Held.take (i := 14) (oi := ?oe14) (v := ?ve14) ?hie14 (by kernel_rfl) (by kernel_rfl) (by kernel_rfl) (by kernel_rfl) (fun _ _ _ h => h) (Or.inl ⟨?hwe14, ?hye14⟩) (by assumption) ?reste14
          case hie14 => (simp only [List.getElem?_toArray, List.getElem?_cons_succ, List.getElem?_cons_zero]; rfl)
          case hwe14 => rfl
          case hye14 => (intro w hSw; (try dsimp only at hSw); go_simp; try with_reducible rfl)
          (try simp only [Act.put, List.setIfInBounds_toArray, List.set_cons_zero, List.set_cons_succ])
          refine Held.take (i := 15) (oi := ?oe15) (v := ?ve15) ?hie15 (by kernel_rfl) (by kernel_rfl) (by kernel_rfl) (by kernel_rfl) (fun _ _ _ h => h) (Or.inl ⟨?hwe15, ?hye15⟩) (by assumption) ?reste15
          case hie15 => (simp only [List.getElem?_toArray, List.getElem?_cons_succ, List.getElem?_cons_zero]; rfl)
          case hwe15 => rfl
          case hye15 => (intro w hSw; (try dsimp only at hSw); go_simp; try with_reducible rfl)
          (try simp only [Act.put, List.setIfInBounds_toArray, List.set_cons_zero, List.set_cons_succ])
          refine Held.take (i := 16) (oi := ?oe16) (v := ?ve16) ?hie16 (by kernel_rfl) (by kernel_rfl) (by kernel_rfl) (by kernel_rfl) (fun _ _ _ h => h) (Or.inl ⟨?hwe16, ?hye16⟩) (by assumption) ?reste16
          case hie16 => (simp only [List.getElem?_toArray, List.getElem?_cons_succ, List.getElem?_cons_zero]; rfl)
          case hwe16 => rfl
          case hye16 => (intro w hSw; (try dsimp only at hSw); go_simp; try with_reducible rfl)
          (try simp only [Act.put, List.setIfInBounds_toArray, List.set_cons_zero, List.set_cons_succ])
          refine Held.take (i := 17) (oi := ?oe17) (v := ?ve17) ?hie17 (by kernel_rfl) (by kernel_rfl) (by kernel_rfl) (by kernel_rfl) (fun _ _ _ h => h) (Or.inl ⟨?hwe17, ?hye17⟩) (by assumption) ?reste17
          case hie17 => (simp only [List.getElem?_toArray, List.getElem?_cons_succ, List.getElem?_cons_zero]; rfl)
          case hwe17 => rfl
          case hye17 => (intro w hSw; (try dsimp only at hSw); go_simp; try with_reducible rfl)
          (try simp only [Act.put, List.setIfInBounds_toArray, List.set_cons_zero, List.set_cons_succ])
          refine Held.take (i := 18) (oi := ?oe18) (v := ?ve18) ?hie18 (by kernel_rfl) (by kernel_rfl) (by kernel_rfl) (by kernel_rfl) (fun _ _ _ h => h) (Or.inl ⟨?hwe18, ?hye18⟩) (by assumption) ?reste18
          case hie18 => (simp only [List.getElem?_toArray, List.getElem?_cons_succ, List.getElem?_cons_zero]; rfl)
          case hwe18 => rfl
          case hye18 => (intro w hSw; (try dsimp only at hSw); go_simp; try with_reducible rfl)
          (try simp only [Act.put, List.setIfInBounds_toArray, List.set_cons_zero, List.set_cons_succ])
          refine Held.take (i := 19) (oi := ?oe19) (v := ?ve19) ?hie19 (by kernel_rfl) (by kernel_rfl) (by kernel_rfl) (by kernel_rfl) (fun _ _ _ h => h) (Or.inl ⟨?hwe19, ?hye19⟩) (by assumption) ?reste19
          case hie19 => (simp only [List.getElem?_toArray, List.getElem?_cons_succ, List.getElem?_cons_zero]; rfl)
          case hwe19 => rfl
          case hye19 => (intro w hSw; (try dsimp only at hSw); go_simp; try with_reducible rfl)
          (try simp only [Act.put, List.setIfInBounds_toArray, List.set_cons_zero, List.set_cons_succ])
          refine Held.take (i := 20) (oi := ?oe20) (v := ?ve20) ?hie20 (by kernel_rfl) (by kernel_rfl) (by kernel_rfl) (by kernel_rfl) (fun _ _ _ h => h) (Or.inl ⟨?hwe20, ?hye20⟩) (by assumption) ?reste20
          case hie20 => (simp only [List.getElem?_toArray, List.getElem?_cons_succ, List.getElem?_cons_zero]; rfl)
          case hwe20 => rfl
          case hye20 => (intro w hSw; (try dsimp only at hSw); go_simp; try with_reducible rfl)
          (try simp only [Act.put, List.setIfInBounds_toArray, List.set_cons_zero, List.set_cons_succ])
          refine Held.take (i := 21) (oi := ?oe21) (v := ?ve21) ?hie21 (by kernel_rfl) (by kernel_rfl) (by kernel_rfl) (by kernel_rfl) (fun _ _ _ h => h) (Or.inl ⟨?hwe21, ?hye21⟩) (by assumption) ?reste21
          case hie21 => (simp only [List.getElem?_toArray, List.getElem?_cons_succ, List.getElem?_cons_zero]; rfl)
          case hwe21 => rfl
          case hye21 => (intro w hSw; (try dsimp only at hSw); go_simp; try with_reducible rfl)
          (try simp only [Act.put, List.setIfInBounds_toArray, List.set_cons_zero, List.set_cons_succ])
          refine Held.take (i := 22) (oi := ?oe22) (v := ?ve22) ?hie22 (by kernel_rfl) (by kernel_rfl) (by kernel_rfl) (by kernel_rfl) (fun _ _ _ h => h) (Or.inl ⟨?hwe22, ?hye22⟩) (by assumption) ?reste22
          case hie22 => (simp only [List.getElem?_toArray, List.getElem?_cons_succ, List.getElem?_cons_zero]; rfl)
          case hwe22 => rfl
          case hye22 => (intro w hSw; (try dsimp only at hSw); go_simp; try with_reducible rfl)
          (try simp only [Act.put, List.setIfInBounds_toArray, List.set_cons_zero, List.set_cons_succ])
          refine Held.take (i := 23) (oi := ?oe23) (v := ?ve23) ?hie23 (by kernel_rfl) (by kernel_rfl) (by kernel_rfl) (by kernel_rfl) (fun _ _ _ h => h) (Or.inl ⟨?hwe23, ?hye23⟩) (by assumption) ?reste23
          case hie23 => (simp only [List.getElem?_toArray, List.getElem?_cons_succ, List.getElem?_cons_zero]; rfl)
          case hwe23 => rfl
          case hye23 => (intro w hSw; (try dsimp only at hSw); go_simp; try with_reducible rfl)
          (try simp only [Act.put, List.setIfInBounds_toArray, List.set_cons_zero, List.set_cons_succ])
          refine Held.take (i := 24) (oi := ?oe24) (v := ?ve24) ?hie24 (by kernel_rfl) (by kernel_rfl) (by kernel_rfl) (by kernel_rfl) (fun _ _ _ h => h) (Or.inl ⟨?hwe24, ?hye24⟩) (by assumption) ?reste24
          case hie24 => (simp only [List.getElem?_toArray, List.getElem?_cons_succ, List.getElem?_cons_zero]; rfl)
          case hwe24 => rfl
          case hye24 => (intro w hSw; (try dsimp only at hSw); go_simp; try with_reducible rfl)
          (try simp only [Act.put, List.setIfInBounds_toArray, List.set_cons_zero, List.set_cons_succ])
          refine Held.take (i := 25) (oi := ?oe25) (v := ?ve25) ?hie25 (by kernel_rfl) (by kernel_rfl) (by kernel_rfl) (by kernel_rfl) (fun _ _ _ h => h) (Or.inl ⟨?hwe25, ?hye25⟩) (by assumption) ?reste25
          case hie25 => (simp only [List.getElem?_toArray, List.getElem?_cons_succ, List.getElem?_cons_zero]; rfl)
          case hwe25 => rfl
          case hye25 => (intro w hSw; (try dsimp only at hSw); go_simp; try with_reducible rfl)
          (try simp only [Act.put, List.setIfInBounds_toArray, List.set_cons_zero, List.set_cons_succ])
          refine Held.take (i := 26) (oi := ?oe26) (v := ?ve26) ?hie26 (by kernel_rfl) (by kernel_rfl) (by kernel_rfl) (by kernel_rfl) (fun _ _ _ h => h) (Or.inl ⟨?hwe26, ?hye26⟩) (by assumption) ?reste26
          case hie26 => (simp only [List.getElem?_toArray, List.getElem?_cons_succ, List.getElem?_cons_zero]; rfl)
          case hwe26 => rfl
          case hye26 => (intro w hSw; (try dsimp only at hSw); go_simp; try with_reducible rfl)
          (try simp only [Act.put, List.setIfInBounds_toArray, List.set_cons_zero, List.set_cons_succ])
          refine Held.take (i := 27) (oi := ?oe27) (v := ?ve27) ?hie27 (by kernel_rfl) (by kernel_rfl) (by kernel_rfl) (by kernel_rfl) (fun _ _ _ h => h) (Or.inl ⟨?hwe27, ?hye27⟩) (by assumption) ?reste27
          case hie27 => (simp only [List.getElem?_toArray, List.getElem?_cons_succ, List.getElem?_cons_zero]; rfl)
          case hwe27 => rfl
          case hye27 => (intro w hSw; (try dsimp only at hSw); go_simp; try with_reducible rfl)
          (try simp only [Act.put, List.setIfInBounds_toArray, List.set_cons_zero, List.set_cons_succ])
          refine Held.take (i := 28) (oi := ?oe28) (v := ?ve28) ?hie28 (by kernel_rfl) (by kernel_rfl) (by kernel_rfl) (by kernel_rfl) (fun _ _ _ h => h) (Or.inl ⟨?hwe28, ?hye28⟩) (by assumption) ?reste28
          case hie28 => (simp only [List.getElem?_toArray, List.getElem?_cons_succ, List.getElem?_cons_zero]; rfl)
          case hwe28 => rfl
          case hye28 => (intro w hSw; (try dsimp only at hSw); go_simp; try with_reducible rfl)
          (try simp only [Act.put, List.setIfInBounds_toArray, List.set_cons_zero, List.set_cons_succ])
          refine Held.take (i := 29) (oi := ?oe29) (v := ?ve29) ?hie29 (by kernel_rfl) (by kernel_rfl) (by kernel_rfl) (by kernel_rfl) (fun _ _ _ h => h) (Or.inl ⟨?hwe29, ?hye29⟩) (by assumption) ?reste29
          case hie29 => (simp only [List.getElem?_toArray, List.getElem?_cons_succ, List.getElem?_cons_zero]; rfl)
          case hwe29 => rfl
          case hye29 => (intro w hSw; (try dsimp only at hSw); go_simp; try with_reducible rfl)
          (try simp only [Act.put, List.setIfInBounds_toArray, List.set_cons_zero, List.set_cons_succ])
          refine Held.done (by kernel_rfl) ?_ _
          refine NoPanic.normal ?_
          go_wp2_with fail
          go_ret
          exact ⟨ret_bool (by simp), (hf014.drewN 1).trans hf15⟩

set_option maxRecDepth 100000 in
theorem lhl_law (a0 : Option Addr) (len0 cap0 : Nat) (z0 : List Int) (hz0 : z0.length = len0) {w0 : World} (s0 : Sl w0 (fun k => k < w0.heap.size) 1 (.slice a0 len0 cap0) len0 (z0.map (.int .i64))) (_ : ∀ n ∈ z0, (Lit.int .i64 n).wf = true)
    (lit : Int) (_ : (Lit.int .i64 lit).wf = true) (n : Int) (_ : (Lit.int .i64 n).wf = true) (k : Int) (_ : (Lit.int .i64 k).wf = true) (w : World) (e : w = w0) :
    Calls Tryd.prog 16 #[.slice a0 len0 cap0, .int .i64 lit, .int .i64 n, .int .i64 k] w fun e w' => e = .returned (.bool true) ∧ Frm (fun _ => False) w w' := by
  subst e
  by_cases h : len0 ≤ 80
  · exact lhl_any a0 len0 cap0 z0 hz0 lit n k w s0 h
  · have t0 : decide ((80 : Int) < (len0 : Int)) = true := by simp; omega
    go_enter Tryd.func16, Tryd.ntmps16
    go_wp2_with fail
    refine (first10_any w).mono ?_
    rintro e w1 ⟨rfl, hf1⟩
    go_wp2_with fail
    go_ret
    exact ⟨rfl, hf1⟩

end Go.Proofs.YtkjlgamggkencaaDoor
