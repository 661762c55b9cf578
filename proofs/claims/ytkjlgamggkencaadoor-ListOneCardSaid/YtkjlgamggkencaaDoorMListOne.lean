/-
  The walk of ListOne.
-/
import Derived.Test.YtkjlgamggkencaaDoorMLaw24
import Derived.Test.YtkjlgamggkencaaDoorMRowsA
import Derived.Test.YtkjlgamggkencaaDoorMSameB
import Derived.Test.YtkjlgamggkencaaDoorMArgC
namespace Go.Proofs.YtkjlgamggkencaaDoor
open Go.RowKit
set_option linter.unusedVariables false

theorem fn_one_run (v : List Bool) (g : Gr) : ∀ j, outsRun [] [v] g j = ((List.range j).map fun i => bitI (v.getD i false), g) := by
  intro j
  induction j with
  | zero => rfl
  | succ j ih => rw [outs_succ, ih, List.range_succ, List.map_append]; rfl
theorem fn_one (M : Mt) (v : List Bool) : M.fn [v] = ((List.range M.inn).map fun i => bitI (v.getD i false), ⟨M.ou, [], 0⟩) := fn_one_run v ⟨M.ou, [], 0⟩ M.inn
theorem fn_two {M : Mt} (hM : M.Ok) {v : List Bool} (hv : v.length = M.inn) (hf : FnOk M [v, v] (M.fn [v, v])) {inp : List Bool} (hi : inp.length = M.ou) : (M.fn [v, v]).1.map (worth ((M.fn [v, v]).2.nod inp)) = v := by
  cases hw : M.wanted inp v with
  | false => exact hf.val hM (by simp [hv]) inp hi 0 (by simp) (fun j hj => absurd hj (Nat.not_lt_zero _)) (.inr hw)
  | true =>
    refine hf.val hM (by simp [hv]) inp hi 1 (by simp) (fun j hj => ?_) (.inl rfl)
    obtain rfl : j = 0 := by omega
    exact hw

set_option maxRecDepth 100000 in
set_option maxHeartbeats 2000000 in
theorem lone_any (P : Nat → Addr) (a0 a1 : Int) (A2 : Option Addr) (n2 c2 : Nat) (z2 : List Int) (hz2 : z2.length = n2) (x : Int) (ex : Bool) (mvi y : Int) (w : World)
    (s2 : Sl w (fun k => k < w.heap.size) 1 (.slice A2 n2 c2) n2 (z2.map (.int .i64))) (hS : Sents L7 P w) (h2 : n2 ≤ 80) :
    Calls Tryd.prog 20 #[.int .i64 a0, .int .i64 a1, .slice A2 n2 c2, .int .i64 x, .bool ex, .int .i64 mvi, .int .i64 y] w fun e w' => e = .returned (.bool true) ∧ Frm (fun _ => False) w w' := by
  have t0 : decide ((80 : Int) < (n2 : Int)) = false := by simp; omega
  obtain ⟨ou, hou, hou6⟩ := modN a0
  obtain ⟨inn, hinn, hinn6⟩ := modN a1
  have HN0 := Lib.hid (fun (W : World) => number_any a0 7 W (by omega) (by omega))
  have HN1 := Lib.hid (fun (W : World) => number_any a1 7 W (by omega) (by omega))
  simp only [hou] at HN0
  simp only [hinn] at HN1
  clear hou hinn
  have HF := Lib.hid (first24_any P w hS)
  have HMA := Lib.hid (fun (W : World) (hf : Frm (fun _ => False) w W) => match_any ou inn A2 n2 c2 z2 hz2 x ex _ W (s2.frm hf (fun _ _ => id)) (by omega) (by omega) (by omega))
  have HVM := Lib.hid (fun (W : World) => values_any mvi inn (by omega) W)
  have HVA := Lib.hid (fun (W : World) => values_any y ou (by omega) W)
  have HVL := Lib.hid (mkVals_length y ou)
  have HML := Lib.hid (mkVals_length mvi inn)
  clear hz2 s2 hS
  generalize mkVals mvi inn = mv at *
  generalize mkVals y ou = ua at *
  go_enter Tryd.func20, Tryd.ntmps20
  go_wp2_with fail
  refine HF.out.mono ?_
  rintro e w1 ⟨rfl, hf1⟩
  go_wp2_with fail
  refine (HN0.out _).mono ?_
  rintro e w' ⟨rfl, rfl⟩
  go_wp2_with fail
  refine (HN1.out _).mono ?_
  rintro e w' ⟨rfl, rfl⟩
  clear HF HN0 HN1
  go_wp2_with fail
  refine (HMA.out w1 hf1).mono ?_
  rintro e w2 ⟨M, v, rfl, -, rfl, rfl, hLl, hMok, ⟨n, A, c, B, d, hn, rfl, hA, hB⟩, hf2⟩
  have hfa := (Frm.refl (fun _ => False) w2).alloc (.cells #[.bool M.ex, .int .i64 M.ou, .int .i64 n, .slice A M.L.length c, .slice B 1 d] 104)
  have hb3 : Blk (w2.alloc (.cells #[.bool M.ex, .int .i64 M.ou, .int .i64 n, .slice A M.L.length c, .slice B 1 d] 104)) w2.heap.size 104 [.bool M.ex, .int .i64 M.ou, .int .i64 n, .slice A M.L.length c, .slice B 1 d] := Blk.new _ _ _
  have hA3 := (hA.mono (G := fun _ => True) (fun _ _ _ => trivial)).frm hfa (fun _ _ => id)
  have hB3 := (hB.mono (G := fun _ => True) (fun _ _ _ => trivial)).frm hfa (fun _ _ => id)
  have HNN := Lib.hid hn
  have hn20 : n ≤ 20 := by omega
  have hf3 := (hf1.trans hf2).trans hfa
  simp only [mtv]
  clear HMA hA hB hf1 hf2 hfa hn
  obtain ⟨w3, hw3⟩ : ∃ w3, w3 = w2.alloc (.cells #[.bool M.ex, .int .i64 M.ou, .int .i64 n, .slice A M.L.length c, .slice B 1 d] 104) := ⟨_, rfl⟩
  rw [← hw3] at hb3 hA3 hB3 hf3
  go_upto_region 9 with (fail)
  rw [← hw3]
  clear hw3
  go_wp2_with fail
  refine (HVM.out w3).mono ?_
  rintro e w4 ⟨A4, c4, rfl, hown4, hf4⟩
  have hs4 := (own_sl hown4).mono (G := fun _ => True) (fun _ _ _ => trivial)
  have hf04 := hf3.trans hf4
  have hb4 := hb3.frm hf4 id
  have hA4 := hA3.frm hf4 (fun _ _ => id)
  have hB4 := hB3.frm hf4 (fun _ _ => id)
  clear HVM hb3 hA3 hB3 hf3 hf4 hown4
  have q0 := hb4.at_ 0 rfl
  have q1 := hb4.at_ 1 rfl
  have q2 := hb4.at_ 2 rfl
  have q3 := hb4.at_ 3 rfl
  have q4 := hb4.at_ 4 rfl
  have hfr := (Frm.refl (fun _ => False) w4).alloc (.cells #[.slice A4 M.inn c4] 54)
  have hbr : Blk (w4.alloc (.cells #[.slice A4 M.inn c4] 54)) w4.heap.size 54 [.slice A4 M.inn c4] := Blk.new _ _ _
  have hrb : RwB (w4.alloc (.cells #[.slice A4 M.inn c4] 54)) (fun _ => True) (.slice (some ⟨w4.heap.size, 0, none⟩) 1 1) 1 [mv] := by
    have h4 := hs4.frm hfr (fun _ _ => id)
    rw [← HML.out] at h4 hbr ⊢
    exact ⟨rfl, [_], (hbr.sl 1 1 rfl).mono (fun _ _ _ => trivial), EachB.one h4⟩
  have HF1 := Lib.hid (lfun_ok hMok n HNN.out A c B d _ _ _ 1 1 [mv] _ (by omega) (by omega) (by omega) (by omega) (hA4.frm hfr (fun _ _ => id)) (hB4.frm hfr (fun _ _ => id)) (by simp [HML.out]) hrb (by omega))
  rw [fn_one] at HF1
  obtain ⟨L1, hL1⟩ : ∃ L1, L1 = (List.range M.inn).map fun i => bitI (mv.getD i false) := ⟨_, rfl⟩
  rw [← hL1] at HF1
  have hl1 : L1.length = M.inn := by rw [hL1]; simp
  have h1at := fun i (hi : i < M.inn) => show L1[i]? = some (bitI (mv.getD i false)) from by rw [hL1, List.getElem?_map, List.getElem?_range hi]; rfl
  have H1A := Lib.hid h1at
  have HL1 := Lib.hid hl1
  clear hL1 h1at hl1 hbr hrb
  go_wp2_with fail
  refine HF1.out.mono ?_
  rintro e w5 ⟨v, rfl, ⟨Aa, ca, Ba, da, rfl, _, hBa⟩, hf5⟩
  rw [HL1.out] at hBa ⊢
  simp only [cv, List.length_nil]
  clear HF1
  have hf45 := hfr.trans hf5
  have hfc := (Frm.refl (fun _ => False) w5).alloc (.cells #[.int .i64 (M.ou : Int), .slice Aa 0 ca, .slice Ba M.inn da] 40)
  have hbc : Blk (w5.alloc (.cells #[.int .i64 (M.ou : Int), .slice Aa 0 ca, .slice Ba M.inn da] 40)) w5.heap.size 40 [.int .i64 (M.ou : Int), .slice Aa 0 ca, .slice Ba M.inn da] := Blk.new _ _ _
  have hBa6 := (hBa.mono (G := fun _ => True) (fun _ _ _ => trivial)).frm hfc (fun _ _ => id)
  have hf46 := hf45.trans hfc
  have hb6 := hb4.frm hf46 id
  have hA6 := hA4.frm hf46 (fun _ _ => id)
  have hB6 := hB4.frm hf46 (fun _ _ => id)
  have hs6 := hs4.frm hf46 (fun _ _ => id)
  have hf06 := hf04.trans hf46
  obtain ⟨w6, hw6⟩ : ∃ w6, w6 = w5.alloc (.cells #[.int .i64 (M.ou : Int), .slice Aa 0 ca, .slice Ba M.inn da] 40) := ⟨_, rfl⟩
  rw [← hw6] at hbc hBa6 hb6 hA6 hB6 hs6 hf06
  clear hfr hf45 hf46 hfc hBa hb4 hA4 hB4 hs4 hf04 q0 q1 q2 q3 q4 hf5
  go_upto_region 11 with (fail)
  rw [← hw6]
  clear hw6
  have q0 := hb6.at_ 0 rfl
  have q1 := hb6.at_ 1 rfl
  have q2 := hb6.at_ 2 rfl
  have q3 := hb6.at_ 3 rfl
  have q4 := hb6.at_ 4 rfl
  have hfr := (Frm.refl (fun _ => False) w6).alloc (.cells #[.slice A4 M.inn c4, .slice A4 M.inn c4] 54)
  have hbr : Blk (w6.alloc (.cells #[.slice A4 M.inn c4, .slice A4 M.inn c4] 54)) w6.heap.size 54 [.slice A4 M.inn c4, .slice A4 M.inn c4] := Blk.new _ _ _
  have hrb : RwB (w6.alloc (.cells #[.slice A4 M.inn c4, .slice A4 M.inn c4] 54)) (fun _ => True) (.slice (some ⟨w6.heap.size, 0, none⟩) 2 2) 2 [mv, mv] := by
    have h4 := hs6.frm hfr (fun _ _ => id)
    rw [← HML.out] at h4 hbr ⊢
    exact ⟨rfl, [_, _], (hbr.sl 1 2 rfl).mono (fun _ _ _ => trivial), (EachB.one h4).append (EachB.one h4)⟩
  have HF2 := Lib.hid (lfun_ok hMok n HNN.out A c B d _ _ _ 2 2 [mv, mv] _ (by omega) (by omega) (by omega) (by omega) (hA6.frm hfr (fun _ _ => id)) (hB6.frm hfr (fun _ _ => id)) (by simp [HML.out]) hrb (by omega))
  have hfn := fn_ok (M := M) (mvs := [mv, mv]) (by simp) (by simp; omega)
  have htw := fn_two hMok HML.out hfn HVL.out
  have hfm := hfn.many
  have hfl := hfn.lits
  have hfr2 := hfn.made.right
  have hhi := hfn.high
  rw [hfn.num] at hfr2
  have hln : (M.fn [mv, mv]).2.len = M.ou + (M.fn [mv, mv]).2.ands.length := by unfold Gr.len; rw [hfn.num]
  have hnd : (M.fn [mv, mv]).2.nod ua = nodes M.ou (M.fn [mv, mv]).2.ands ua := by unfold Gr.nod; rw [hfn.num]
  rw [hln] at hfl hhi
  rw [hnd] at htw
  have hhi2 : M.ou + (M.fn [mv, mv]).2.ands.length ≤ 200 := by simp at hhi; omega
  clear hfn hln hnd hhi hbr hrb
  generalize (M.fn [mv, mv]).2.ands = L2 at *
  generalize (M.fn [mv, mv]).1 = o2 at *
  have HTW := Lib.hid htw
  have HFM := Lib.hid hfm
  have HFL := Lib.hid hfl
  have HFR := Lib.hid hfr2
  clear htw hfm hfl hfr2
  go_wp2_with fail
  refine HF2.out.mono ?_
  rintro e w7 ⟨v, rfl, ⟨Ab, eb, Bb, db, rfl, hAb, hBb⟩, hf7⟩
  rw [HFM.out] at hBb ⊢
  simp only [cv]
  clear HF2
  obtain ⟨kb, hkb⟩ : ∃ kb, kb = L2.length := ⟨_, rfl⟩
  rw [← hkb] at hAb ⊢
  have HKB := Lib.hid hkb
  clear hkb
  have hfc := (Frm.refl (fun _ => False) w7).alloc (.cells #[.int .i64 (M.ou : Int), .slice Ab kb eb, .slice Bb M.inn db] 40)
  have hbb : Blk (w7.alloc (.cells #[.int .i64 (M.ou : Int), .slice Ab kb eb, .slice Bb M.inn db] 40)) w7.heap.size 40 [.int .i64 (M.ou : Int), .slice Ab kb eb, .slice Bb M.inn db] := Blk.new _ _ _
  have hAb8 := (hAb.mono (G := fun _ => True) (fun _ _ _ => trivial)).frm hfc (fun _ _ => id)
  have hBb8 := (hBb.mono (G := fun _ => True) (fun _ _ _ => trivial)).frm hfc (fun _ _ => id)
  have hf68 := (hfr.trans hf7).trans hfc
  have hbc8 := hbc.frm hf68 id
  have hBa8 := hBa6.frm hf68 (fun _ _ => id)
  have hs8 := hs6.frm hf68 (fun _ _ => id)
  have hf08 := hf06.trans hf68
  obtain ⟨w8, hw8⟩ : ∃ w8, w8 = w7.alloc (.cells #[.int .i64 (M.ou : Int), .slice Ab kb eb, .slice Bb M.inn db] 40) := ⟨_, rfl⟩
  rw [← hw8] at hbb hAb8 hBb8 hbc8 hBa8 hs8 hf08
  clear hfr hf68 hfc hAb hBb hb6 hA6 hB6 hs6 hf06 q0 q1 q2 q3 q4 hf7 hbc hBa6
  go_upto_region 12 with (fail)
  rw [← hw8]
  clear hw8
  have q1 := hbc8.at_ 1 rfl
  have q2 := hbc8.at_ 2 rfl
  have p2 := hbb.at_ 2 rfl
  go_wp2_with fail
  go_loopw [22] (fun iv wr => ∃ (j : Nat), j ≤ M.inn ∧ iv = .int .i64 (j : Int) ∧ Frm (fun _ => False) w8 wr) (fun iv _ => M.inn - (intOf iv).toNat)
  case atStart => exact ⟨0, by omega, rfl, Frm.refl _ _⟩
  case round =>
    obtain ⟨j, hj, rfl, hfj⟩ := hrel
    by_cases hlt : j < M.inn
    · have hlm := HML.out
      obtain ⟨b, o, u, rfl, _, hu, hc⟩ := (hs8.frm hfj (fun _ _ => id)).at_ hlt
      obtain rfl := at_bool hu
      obtain ⟨b', o', u', rfl, _, hu', hc'⟩ := (hBa8.frm hfj (fun _ _ => id)).at_ hlt
      have e1 := H1A.out j hlt
      rw [List.getElem?_map, e1] at hu'
      simp only [Option.map_some, Option.some.injEq] at hu'
      subst hu'
      have p2' := (hbc8.frm hfj id).at_ 2 rfl
      have j0 : (0 : Int) ≤ j := by omega
      have j1 : (j : Int) < M.inn := by omega
      clear hu e1 hlm q1 q2 p2
      generalize mv.getD j false = z at *
      cases z
      · simp only [bitI] at hc'
        go_wp2_with fail
        go_quiet (fail)
        go_wp2_with fail
        go_roundw
        case rel => exact ⟨j + 1, by omega, by go_num, hfj.drewN _⟩
        case measure => simp [intOf]; omega
      · simp only [bitI] at hc'
        go_wp2_with fail
        go_quiet (fail)
        go_wp2_with fail
        go_roundw
        case rel => exact ⟨j + 1, by omega, by go_num, hfj.drewN _⟩
        case measure => simp [intOf]; omega
    · have hfd := hf08.trans (hfj.drewN 1)
      have hjd := hfj.drewN 1
      have hbbj := hbb.frm hfj id
      generalize w7.heap.size = cb at *
      have HRE := Lib.hid (fun (W : World) (hf : Frm (fun _ => False) w8 W) (Ai : Option Addr) (ci : Nat) (G : Nat → Prop) (hi : Sl W G 1 (.slice Ai M.ou ci) M.ou (ua.map .bool)) =>
        reval_any M.ou L2 Ab kb eb Bb M.inn db o2 Ai M.ou ci ua _ _ G W HKB.out.symm HFM.out HVL.out HFR.out (by omega) (by have := HKB.out; omega) (by omega) (fun q hq => by rw [HKB.out]; exact HFL.out q hq) (hAb8.frm hf (fun _ _ => id)) (hBb8.frm hf (fun _ _ => id)) hi)
      have hev : evalOuts (nodes M.ou L2 ua) o2 = mv := HTW.out
      rw [hev] at HRE
      simp only [cv] at HRE
      have HSB := Lib.hid (fun (W : World) (hf : Frm (fun _ => False) w8 W) (Ai : Option Addr) (ci : Nat) (G : Nat → Prop) (hi : Sl W G 1 (.slice Ai M.inn ci) M.inn (mv.map .bool)) =>
        sameB_eq Ai A4 M.inn ci c4 G _ mv W HML.out (by omega) hi (hs8.frm hf (fun _ _ => id)))
      have hH0 : wr.drew.cell? ⟨cb, 0, none⟩ = some (.int .i64 (M.ou : Int)) ∧ wr.drew.cell? ⟨cb, 1, none⟩ = some (.slice Ab kb eb) ∧ wr.drew.cell? ⟨cb, 2, none⟩ = some (.slice Bb M.inn db) := ⟨hbbj.at_ 0 rfl, hbbj.at_ 1 rfl, hbbj.at_ 2 rfl⟩
      have HH := Lib.hid (fun (W W' : World) (hf : Frm (fun _ => False) W W') (h : W.cell? ⟨cb, 0, none⟩ = some (.int .i64 (M.ou : Int)) ∧ W.cell? ⟨cb, 1, none⟩ = some (.slice Ab kb eb) ∧ W.cell? ⟨cb, 2, none⟩ = some (.slice Bb M.inn db)) => show W'.cell? ⟨cb, 0, none⟩ = some (.int .i64 (M.ou : Int)) ∧ W'.cell? ⟨cb, 1, none⟩ = some (.slice Ab kb eb) ∧ W'.cell? ⟨cb, 2, none⟩ = some (.slice Bb M.inn db) from ⟨hf.cell h.1 id, hf.cell h.2.1 id, hf.cell h.2.2 id⟩)
      clear hev hbbj hbb hAb8 hBb8 hbc8 hBa8 hs8 q1 q2 p2
      go_wp2_with fail
      have hHeld := hH0
      refine Held.begin (fun w' => w'.cell? ⟨cb, 0, none⟩ = some (.int .i64 (M.ou : Int)) ∧ w'.cell? ⟨cb, 1, none⟩ = some (.slice Ab kb eb) ∧ w'.cell? ⟨cb, 2, none⟩ = some (.slice Bb M.inn db)) 12 (by kernel_rfl) ?_
      refine Held.take (i := 0) (oi := ?oa0) (v := ?va0) ?hia0 (by kernel_rfl) (by kernel_rfl) (by kernel_rfl) (by kernel_rfl) (fun _ _ _ h => h) (Or.inl ⟨?hwa0, ?hya0⟩) (by assumption) ?resta0
      case hia0 => (simp only [List.getElem?_toArray, List.getElem?_cons_zero]; rfl)
      case hwa0 => rfl
      case hya0 => (intro w hSw; (try dsimp only at hSw); go_simp; try with_reducible rfl)
      (try simp only [Act.put, List.setIfInBounds_toArray, List.set_cons_zero, List.set_cons_succ])
      refine Held.take (i := 1) (oi := ?oa1) (v := ?va1) ?hia1 (by kernel_rfl) (by kernel_rfl) (by kernel_rfl) (by kernel_rfl) (fun _ _ _ h => h) (Or.inl ⟨?hwa1, ?hya1⟩) (by assumption) ?resta1
      case hia1 => (simp only [List.getElem?_toArray, List.getElem?_cons_succ, List.getElem?_cons_zero]; rfl)
      case hwa1 => rfl
      case hya1 => (intro w hSw; (try dsimp only at hSw); go_simp; try with_reducible rfl)
      (try simp only [Act.put, List.setIfInBounds_toArray, List.set_cons_zero, List.set_cons_succ])
      refine Held.take (i := 2) (oi := ?oa2) (v := ?va2) ?hia2 (by kernel_rfl) (by kernel_rfl) (by kernel_rfl) (by kernel_rfl) (fun _ _ _ h => h) (Or.inl ⟨?hwa2, ?hya2⟩) (by assumption) ?resta2
      case hia2 => (simp only [List.getElem?_toArray, List.getElem?_cons_succ, List.getElem?_cons_zero]; rfl)
      case hwa2 => rfl
      case hya2 => (intro w hSw; (try dsimp only at hSw); go_simp; try with_reducible rfl)
      (try simp only [Act.put, List.setIfInBounds_toArray, List.set_cons_zero, List.set_cons_succ])
      refine Held.take (i := 3) (oi := ?oa3) (v := ?va3) ?hia3 (by kernel_rfl) (by kernel_rfl) (by kernel_rfl) (by kernel_rfl) (fun _ _ _ h => h) (Or.inl ⟨?hwa3, ?hya3⟩) (by assumption) ?resta3
      case hia3 => (simp only [List.getElem?_toArray, List.getElem?_cons_succ, List.getElem?_cons_zero]; rfl)
      case hwa3 => rfl
      case hya3 => (intro w hSw; (try dsimp only at hSw); go_simp; try with_reducible rfl)
      (try simp only [Act.put, List.setIfInBounds_toArray, List.set_cons_zero, List.set_cons_succ])
      refine Held.take (i := 4) (oi := ?oa4) (v := ?va4) ?hia4 (by kernel_rfl) (by kernel_rfl) (by kernel_rfl) (by kernel_rfl) (fun _ _ _ h => h) (Or.inl ⟨?hwa4, ?hya4⟩) (by assumption) ?resta4
      case hia4 => (simp only [List.getElem?_toArray, List.getElem?_cons_succ, List.getElem?_cons_zero]; rfl)
      case hwa4 => rfl
      case hya4 => (intro w hSw; (try dsimp only at hSw); go_simp; try with_reducible rfl)
      (try simp only [Act.put, List.setIfInBounds_toArray, List.set_cons_zero, List.set_cons_succ])
      refine Held.take (i := 7) (oi := ?oa7) (v := ?va7) ?hia7 (by kernel_rfl) (by kernel_rfl) (by kernel_rfl) (by kernel_rfl) (fun _ _ _ h => h) (Or.inl ⟨?hwa7, ?hya7⟩) (by assumption) ?resta7
      case hia7 => (simp only [List.getElem?_toArray, List.getElem?_cons_succ, List.getElem?_cons_zero]; rfl)
      case hwa7 => rfl
      case hya7 => (intro w hSw; (try dsimp only at hSw); go_simp; try with_reducible rfl)
      (try simp only [Act.put, List.setIfInBounds_toArray, List.set_cons_zero, List.set_cons_succ])
      refine Held.next (i := 5) (o := ?oa5) (by kernel_rfl) ?hia5 (fun K hK => ?sta5)
      case hia5 => (simp only [List.getElem?_toArray, List.getElem?_cons_succ, List.getElem?_cons_zero]; rfl)
      go_simp
      (go_at_call 46; refine (HVA.out _).mono ?_; rintro e w9 ⟨Ai, ci, rfl, hown9, hf9⟩)
      (try go_wp2_with fail)
      refine hK.out _ _ (fun _ => by exact HH.out _ _ hf9 hHeld) ?_
      clear hK K
      (try simp only [Act.put, List.setIfInBounds_toArray, List.set_cons_zero, List.set_cons_succ])
      have hH2 := HH.out _ _ hf9 hHeld
      have hd9 := hjd.trans hf9
      refine Held.next (i := 6) (o := ?oa6) (by kernel_rfl) ?hia6 (fun K hK => ?sta6)
      case hia6 => (simp only [List.getElem?_toArray, List.getElem?_cons_succ, List.getElem?_cons_zero]; rfl)
      go_simp
      (go_at_call 47; refine (HRE.out _ hd9 Ai ci _ (own_sl hown9)).mono ?_; rintro e w10 ⟨Ag, cg, rfl, hown10, hf10⟩)
      (try go_wp2_with fail)
      refine hK.out _ _ (fun _ => by exact HH.out _ _ hf10 hH2) ?_
      clear hK K
      (try simp only [Act.put, List.setIfInBounds_toArray, List.set_cons_zero, List.set_cons_succ])
      have hH3 := HH.out _ _ hf10 hH2
      have hd10 := hd9.trans hf10
      refine Held.next (i := 8) (o := ?oa8) (by kernel_rfl) ?hia8 (fun K hK => ?sta8)
      case hia8 => (simp only [List.getElem?_toArray, List.getElem?_cons_succ, List.getElem?_cons_zero]; rfl)
      go_simp
      (go_at_call 68; refine (HSB.out _ hd10 Ag cg _ (own_sl hown10)).mono ?_; rintro e w' ⟨rfl, n15, rfl⟩)
      (try go_wp2_with fail)
      refine hK.out _ _ (fun _ => by exact hH3) ?_
      clear hK K
      (try simp only [Act.put, List.setIfInBounds_toArray, List.set_cons_zero, List.set_cons_succ])
      have hH4 := HH.out _ _ ((Frm.refl (fun _ => False) w10).drewN n15) hH3
      have hfin := ((hfd.trans hf9).trans hf10).drewN n15
      refine Held.take (i := 9) (oi := ?oa9) (v := ?va9) ?hia9 (by kernel_rfl) (by kernel_rfl) (by kernel_rfl) (by kernel_rfl) (fun _ _ _ h => h) (Or.inl ⟨?hwa9, ?hya9⟩) (by assumption) ?resta9
      case hia9 => (simp only [List.getElem?_toArray, List.getElem?_cons_succ, List.getElem?_cons_zero]; rfl)
      case hwa9 => rfl
      case hya9 => (intro w hSw; (try dsimp only at hSw); go_simp; try with_reducible rfl)
      (try simp only [Act.put, List.setIfInBounds_toArray, List.set_cons_zero, List.set_cons_succ])
      refine Held.take (i := 10) (oi := ?oa10) (v := ?va10) ?hia10 (by kernel_rfl) (by kernel_rfl) (by kernel_rfl) (by kernel_rfl) (fun _ _ _ h => h) (Or.inl ⟨?hwa10, ?hya10⟩) (by assumption) ?resta10
      case hia10 => (simp only [List.getElem?_toArray, List.getElem?_cons_succ, List.getElem?_cons_zero]; rfl)
      case hwa10 => rfl
      case hya10 => (intro w hSw; (try dsimp only at hSw); go_simp; try with_reducible rfl)
      (try simp only [Act.put, List.setIfInBounds_toArray, List.set_cons_zero, List.set_cons_succ])
      refine Held.take (i := 11) (oi := ?oa11) (v := ?va11) ?hia11 (by kernel_rfl) (by kernel_rfl) (by kernel_rfl) (by kernel_rfl) (fun _ _ _ h => h) (Or.inl ⟨?hwa11, ?hya11⟩) (by assumption) ?resta11
      case hia11 => (simp only [List.getElem?_toArray, List.getElem?_cons_succ, List.getElem?_cons_zero]; rfl)
      case hwa11 => rfl
      case hya11 => (intro w hSw; (try dsimp only at hSw); go_simp; try with_reducible rfl)
      (try simp only [Act.put, List.setIfInBounds_toArray, List.set_cons_zero, List.set_cons_succ])
      refine Held.next (i := 12) (o := ?oa12) (by kernel_rfl) ?hia12 (fun K hK => ?sta12)
      case hia12 => (simp only [List.getElem?_toArray, List.getElem?_cons_succ, List.getElem?_cons_zero]; rfl)
      go_simp
      refine hK.out _ _ (fun h => absurd h (by decide)) ?_
      clear hK K
      (try simp only [Act.put, List.setIfInBounds_toArray, List.set_cons_zero, List.set_cons_succ])
      refine Held.done (by kernel_rfl) ?_ _
      refine NoPanic.normal ?_
      go_wp2_with fail
      go_ret
      exact ⟨rfl, hfin⟩

set_option maxRecDepth 100000 in
set_option maxHeartbeats 2000000 in
/-- the guard's own way out -/
theorem lone_out (P : Nat → Addr) (a0 a1 : Int) (A2 : Option Addr) (n2 c2 : Nat) (x : Int) (ex : Bool) (mvi y : Int) (w : World) (hS : Sents L7 P w) (h : ¬ n2 ≤ 80) :
    Calls Tryd.prog 20 #[.int .i64 a0, .int .i64 a1, .slice A2 n2 c2, .int .i64 x, .bool ex, .int .i64 mvi, .int .i64 y] w fun e w' => e = .returned (.bool true) ∧ Frm (fun _ => False) w w' := by
  have HF := Lib.hid (first24_any P w hS)
  have HN := Lib.hid h
  clear h hS
  have g0 : (80 : Int) < n2 := by have := HN.out; omega
  go_enter Tryd.func20, Tryd.ntmps20
  go_wp2_with fail
  refine HF.out.mono ?_
  rintro e w1 ⟨rfl, hf1⟩
  go_wp2_with fail
  go_ret
  exact ⟨rfl, hf1⟩

theorem lone_law (a0 : Int) (_ : (Lit.int .i64 a0).wf = true) (a1 : Int) (_ : (Lit.int .i64 a1).wf = true)
    (A2 : Option Addr) (n2 c2 : Nat) (z2 : List Int) (hz2 : z2.length = n2) {w0 : World} (s2 : Sl w0 (fun k => k < w0.heap.size) 1 (.slice A2 n2 c2) n2 (z2.map (.int .i64))) (_ : ∀ n ∈ z2, (Lit.int .i64 n).wf = true)
    (x : Int) (_ : (Lit.int .i64 x).wf = true) (ex : Bool)
    (mvi : Int) (_ : (Lit.int .i64 mvi).wf = true) (y : Int) (_ : (Lit.int .i64 y).wf = true)
    (w : World) (e : w = w0) (hL : laidMetH Tryd.prog Rows.graphPlaysRow.laid w) :
    Calls Tryd.prog 20 #[.int .i64 a0, .int .i64 a1, .slice A2 n2 c2, .int .i64 x, .bool ex, .int .i64 mvi, .int .i64 y] w fun e w' => e = .returned (.bool true) ∧ Frm (fun _ => False) w w' := by
  subst e
  by_cases h : n2 ≤ 80
  · exact lone_any _ a0 a1 A2 n2 c2 z2 hz2 x ex mvi y w s2 (sents7 hL) h
  · exact lone_out _ a0 a1 A2 n2 c2 x ex mvi y w (sents7 hL) h

end Go.Proofs.YtkjlgamggkencaaDoor
