/-
  The walk of ListSays.
-/
import Derived.Test.YtkjlgamggkencaaDoorMLaw24
import Derived.Test.YtkjlgamggkencaaDoorMListR
import Derived.Test.YtkjlgamggkencaaDoorMRowsC
import Derived.Test.YtkjlgamggkencaaDoorMArgC
namespace Go.Proofs.YtkjlgamggkencaaDoor
open Go.RowKit
set_option linter.unusedVariables false

set_option maxRecDepth 100000 in
set_option maxHeartbeats 1000000 in
theorem rfun_none {M : Mt} (hM : M.Ok) (n : Nat) (hn : n = M.ou + M.inn) (A : Option Addr) (c : Nat) (B : Option Addr) (d : Nat) (F : Nat → Prop) (Av : Option Addr) (cv' : Nat) (w : World) (h4 : n ≤ 100) (h5 : M.L.length ≤ 100)
    (hA : Sl w F 2 (.slice A M.L.length c) M.L.length (pairs M.L)) (hB : Sl w F 1 (.slice B 1 d) 1 ([M.o].map (.int .i64))) :
    Calls Tryd.prog 96 #[mtv M.ex M.ou n A M.L.length c B d, .slice Av 0 cv'] w fun e w' => e = .returned (.tuple #[cv 0 none 0 0 none 0 0, .int .i64 104]) ∧ Frm (fun _ => False) w w' := by
  have hf0 := ((Frm.refl (fun _ => False) w).alloc (.cells #[.bool M.ex, .int .i64 M.ou, .int .i64 n, .slice A M.L.length c, .slice B 1 d] 104)).alloc (.cells #[.int .i64 0, .slice none 0 0, .slice none 0 0] 40)
  have hb0 : Blk ((w.alloc (.cells #[.bool M.ex, .int .i64 M.ou, .int .i64 n, .slice A M.L.length c, .slice B 1 d] 104)).alloc (.cells #[.int .i64 0, .slice none 0 0, .slice none 0 0] 40)) w.heap.size 104 [.bool M.ex, .int .i64 M.ou, .int .i64 n, .slice A M.L.length c, .slice B 1 d] := (Blk.new _ _ _).alloc _
  have hr0 : Blk ((w.alloc (.cells #[.bool M.ex, .int .i64 M.ou, .int .i64 n, .slice A M.L.length c, .slice B 1 d] 104)).alloc (.cells #[.int .i64 0, .slice none 0 0, .slice none 0 0] 40)) (w.heap.size + 1) 40 [.int .i64 0, .slice none 0 0, .slice none 0 0] := Blk.new_at _ _ _ _ (by simp)
  have HCK := Lib.hid (mrcheck_ok hM n hn A c B d F _ (by omega) (hA.frm hf0 (fun _ _ => id)) (hB.frm hf0 (fun _ _ => id)))
  clear hA hB hM hn h4 h5
  generalize M.ex = ex at *
  generalize M.ou = ou at *
  generalize M.L.length = m at *
  go_enter Tryd.func96, Tryd.ntmps96
  have b0 := hb0.at_ 0 rfl
  have b1 := hb0.at_ 1 rfl
  have b2 := hb0.at_ 2 rfl
  have b3 := hb0.at_ 3 rfl
  have b4 := hb0.at_ 4 rfl
  go_wp2_with fail
  refine HCK.out.mono ?_
  rintro e w1 ⟨rfl, hf1⟩
  have hr1 := hr0.frm hf1 id
  have hf01 := hf0.trans hf1
  clear b0 b1 b2 b3 b4 hb0 hr0 hf0 hf1 HCK
  go_wp2_with fail
  go_loopw [6, 7] (fun bv iv wr => bv = .int .i64 104 ∧ iv = .int .i64 0 ∧ wr = w1) (fun _ _ _ => 0)
  case atStart => exact ⟨rfl, rfl, rfl⟩
  case round =>
    obtain ⟨rfl, rfl, rfl⟩ := hrel
    have r0 := hr1.at_ 0 rfl
    have r1 := hr1.at_ 1 rfl
    have r2 := hr1.at_ 2 rfl
    have z0 := hr1.frozen 0
    have z1 := hr1.frozen 1
    have z2 := hr1.frozen 2
    have hb3 := ((hr1.set_ 0 (.int .i64 0)).set_ 1 (.slice none 0 0)).set_ 2 (.slice none 0 0)
    have d0 := hb3.at_ 0 rfl
    have d1 := hb3.at_ 1 rfl
    have d2 := hb3.at_ 2 rfl
    have hf3 := (((Frm.refl (fun g => g = w.heap.size + 1) wr).setCell (p := ⟨w.heap.size + 1, 0, none⟩) (fun _ => rfl) (.int .i64 0)).setCell (p := ⟨w.heap.size + 1, 1, none⟩) (fun _ => rfl) (.slice none 0 0)).setCell (p := ⟨w.heap.size + 1, 2, none⟩) (fun _ => rfl) (.slice none 0 0)
    have hfin := hf01.then' hf3 (fun g hg e => by omega)
    clear hb3
    go_wp2_with fail
    refine bodyPost_ret (v := .tuple #[cv 0 none 0 0 none 0 0, .int .i64 104]) (by simp [results, Tryd.results96, go_sem, d0, d1, d2, cv]) rfl ⟨rfl, hfin⟩

theorem lfun_all (P : Nat → Addr) {M : Mt} (hM : M.Ok) (n : Nat) (hn : n = M.ou + M.inn) (A : Option Addr) (c : Nat) (B : Option Addr) (d : Nat) (F Fv : Nat → Prop) (Av : Option Addr) (k cv' : Nat) (mvs : List (List Bool)) (w : World) (h4 : n ≤ 100) (h5 : M.L.length ≤ 100) (h6 : M.inn ≤ 100) (hk : k ≤ 30)
    (hA : Sl w F 2 (.slice A M.L.length c) M.L.length (pairs M.L)) (hB : Sl w F 1 (.slice B 1 d) 1 ([M.o].map (.int .i64))) (hl : ∀ r ∈ mvs, r.length = M.inn) (hR : RwB w Fv (.slice Av k cv') k mvs) (hsz : M.ou + k * M.L.length + M.inn * (3 * k) < 7000) (hS : Sents L7 P w) :
    Calls Tryd.prog 94 #[mtv M.ex M.ou n A M.L.length c B d, .slice Av k cv'] w fun e w' => ∃ v, e = .returned (.tuple #[v, PE P (if k = 0 then 104 else 0)]) ∧ IsC w' (fun k => w.heap.size ≤ k) v (if k = 0 then 0 else M.ou) (if k = 0 then [] else (M.fn mvs).2.ands) (if k = 0 then [] else (M.fn mvs).1) ∧ Frm (fun _ => False) w w' := by
  by_cases h0 : k = 0
  · simp only [h0, if_true]
    subst h0
    refine (lfun_bad P hM n hn A c B d F Fv Av 0 cv' mvs w h4 h5 (by omega) hA hB (fun r hr => by have := hl r hr; omega) hR hS (.inl rfl)).mono ?_
    rintro e w' ⟨rfl, hf⟩
    exact ⟨_, rfl, ⟨none, 0, none, 0, rfl, Sl.nil_ _ _ _, Sl.nil_ _ _ _⟩, hf⟩
  · simp only [h0, if_false]
    exact lfun_ok hM n hn A c B d F Fv Av k cv' mvs w h4 h5 (by omega) hk hA hB hl hR hsz

theorem rfun_all {M : Mt} (hM : M.Ok) (n : Nat) (hn : n = M.ou + M.inn) (A : Option Addr) (c : Nat) (B : Option Addr) (d : Nat) (F Fv : Nat → Prop) (Av : Option Addr) (k cv' : Nat) (mvs : List (List Bool)) (w : World) (h4 : n ≤ 100) (h5 : M.L.length ≤ 100) (hk : k ≤ 30)
    (hA : Sl w F 2 (.slice A M.L.length c) M.L.length (pairs M.L)) (hB : Sl w F 1 (.slice B 1 d) 1 ([M.o].map (.int .i64))) (hl : ∀ r ∈ mvs, r.length = M.inn) (hR : RwB w Fv (.slice Av k cv') k mvs) (hsz : M.ou + k * M.L.length + M.inn * (3 * k) < 7000) :
    Calls Tryd.prog 96 #[mtv M.ex M.ou n A M.L.length c B d, .slice Av k cv'] w fun e w' => ∃ v, e = .returned (.tuple #[v, .int .i64 ((if k = 0 then 104 else 0 : Nat) : Int)]) ∧ IsC w' (fun k => w.heap.size ≤ k) v (if k = 0 then 0 else M.ou) (if k = 0 then [] else (M.fn mvs).2.ands) (if k = 0 then [] else (M.fn mvs).1) ∧ Frm (fun _ => False) w w' := by
  by_cases h0 : k = 0
  · simp only [h0, if_true]
    subst h0
    refine (rfun_none hM n hn A c B d F Av cv' w h4 h5 hA hB).mono ?_
    rintro e w' ⟨rfl, hf⟩
    exact ⟨_, rfl, ⟨none, 0, none, 0, rfl, Sl.nil_ _ _ _, Sl.nil_ _ _ _⟩, hf⟩
  · simp only [h0, if_false]
    exact rfun_ok hM n hn A c B d F Fv Av k cv' mvs w h4 h5 (by omega) hk hA hB hl hR hsz

set_option maxRecDepth 100000 in
set_option maxHeartbeats 4000000 in
theorem lisays_any (P : Nat → Addr) (a0 a1 : Int) (A2 : Option Addr) (n2 c2 : Nat) (z2 : List Int) (hz2 : z2.length = n2) (x : Int) (ex : Bool) (A5 : Option Addr) (n5 c5 : Nat) (z5 : List Int) (hz5 : z5.length = n5) (y1 y2 : Int) (w : World)
    (s2 : Sl w (fun k => k < w.heap.size) 1 (.slice A2 n2 c2) n2 (z2.map (.int .i64))) (s5 : Sl w (fun k => k < w.heap.size) 1 (.slice A5 n5 c5) n5 (z5.map (.int .i64)))
    (hS : Sents L7 P w) (h2 : n2 ≤ 80) (h5 : n5 ≤ 12) :
    Calls Tryd.prog 21 #[.int .i64 a0, .int .i64 a1, .slice A2 n2 c2, .int .i64 x, .bool ex, .slice A5 n5 c5, .int .i64 y1, .int .i64 y2] w fun e w' => e = .returned (.bool true) ∧ Frm (fun _ => False) w w' := by
  obtain ⟨j0, hj0, hj1, hj2, hj3⟩ := info_parts infoBoolG
  have t0 : decide ((80 : Int) < (n2 : Int)) = false := by simp; omega
  have t1 : decide ((12 : Int) < (n5 : Int)) = false := by simp; omega
  obtain ⟨ou, hou, hou6⟩ := modN a0
  obtain ⟨inn, hinn, hinn6⟩ := modN a1
  have HN0 := Lib.hid (fun (W : World) => number_any a0 7 W (by omega) (by omega))
  have HN1 := Lib.hid (fun (W : World) => number_any a1 7 W (by omega) (by omega))
  simp only [hou] at HN0
  simp only [hinn] at HN1
  clear hou hinn
  have HF := Lib.hid (first24_any P w hS)
  have HSS := Lib.hid (fun (W : World) (hf : Frm (fun _ => False) w W) => hS.frm hf)
  have HMA := Lib.hid (fun (W : World) (hf : Frm (fun _ => False) w W) => match_any ou inn A2 n2 c2 z2 hz2 x ex _ W (s2.frm hf (fun _ _ => id)) (by omega) (by omega) (by omega))
  have HMO := Lib.hid (fun (W : World) (hf : Frm (fun _ => False) w W) => moves_any A5 n5 c5 _ z5 inn W hz5 (by omega) (by omega) (s5.frm hf (fun _ _ => id)))
  have HVA := Lib.hid (fun (W : World) => values_any y1 ou (by omega) W)
  have HVB := Lib.hid (fun (W : World) => values_any y2 inn (by omega) W)
  have hml : ∀ r ∈ mkMoves z5 inn, r.length = inn := by intro r hr; obtain ⟨q, _, rfl⟩ := List.mem_map.1 hr; exact mkVals_length _ _
  have HVL := Lib.hid (mkVals_length y1 ou)
  have HVM := Lib.hid (mkVals_length y2 inn)
  have HML := Lib.hid hml
  clear hz2 hz5 s2 s5 hS hml
  generalize mkMoves z5 inn = cs at *
  generalize mkVals y1 ou = ua at *
  generalize mkVals y2 inn = ub at *
  go_enter Tryd.func21, Tryd.ntmps21
  go_wp2_with fail
  refine HF.out.mono ?_
  rintro e w1 ⟨rfl, hf1⟩
  go_wp2_with fail
  refine (HN0.out _).mono ?_
  rintro e w' ⟨rfl, rfl⟩
  go_wp2_with fail
  refine (HN1.out _).mono ?_
  rintro e w' ⟨rfl, rfl⟩
  clear HF HN0 HN1
  go_wp2_with fail
  refine (HMA.out w1 hf1).mono ?_
  rintro e w2 ⟨M, v, rfl, -, rfl, rfl, hLl, hMok, ⟨n, A, c, B, d, hn, rfl, hA, hB⟩, hf2⟩
  have hfa := (Frm.refl (fun _ => False) w2).alloc (.cells #[.bool M.ex, .int .i64 M.ou, .int .i64 n, .slice A M.L.length c, .slice B 1 d] 104)
  have hb3 : Blk (w2.alloc (.cells #[.bool M.ex, .int .i64 M.ou, .int .i64 n, .slice A M.L.length c, .slice B 1 d] 104)) w2.heap.size 104 [.bool M.ex, .int .i64 M.ou, .int .i64 n, .slice A M.L.length c, .slice B 1 d] := Blk.new _ _ _
  have hA3 := (hA.mono (G := fun k => k < w2.heap.size) (fun k hk _ => hk)).frm hfa (fun _ _ => id)
  have hB3 := (hB.mono (G := fun k => k < w2.heap.size) (fun k hk _ => hk)).frm hfa (fun _ _ => id)
  have HNN := Lib.hid hn
  have hn20 : n ≤ 20 := by omega
  have hws := (hf1.trans hf2).size
  have hbas : w2.heap.size < (w2.alloc (.cells #[.bool M.ex, .int .i64 M.ou, .int .i64 n, .slice A M.L.length c, .slice B 1 d] 104)).heap.size := by simp
  have hf3 := (hf1.trans hf2).trans hfa
  simp only [mtv]
  clear HMA hA hB hf1 hf2 hfa hn
  obtain ⟨w3, hw3⟩ : ∃ w3, w3 = w2.alloc (.cells #[.bool M.ex, .int .i64 M.ou, .int .i64 n, .slice A M.L.length c, .slice B 1 d] 104) := ⟨_, rfl⟩
  rw [← hw3] at hb3 hA3 hB3 hf3 hbas
  go_upto_region 9 with (fail)
  rw [← hw3]
  clear hw3
  generalize w2.heap.size = mb at *
  go_wp2_with fail
  refine (HMO.out _ hf3).mono ?_
  rintro e w4 ⟨v, rfl, hRO, hf4⟩
  have hs34 := hf4.size
  generalize w3.heap.size = base at *
  obtain ⟨Av, cv', rfl, hcv, _⟩ := hRO.form
  obtain ⟨hcl, vs, hown, hea⟩ := hRO
  have hown4 : ∀ g, (Value.slice Av n5 cv').ownBlock = some g → base ≤ g ∧ g < w4.heap.size := hown.lt
  have hea4 := hea.mono (G := fun k => (base ≤ k ∧ (Value.slice Av n5 cv').ownBlock ≠ some k) ∧ k < w4.heap.size) (fun k hk h => ⟨h, hk⟩)
  have HPRE := Lib.hid (fun (W : World) (hf : Frm (fun _ => False) w4 W) => And.intro (own_frm hown hf (fun _ _ => id)) (hea4.frm hf (fun _ _ => id)))
  have hR4 : RwB w4 (fun k => k < w4.heap.size) (.slice Av n5 cv') n5 cs := ⟨hcl, vs, (own_sl hown).mono (fun k hk _ => hk), hea4.mono (fun _ _ h => h.2)⟩
  have HCL := Lib.hid hcl
  have hf04 := hf3.trans hf4
  have hb4 := hb3.frm hf4 id
  have hA4 := hA3.frm hf4 (fun _ _ => id)
  have hB4 := hB3.frm hf4 (fun _ _ => id)
  clear HMO hb3 hA3 hB3 hf3 hf4 hown hea hea4 hcl
  go_wp2_with fail
  refine (HVA.out w4).mono ?_
  rintro e w5 ⟨Aa, ca, rfl, hown5, hf5⟩
  have hu5 := (own_sl hown5).mono (G := fun k => w4.heap.size ≤ k) (fun k _ h => h.1)
  clear hown5 HVA
  go_wp2_with fail
  refine (HVB.out w5).mono ?_
  rintro e w6 ⟨Ac, cc, rfl, hown6, hf6⟩
  have hs5 := hf5.size
  have hv6 := (own_sl hown6).mono (G := fun k => w4.heap.size ≤ k) (fun k _ h => by have := h.1; omega)
  have hu6 := hu5.frm hf6 (fun _ _ => id)
  have hf46 := hf5.trans hf6
  have hs6 := hf46.size
  have hf06 := hf04.trans hf46
  have hb6 := hb4.frm hf46 id
  have hA6 := hA4.frm hf46 (fun _ _ => id)
  have hB6 := hB4.frm hf46 (fun _ _ => id)
  have hR6 := hR4.frm hf46 (fun _ _ => id)
  clear hown6 HVB hf5 hf6 hu5 hf04 hb4 hA4 hB4 hR4
  have q0 := hb6.at_ 0 rfl
  have q1 := hb6.at_ 1 rfl
  have q2 := hb6.at_ 2 rfl
  have q3 := hb6.at_ 3 rfl
  have q4 := hb6.at_ 4 rfl
  have hs1 : n5 * M.L.length ≤ 12 * 40 := Nat.mul_le_mul (by omega) (by omega)
  have hs2 : M.inn * (3 * n5) ≤ 6 * 36 := Nat.mul_le_mul (by omega) (by omega)
  have HF1 := Lib.hid (lfun_all P hMok n HNN.out A c B d _ _ Av n5 cv' cs w6 (by omega) (by omega) (by omega) (by omega) hA6 hB6 HML.out hR6 (by omega) (HSS.out _ hf06))
  have HR1 := Lib.hid (fun (W : World) (hf : Frm (fun _ => False) w6 W) => rfun_all hMok n HNN.out A c B d _ _ Av n5 cv' cs W (by omega) (by omega) (by omega) (hA6.frm hf (fun _ _ => id)) (hB6.frm hf (fun _ _ => id)) HML.out (hR6.frm hf (fun _ _ => id)) (by omega))
  have hz1 : (if n5 = 0 then ([] : List (Int × Int)) else (M.fn cs).2.ands).length ≤ 1000 ∧ (if n5 = 0 then ([] : List Int) else (M.fn cs).1).length ≤ 1000 := by
    by_cases h0 : n5 = 0
    · rw [if_pos h0, if_pos h0]; simp
    · rw [if_neg h0, if_neg h0]
      have hfn := fn_ok (M := M) (mvs := cs) (by have := HCL.out; omega) (by rw [HCL.out]; omega)
      have h1 := hfn.many
      have h3 := hfn.high
      rw [HCL.out] at h3
      unfold Gr.len at h3
      omega
  have hcode : (if n5 = 0 then 104 else 0 : Nat) = 0 ∨ (if n5 = 0 then 104 else 0 : Nat) ∈ L7 := by split; exact .inr (by decide); exact .inl rfl
  generalize (if n5 = 0 then ([] : List (Int × Int)) else (M.fn cs).2.ands) = L2 at *
  generalize (if n5 = 0 then ([] : List Int) else (M.fn cs).1) = o2 at *
  generalize (if n5 = 0 then (0 : Int) else (M.ou : Int)) = N at *
  generalize (if n5 = 0 then 104 else 0 : Nat) = code at *
  clear hs1 hs2
  have HIS := Lib.hid (fun (W : World) (hf : Frm (fun _ => False) w W) => isErr_any P W (HSS.out W hf) code hcode code)
  have HI4 := Lib.hid (fun (W : World) (hf : Frm (fun _ => False) w W) => isErr_any P W (HSS.out W hf) 104 (.inr (by decide)) 104)
  obtain ⟨pe, hpe⟩ : ∃ pe, pe = PE P code := ⟨_, rfl⟩
  obtain ⟨p4, hp4⟩ : ∃ p4, p4 = PE P 104 := ⟨_, rfl⟩
  rw [← hpe] at HF1 HIS
  rw [← hp4] at HI4
  have HP4 := Lib.hid hp4
  clear hpe hp4 hcode
  go_wp2_with fail
  refine HF1.out.mono ?_
  rintro e w7 ⟨v, rfl, ⟨Ab, eb, Bb, db, rfl, hAb, hBb⟩, hf7⟩
  simp only [cv]
  clear HF1 q0 q1 q2 q3 q4
  have hfc := (Frm.refl (fun _ => False) w7).alloc (.cells #[.int .i64 N, .slice Ab L2.length eb, .slice Bb o2.length db] 40)
  have hbb : Blk (w7.alloc (.cells #[.int .i64 N, .slice Ab L2.length eb, .slice Bb o2.length db] 40)) w7.heap.size 40 [.int .i64 N, .slice Ab L2.length eb, .slice Bb o2.length db] := Blk.new _ _ _
  have hAb8 := hAb.frm hfc (fun _ _ => id)
  have hBb8 := hBb.frm hfc (fun _ _ => id)
  have hf68 := hf7.trans hfc
  have hs7 := hf7.size
  obtain ⟨w8, hw8⟩ : ∃ w8, w8 = w7.alloc (.cells #[.int .i64 N, .slice Ab L2.length eb, .slice Bb o2.length db] 40) := ⟨_, rfl⟩
  rw [← hw8] at hbb hAb8 hBb8 hf68
  clear hfc hAb hBb hf7
  have hb8 := hb6.frm hf68 id
  go_upto_region 13 with (fail)
  rw [← hw8]
  clear hw8
  generalize w7.heap.size = cb at *
  have q0 := hb8.at_ 0 rfl
  have q1 := hb8.at_ 1 rfl
  have q2 := hb8.at_ 2 rfl
  have q3 := hb8.at_ 3 rfl
  have q4 := hb8.at_ 4 rfl
  have hs8 := hf68.size
  go_wp2_with fail
  refine (HR1.out w8 hf68).mono ?_
  rintro e w9 ⟨v, rfl, ⟨Ax, ex', Bx, dx, rfl, hAx, hBx⟩, hf9⟩
  simp only [cv]
  clear HR1 q0 q1 q2 q3 q4
  have hfc := (Frm.refl (fun _ => False) w9).alloc (.cells #[.int .i64 N, .slice Ax L2.length ex', .slice Bx o2.length dx] 40)
  have hbx : Blk (w9.alloc (.cells #[.int .i64 N, .slice Ax L2.length ex', .slice Bx o2.length dx] 40)) w9.heap.size 40 [.int .i64 N, .slice Ax L2.length ex', .slice Bx o2.length dx] := Blk.new _ _ _
  have hAx13 := (hAx.mono (G := fun k => w6.heap.size ≤ k) (fun k _ h => by omega)).frm hfc (fun _ _ => id)
  have hBx13 := (hBx.mono (G := fun k => w6.heap.size ≤ k) (fun k _ h => by omega)).frm hfc (fun _ _ => id)
  have hf89 := hf9.trans hfc
  have hs9 := hf9.size
  obtain ⟨w13, hw13⟩ : ∃ w13, w13 = w9.alloc (.cells #[.int .i64 N, .slice Ax L2.length ex', .slice Bx o2.length dx] 40) := ⟨_, rfl⟩
  rw [← hw13] at hbx hAx13 hBx13 hf89
  clear hfc hAx hBx hf9
  have hf613 := hf68.trans hf89
  have hb13 := hb6.frm hf613 id
  have hbb13 := hbb.frm hf89 id
  have hAb13 := hAb8.frm hf89 (fun _ _ => id)
  have hBb13 := hBb8.frm hf89 (fun _ _ => id)
  have hA13 := hA6.frm hf613 (fun _ _ => id)
  have hB13 := hB6.frm hf613 (fun _ _ => id)
  have hu13 := hu6.frm hf613 (fun _ _ => id)
  have hv13 := hv6.frm hf613 (fun _ _ => id)
  have hf013 := hf06.trans hf613
  have hs13 := hf613.size
  have HPR := Lib.hid (fun (W : World) (hf : Frm (fun _ => False) w13 W) => HPRE.out W ((hf46.trans hf613).trans hf))
  clear HPRE hf68 hf89 hbb hAb8 hBb8 hb8 hb6 hA6 hB6 hu6 hv6 hR6 hf06 hf46 hf613
  go_upto_region 14 with (fail)
  rw [← hw13]
  clear hw13
  generalize w9.heap.size = xb at *
  have HPRE := HPR
  clear HPR
  obtain ⟨r, hr⟩ : ∃ r, r = List.replicate (M.inn + 1) false := ⟨_, rfl⟩
  have hrl : r.length = M.inn + 1 := by rw [hr]; simp
  have hrm : List.replicate r.length (Value.bool false) = r.map .bool := by rw [hrl, hr]; simp
  have HRM := Lib.hid hrm
  have hrl1 : r.length ≤ M.inn + 1 ∧ M.inn + 1 ≤ r.length := by omega
  have HRL := Lib.hid hrl
  have wi1 : IntKind.i64.wrap ((M.inn : Int) + 1) = (r.length : Int) := by rw [IntWalk.i64_in _ (by omega)]; omega
  have hs413 : w4.heap.size ≤ w13.heap.size := by omega
  have hmb13 : mb < w4.heap.size := by omega
  have HBAD := Lib.hid (fun (W : World) (hf : Frm (fun g => (Value.slice Av n5 cv').ownBlock = some g) w13 W) (A' : Option Addr) (c' : Nat) (hR : RwB W (fun _ => True) (.slice A' (n5 + 1) c') (n5 + 1) (cs ++ [r])) =>
    lfun_bad P hMok n HNN.out A c B d (fun k => k < mb) (fun _ => True) A' (n5 + 1) c' (cs ++ [r]) W (by omega) (by omega) (by omega) (hA13.frm hf (fun k hk e => by have := hown4 k e; omega)) (hB13.frm hf (fun k hk e => by have := hown4 k e; omega)) (fun r' hr' => by rcases List.mem_append.1 hr' with h | h; (have := HML.out r' h; omega); (simp at h; subst h; omega)) hR (HSS.out W (hf013.then' hf (fun g hg e => by have := hown4 g e; omega))) (.inr (rightP_false HML.out (by have := HRL.out; omega))))
  rw [← HP4.out] at HBAD
  simp only [cv, mtv] at HBAD
  have HH := Lib.hid (fun (W W' : World) (S : Nat → Prop) (hf : Frm S W W') (hS : ¬ S mb) (h : W.cell? ⟨mb, 0, none⟩ = some (.bool M.ex) ∧ W.cell? ⟨mb, 1, none⟩ = some (.int .i64 (M.ou : Int)) ∧ W.cell? ⟨mb, 2, none⟩ = some (.int .i64 (n : Int)) ∧ W.cell? ⟨mb, 3, none⟩ = some (.slice A M.L.length c) ∧ W.cell? ⟨mb, 4, none⟩ = some (.slice B 1 d)) => show W'.cell? ⟨mb, 0, none⟩ = some (.bool M.ex) ∧ W'.cell? ⟨mb, 1, none⟩ = some (.int .i64 (M.ou : Int)) ∧ W'.cell? ⟨mb, 2, none⟩ = some (.int .i64 (n : Int)) ∧ W'.cell? ⟨mb, 3, none⟩ = some (.slice A M.L.length c) ∧ W'.cell? ⟨mb, 4, none⟩ = some (.slice B 1 d) from ⟨hf.cell h.1 hS, hf.cell h.2.1 hS, hf.cell h.2.2.1 hS, hf.cell h.2.2.2.1 hS, hf.cell h.2.2.2.2 hS⟩)
  have f0 : Frm (fun g => (Value.slice Av n5 cv').ownBlock = some g) w13 w13.drew := (Frm.refl _ w13).drew
  have p0 : Frm (fun _ => False) w13 w13.drew := (Frm.refl _ w13).drew
  have hH0 : w13.drew.cell? ⟨mb, 0, none⟩ = some (.bool M.ex) ∧ w13.drew.cell? ⟨mb, 1, none⟩ = some (.int .i64 (M.ou : Int)) ∧ w13.drew.cell? ⟨mb, 2, none⟩ = some (.int .i64 (n : Int)) ∧ w13.drew.cell? ⟨mb, 3, none⟩ = some (.slice A M.L.length c) ∧ w13.drew.cell? ⟨mb, 4, none⟩ = some (.slice B 1 d) := ⟨hb13.at_ 0 rfl, hb13.at_ 1 rfl, hb13.at_ 2 rfl, hb13.at_ 3 rfl, hb13.at_ 4 rfl⟩
  clear hr hrl hrm
  go_cut [26, 27, 71] from 72 to 81 (fun t26 t27 t71 wr => t27 = p4 ∧ RwB wr (fun k => k < w4.heap.size) (.slice Av n5 cv') n5 cs ∧ Frm (fun g => (Value.slice Av n5 cv').ownBlock = some g) w13 wr)
  case first =>
    have hHeld := hH0
    refine Held.begin (fun W => W.cell? ⟨mb, 0, none⟩ = some (.bool M.ex) ∧ W.cell? ⟨mb, 1, none⟩ = some (.int .i64 (M.ou : Int)) ∧ W.cell? ⟨mb, 2, none⟩ = some (.int .i64 (n : Int)) ∧ W.cell? ⟨mb, 3, none⟩ = some (.slice A M.L.length c) ∧ W.cell? ⟨mb, 4, none⟩ = some (.slice B 1 d)) 13 (by kernel_rfl) ?_
    refine Held.take (i := 0) (oi := ?oa0) (v := ?va0) ?hia0 (by kernel_rfl) (by kernel_rfl) (by kernel_rfl) (by kernel_rfl) (fun _ _ _ h => h) (Or.inl ⟨?hwa0, ?hya0⟩) (by assumption) ?resta0
    case hia0 => (simp only [List.getElem?_toArray, List.getElem?_cons_zero]; rfl)
    case hwa0 => rfl
    case hya0 => (intro w hSw; (try dsimp only at hSw); go_simp; try with_reducible rfl)
    (try simp only [Act.put, List.setIfInBounds_toArray, List.set_cons_zero, List.set_cons_succ])
    refine Held.take (i := 1) (oi := ?oa1) (v := ?va1) ?hia1 (by kernel_rfl) (by kernel_rfl) (by kernel_rfl) (by kernel_rfl) (fun _ _ _ h => h) (Or.inl ⟨?hwa1, ?hya1⟩) (by assumption) ?resta1
    case hia1 => (simp only [List.getElem?_toArray, List.getElem?_cons_succ, List.getElem?_cons_zero]; rfl)
    case hwa1 => rfl
    case hya1 => (intro w hSw; (try dsimp only at hSw); go_simp; try with_reducible rfl)
    (try simp only [Act.put, List.setIfInBounds_toArray, List.set_cons_zero, List.set_cons_succ])
    refine Held.take (i := 2) (oi := ?oa2) (v := ?va2) ?hia2 (by kernel_rfl) (by kernel_rfl) (by kernel_rfl) (by kernel_rfl) (fun _ _ _ h => h) (Or.inl ⟨?hwa2, ?hya2⟩) (by assumption) ?resta2
    case hia2 => (simp only [List.getElem?_toArray, List.getElem?_cons_succ, List.getElem?_cons_zero]; rfl)
    case hwa2 => rfl
    case hya2 => (intro w hSw; (try dsimp only at hSw); go_simp; try with_reducible rfl)
    (try simp only [Act.put, List.setIfInBounds_toArray, List.set_cons_zero, List.set_cons_succ])
    refine Held.take (i := 3) (oi := ?oa3) (v := ?va3) ?hia3 (by kernel_rfl) (by kernel_rfl) (by kernel_rfl) (by kernel_rfl) (fun _ _ _ h => h) (Or.inl ⟨?hwa3, ?hya3⟩) (by assumption) ?resta3
    case hia3 => (simp only [List.getElem?_toArray, List.getElem?_cons_succ, List.getElem?_cons_zero]; rfl)
    case hwa3 => rfl
    case hya3 => (intro w hSw; (try dsimp only at hSw); go_simp; try with_reducible rfl)
    (try simp only [Act.put, List.setIfInBounds_toArray, List.set_cons_zero, List.set_cons_succ])
    refine Held.either (i := 4) (j := 11) (by kernel_rfl) (by simp only [List.getElem?_toArray, List.getElem?_cons_succ, List.getElem?_cons_zero]; rfl) (by simp only [List.getElem?_toArray, List.getElem?_cons_succ, List.getElem?_cons_zero]; rfl) (fun K hK => ?_) (fun K hK => ?_)
    · skip
      (refine wp_make_z _ _ 54 rfl 4 j0 (.bool false) Tryd.underlying54 hj0 hj1 hj2 rfl .i64 .i64 r.length r.length rfl rfl (by omega) (by rw [hj3]; omega) (by omega) ?_; intro v1 hbk1 hal1)
      refine hK.out _ _ (fun _ => by exact HH.out _ _ _ hal1 id hHeld) ?_
      clear hK K
      (try simp only [Act.put, List.setIfInBounds_toArray, List.set_cons_zero, List.set_cons_succ])
      have hK1 := HH.out _ _ _ hal1 id hHeld
      have hge1 : w13.heap.size ≤ w13.drew.heap.size := f0.size
      have g1 := f0.trans (hal1.mono (T := fun g => (Value.slice Av n5 cv').ownBlock = some g) (fun _ _ h => h.elim))
      obtain ⟨kb, hkb⟩ : ∃ kb, kb = w13.drew.heap.size := ⟨_, rfl⟩
      rw [← hkb] at hbk1 hge1
      rw [← hkb]
      rw [HRM.out] at hbk1
      clear hkb
      have p1 := p0.trans hal1
      refine Held.either (i := 5) (j := 11) (by kernel_rfl) (by simp only [List.getElem?_toArray, List.getElem?_cons_succ, List.getElem?_cons_zero]; rfl) (by simp only [List.getElem?_toArray, List.getElem?_cons_succ, List.getElem?_cons_zero]; rfl) (fun K hK => ?_) (fun K hK => ?_)
      · skip
        go_simp
        refine hK.out _ _ (fun _ => by exact HH.out _ _ _ ((Frm.refl (fun _ => False) _).alloc _) id hK1) ?_
        clear hK K
        (try simp only [Act.put, List.setIfInBounds_toArray, List.set_cons_zero, List.set_cons_succ])
        obtain ⟨v2, hv2⟩ : ∃ v2, v2 = v1.alloc (.cells #[.slice (some ⟨kb, 0, none⟩) r.length r.length] 54) := ⟨_, rfl⟩
        have hal2 : Frm (fun _ => False) v1 v2 := by rw [hv2]; exact (Frm.refl _ _).alloc _
        have hrb2 : Blk v2 v1.heap.size 54 [.slice (some ⟨kb, 0, none⟩) r.length r.length] := by rw [hv2]; exact Blk.new _ _ _
        rw [← hv2]
        obtain ⟨rb, hrbe⟩ : ∃ rb, rb = v1.heap.size := ⟨_, rfl⟩
        rw [← hrbe] at hrb2
        rw [← hrbe]
        have hK2 := HH.out _ _ _ hal2 id hK1
        have g2 := g1.trans (hal2.mono (T := fun g => (Value.slice Av n5 cv').ownBlock = some g) (fun _ _ h => h.elim))
        have hbk12 := hbk1.frm hal2 id
        clear hv2 hrbe
        have p2 := p1.trans hal2
        refine Held.either (i := 6) (j := 11) (by kernel_rfl) (by simp only [List.getElem?_toArray, List.getElem?_cons_succ, List.getElem?_cons_zero]; rfl) (by simp only [List.getElem?_toArray, List.getElem?_cons_succ, List.getElem?_cons_zero]; rfl) (fun K hK => ?_) (fun K hK => ?_)
        · skip
          have hpre3 := HPRE.out _ p2
          have hgs3 : w13.heap.size ≤ v2.heap.size := g2.size
          (refine wp_append_row1 (.tmp 73) (.tmp 77) rfl base _ n5 cs w4.heap.size vs rfl HCL.out hpre3.1 hpre3.2 (fun g hg => (hown4 g hg).2) ⟨rb, 0, none⟩ rfl (some ⟨kb, 0, none⟩) r.length r (fun k => k = kb) (hrb2.at_ 0 rfl) (hbk12.sl 1 r.length (by simp)) (fun k _ e => ⟨by omega, fun e2 => by have := hown4 k e2; omega⟩) (by omega) (by omega) ?_; intro va3 v3 hRn3 hRv3 hal3; obtain ⟨Aa3, ca3, rfl, _⟩ := hRn3.form)
          refine hK.out _ _ (fun _ => by exact HH.out _ _ _ hal3 (fun e => by have := hown4 _ e; omega) hK2) ?_
          clear hK K
          (try simp only [Act.put, List.setIfInBounds_toArray, List.set_cons_zero, List.set_cons_succ])
          have hK3 := HH.out _ _ _ hal3 (fun e => by have := hown4 _ e; omega) hK2
          have g3 := g2.trans hal3
          refine Held.either (i := 7) (j := 11) (by kernel_rfl) (by simp only [List.getElem?_toArray, List.getElem?_cons_succ, List.getElem?_cons_zero]; rfl) (by simp only [List.getElem?_toArray, List.getElem?_cons_succ, List.getElem?_cons_zero]; rfl) (fun K hK => ?_) (fun K hK => ?_)
          · skip
            have hbd4 := Lib.hid (HBAD.out _ g3 _ _ hRn3)
            go_simp
            (go_at_call 94; refine hbd4.out.mono ?_; rintro e v4 ⟨rfl, hal4⟩)
            (try go_wp2_with fail)
            refine hK.out _ _ (fun _ => by exact HH.out _ _ _ hal4 id hK3) ?_
            clear hK K
            (try simp only [Act.put, List.setIfInBounds_toArray, List.set_cons_zero, List.set_cons_succ])
            have hK4 := HH.out _ _ _ hal4 id hK3
            have g4 := g3.trans (hal4.mono (T := fun g => (Value.slice Av n5 cv').ownBlock = some g) (fun _ _ h => h.elim))
            have hRv34 := hRv3.frm hal4 (fun _ _ => id)
            refine Held.take (i := 8) (oi := ?oj8) (v := ?vj8) ?hij8 (by kernel_rfl) (by kernel_rfl) (by kernel_rfl) (by kernel_rfl) (fun _ _ _ h => h) (Or.inl ⟨?hwj8, ?hyj8⟩) (by assumption) ?restj8
            case hij8 => (simp only [List.getElem?_toArray, List.getElem?_cons_succ, List.getElem?_cons_zero]; rfl)
            case hwj8 => rfl
            case hyj8 => (intro w hSw; (try dsimp only at hSw); go_simp; try with_reducible rfl)
            (try simp only [Act.put, List.setIfInBounds_toArray, List.set_cons_zero, List.set_cons_succ])
            refine Held.take (i := 9) (oi := ?oj9) (v := ?vj9) ?hij9 (by kernel_rfl) (by kernel_rfl) (by kernel_rfl) (by kernel_rfl) (fun _ _ _ h => h) (Or.inl ⟨?hwj9, ?hyj9⟩) (by assumption) ?restj9
            case hij9 => (simp only [List.getElem?_toArray, List.getElem?_cons_succ, List.getElem?_cons_zero]; rfl)
            case hwj9 => rfl
            case hyj9 => (intro w hSw; (try dsimp only at hSw); go_simp; try with_reducible rfl)
            (try simp only [Act.put, List.setIfInBounds_toArray, List.set_cons_zero, List.set_cons_succ])
            refine Held.take (i := 10) (oi := ?oj10) (v := ?vj10) ?hij10 (by kernel_rfl) (by kernel_rfl) (by kernel_rfl) (by kernel_rfl) (fun _ _ _ h => h) (Or.inl ⟨?hwj10, ?hyj10⟩) (by assumption) ?restj10
            case hij10 => (simp only [List.getElem?_toArray, List.getElem?_cons_succ, List.getElem?_cons_zero]; rfl)
            case hwj10 => rfl
            case hyj10 => (intro w hSw; (try dsimp only at hSw); go_simp; try with_reducible rfl)
            (try simp only [Act.put, List.setIfInBounds_toArray, List.set_cons_zero, List.set_cons_succ])
            refine Held.next (i := 11) (o := ?oj11) (by kernel_rfl) ?hij11 (fun K hK => ?stj11)
            case hij11 => (simp only [List.getElem?_toArray, List.getElem?_cons_succ, List.getElem?_cons_zero]; rfl)
            go_simp
            refine hK.out _ _ (fun _ => by exact HH.out _ _ _ ((Frm.refl (fun _ => False) _).alloc _) id hK4) ?_
            clear hK K
            (try simp only [Act.put, List.setIfInBounds_toArray, List.set_cons_zero, List.set_cons_succ])
            obtain ⟨v5, hv5⟩ : ∃ v5, v5 = (v4.alloc (.cells #[.int .i64 0, .slice none 0 0, .slice none 0 0] 40)) := ⟨_, rfl⟩
            have hal5 : Frm (fun _ => False) v4 v5 := by rw [hv5]; exact (Frm.refl (fun _ => False) v4).alloc (.cells #[.int .i64 0, .slice none 0 0, .slice none 0 0] 40)
            have hq5 : Blk v5 v4.heap.size 40 [.int .i64 0, .slice none 0 0, .slice none 0 0] := by rw [hv5]; exact Blk.new _ _ _
            have hsz5 : w13.heap.size ≤ v4.heap.size := g4.size
            rw [← hv5]
            obtain ⟨qb, hqb⟩ : ∃ qb, qb = v4.heap.size := ⟨_, rfl⟩
            have hlim5 : w13.heap.size ≤ qb := by rw [hqb]; exact hsz5
            rw [← hqb] at hq5
            rw [← hqb]
            have hK5 := HH.out _ _ _ hal5 id hK4
            have g5 := g4.trans (hal5.mono (T := fun g => (Value.slice Av n5 cv').ownBlock = some g) (fun _ _ h => h.elim))
            have hRv345 := hRv34.frm hal5 (fun _ _ => id)
            clear hv5 hqb hsz5
            have r0 := hq5.at_ 0 rfl
            have y0 := hq5.frozen 0
            have r1 := hq5.at_ 1 rfl
            have y1 := hq5.frozen 1
            have r2 := hq5.at_ 2 rfl
            have y2 := hq5.frozen 2
            have hfin := ((((g5).setCell (p := ⟨qb, 0, none⟩) (fun h => absurd (show qb < w13.heap.size from h) (by omega)) (.int .i64 0)).setCell (p := ⟨qb, 1, none⟩) (fun h => absurd (show qb < w13.heap.size from h) (by omega)) (.slice none 0 0)).setCell (p := ⟨qb, 2, none⟩) (fun h => absurd (show qb < w13.heap.size from h) (by omega)) (.slice none 0 0))
            have hset := (((Frm.refl (fun g => g = qb) v5).setCell (p := ⟨qb, 0, none⟩) (fun _ => rfl) (.int .i64 0)).setCell (p := ⟨qb, 1, none⟩) (fun _ => rfl) (.slice none 0 0)).setCell (p := ⟨qb, 2, none⟩) (fun _ => rfl) (.slice none 0 0)
            have hRF := hRv345.frm hset (fun k hk e => by omega)
            have hKF := HH.out _ _ _ hset (fun e => by omega) hK5
            refine Held.next (i := 12) (o := ?oj12) (by kernel_rfl) ?hij12 (fun K hK => ?stj12)
            case hij12 => (simp only [List.getElem?_toArray, List.getElem?_cons_succ, List.getElem?_cons_zero]; rfl)
            go_simp
            refine hK.out _ _ (fun _ => by exact hKF) ?_
            clear hK K
            (try simp only [Act.put, List.setIfInBounds_toArray, List.set_cons_zero, List.set_cons_succ])
            refine Held.next (i := 13) (o := ?oj13) (by kernel_rfl) ?hij13 (fun K hK => ?stj13)
            case hij13 => (simp only [List.getElem?_toArray, List.getElem?_cons_succ, List.getElem?_cons_zero]; rfl)
            go_simp
            refine hK.out _ _ (fun h => absurd h (by decide)) ?_
            clear hK K
            (try simp only [Act.put, List.setIfInBounds_toArray, List.set_cons_zero, List.set_cons_succ])
            refine Held.done (by kernel_rfl) ?_ _
            refine NoPanic.normal ?_
            go_wp2_with fail
            go_meet
            exact ⟨rfl, hRF, hfin⟩
          · skip
            go_simp
            refine hK.out _ _ (fun _ => by exact HH.out _ _ _ ((Frm.refl (fun _ => False) _).alloc _) id hK3) ?_
            clear hK K
            (try simp only [Act.put, List.setIfInBounds_toArray, List.set_cons_zero, List.set_cons_succ])
            obtain ⟨v4, hv4⟩ : ∃ v4, v4 = (v3.alloc (.cells #[.int .i64 0, .slice none 0 0, .slice none 0 0] 40)) := ⟨_, rfl⟩
            have hal4 : Frm (fun _ => False) v3 v4 := by rw [hv4]; exact (Frm.refl (fun _ => False) v3).alloc (.cells #[.int .i64 0, .slice none 0 0, .slice none 0 0] 40)
            have hq4 : Blk v4 v3.heap.size 40 [.int .i64 0, .slice none 0 0, .slice none 0 0] := by rw [hv4]; exact Blk.new _ _ _
            have hsz4 : w13.heap.size ≤ v3.heap.size := g3.size
            rw [← hv4]
            obtain ⟨qb, hqb⟩ : ∃ qb, qb = v3.heap.size := ⟨_, rfl⟩
            have hlim4 : w13.heap.size ≤ qb := by rw [hqb]; exact hsz4
            rw [← hqb] at hq4
            rw [← hqb]
            have hK4 := HH.out _ _ _ hal4 id hK3
            have g4 := g3.trans (hal4.mono (T := fun g => (Value.slice Av n5 cv').ownBlock = some g) (fun _ _ h => h.elim))
            have hRn34 := hRn3.frm hal4 (fun _ _ => id)
            have hRv34 := hRv3.frm hal4 (fun _ _ => id)
            clear hv4 hqb hsz4
            have hbd5 := Lib.hid (HBAD.out _ g4 _ _ hRn34)
            refine Held.next (i := 7) (o := ?ok7) (by kernel_rfl) ?hik7 (fun K hK => ?stk7)
            case hik7 => (simp only [List.getElem?_toArray, List.getElem?_cons_succ, List.getElem?_cons_zero]; rfl)
            go_simp
            (go_at_call 94; refine hbd5.out.mono ?_; rintro e v5 ⟨rfl, hal5⟩)
            (try go_wp2_with fail)
            refine hK.out _ _ (fun _ => by exact HH.out _ _ _ hal5 id hK4) ?_
            clear hK K
            (try simp only [Act.put, List.setIfInBounds_toArray, List.set_cons_zero, List.set_cons_succ])
            have hK5 := HH.out _ _ _ hal5 id hK4
            have g5 := g4.trans (hal5.mono (T := fun g => (Value.slice Av n5 cv').ownBlock = some g) (fun _ _ h => h.elim))
            have hRv345 := hRv34.frm hal5 (fun _ _ => id)
            have hq45 := hq4.frm hal5 id
            refine Held.take (i := 8) (oi := ?ok8) (v := ?vk8) ?hik8 (by kernel_rfl) (by kernel_rfl) (by kernel_rfl) (by kernel_rfl) (fun _ _ _ h => h) (Or.inl ⟨?hwk8, ?hyk8⟩) (by assumption) ?restk8
            case hik8 => (simp only [List.getElem?_toArray, List.getElem?_cons_succ, List.getElem?_cons_zero]; rfl)
            case hwk8 => rfl
            case hyk8 => (intro w hSw; (try dsimp only at hSw); go_simp; try with_reducible rfl)
            (try simp only [Act.put, List.setIfInBounds_toArray, List.set_cons_zero, List.set_cons_succ])
            refine Held.take (i := 9) (oi := ?ok9) (v := ?vk9) ?hik9 (by kernel_rfl) (by kernel_rfl) (by kernel_rfl) (by kernel_rfl) (fun _ _ _ h => h) (Or.inl ⟨?hwk9, ?hyk9⟩) (by assumption) ?restk9
            case hik9 => (simp only [List.getElem?_toArray, List.getElem?_cons_succ, List.getElem?_cons_zero]; rfl)
            case hwk9 => rfl
            case hyk9 => (intro w hSw; (try dsimp only at hSw); go_simp; try with_reducible rfl)
            (try simp only [Act.put, List.setIfInBounds_toArray, List.set_cons_zero, List.set_cons_succ])
            refine Held.take (i := 10) (oi := ?ok10) (v := ?vk10) ?hik10 (by kernel_rfl) (by kernel_rfl) (by kernel_rfl) (by kernel_rfl) (fun _ _ _ h => h) (Or.inl ⟨?hwk10, ?hyk10⟩) (by assumption) ?restk10
            case hik10 => (simp only [List.getElem?_toArray, List.getElem?_cons_succ, List.getElem?_cons_zero]; rfl)
            case hwk10 => rfl
            case hyk10 => (intro w hSw; (try dsimp only at hSw); go_simp; try with_reducible rfl)
            (try simp only [Act.put, List.setIfInBounds_toArray, List.set_cons_zero, List.set_cons_succ])
            have r0 := hq45.at_ 0 rfl
            have y0 := hq45.frozen 0
            have r1 := hq45.at_ 1 rfl
            have y1 := hq45.frozen 1
            have r2 := hq45.at_ 2 rfl
            have y2 := hq45.frozen 2
            have hfin := ((((g5).setCell (p := ⟨qb, 0, none⟩) (fun h => absurd (show qb < w13.heap.size from h) (by omega)) (.int .i64 0)).setCell (p := ⟨qb, 1, none⟩) (fun h => absurd (show qb < w13.heap.size from h) (by omega)) (.slice none 0 0)).setCell (p := ⟨qb, 2, none⟩) (fun h => absurd (show qb < w13.heap.size from h) (by omega)) (.slice none 0 0))
            have hset := (((Frm.refl (fun g => g = qb) v5).setCell (p := ⟨qb, 0, none⟩) (fun _ => rfl) (.int .i64 0)).setCell (p := ⟨qb, 1, none⟩) (fun _ => rfl) (.slice none 0 0)).setCell (p := ⟨qb, 2, none⟩) (fun _ => rfl) (.slice none 0 0)
            have hRF := hRv345.frm hset (fun k hk e => by omega)
            have hKF := HH.out _ _ _ hset (fun e => by omega) hK5
            refine Held.next (i := 12) (o := ?ok12) (by kernel_rfl) ?hik12 (fun K hK => ?stk12)
            case hik12 => (simp only [List.getElem?_toArray, List.getElem?_cons_succ, List.getElem?_cons_zero]; rfl)
            go_simp
            refine hK.out _ _ (fun _ => by exact hKF) ?_
            clear hK K
            (try simp only [Act.put, List.setIfInBounds_toArray, List.set_cons_zero, List.set_cons_succ])
            refine Held.next (i := 13) (o := ?ok13) (by kernel_rfl) ?hik13 (fun K hK => ?stk13)
            case hik13 => (simp only [List.getElem?_toArray, List.getElem?_cons_succ, List.getElem?_cons_zero]; rfl)
            go_simp
            refine hK.out _ _ (fun h => absurd h (by decide)) ?_
            clear hK K
            (try simp only [Act.put, List.setIfInBounds_toArray, List.set_cons_zero, List.set_cons_succ])
            refine Held.done (by kernel_rfl) ?_ _
            refine NoPanic.normal ?_
            go_wp2_with fail
            go_meet
            exact ⟨rfl, hRF, hfin⟩
        · skip
          go_simp
          refine hK.out _ _ (fun _ => by exact HH.out _ _ _ ((Frm.refl (fun _ => False) _).alloc _) id hK2) ?_
          clear hK K
          (try simp only [Act.put, List.setIfInBounds_toArray, List.set_cons_zero, List.set_cons_succ])
          obtain ⟨v3, hv3⟩ : ∃ v3, v3 = (v2.alloc (.cells #[.int .i64 0, .slice none 0 0, .slice none 0 0] 40)) := ⟨_, rfl⟩
          have hal3 : Frm (fun _ => False) v2 v3 := by rw [hv3]; exact (Frm.refl (fun _ => False) v2).alloc (.cells #[.int .i64 0, .slice none 0 0, .slice none 0 0] 40)
          have hq3 : Blk v3 v2.heap.size 40 [.int .i64 0, .slice none 0 0, .slice none 0 0] := by rw [hv3]; exact Blk.new _ _ _
          have hsz3 : w13.heap.size ≤ v2.heap.size := g2.size
          rw [← hv3]
          obtain ⟨qb, hqb⟩ : ∃ qb, qb = v2.heap.size := ⟨_, rfl⟩
          have hlim3 : w13.heap.size ≤ qb := by rw [hqb]; exact hsz3
          rw [← hqb] at hq3
          rw [← hqb]
          have hK3 := HH.out _ _ _ hal3 id hK2
          have g3 := g2.trans (hal3.mono (T := fun g => (Value.slice Av n5 cv').ownBlock = some g) (fun _ _ h => h.elim))
          have hbk123 := hbk12.frm hal3 id
          have hrb23 := hrb2.frm hal3 id
          clear hv3 hqb hsz3
          have p3 := p2.trans hal3
          have hpre4 := HPRE.out _ p3
          have hgs4 : w13.heap.size ≤ v3.heap.size := g3.size
          refine Held.next (i := 6) (o := ?ol6) (by kernel_rfl) ?hil6 (fun K hK => ?stl6)
          case hil6 => (simp only [List.getElem?_toArray, List.getElem?_cons_succ, List.getElem?_cons_zero]; rfl)
          (refine wp_append_row1 (.tmp 73) (.tmp 77) rfl base _ n5 cs w4.heap.size vs rfl HCL.out hpre4.1 hpre4.2 (fun g hg => (hown4 g hg).2) ⟨rb, 0, none⟩ rfl (some ⟨kb, 0, none⟩) r.length r (fun k => k = kb) (hrb23.at_ 0 rfl) (hbk123.sl 1 r.length (by simp)) (fun k _ e => ⟨by omega, fun e2 => by have := hown4 k e2; omega⟩) (by omega) (by omega) ?_; intro va4 v4 hRn4 hRv4 hal4; obtain ⟨Aa4, ca4, rfl, _⟩ := hRn4.form)
          refine hK.out _ _ (fun _ => by exact HH.out _ _ _ hal4 (fun e => by have := hown4 _ e; omega) hK3) ?_
          clear hK K
          (try simp only [Act.put, List.setIfInBounds_toArray, List.set_cons_zero, List.set_cons_succ])
          have hK4 := HH.out _ _ _ hal4 (fun e => by have := hown4 _ e; omega) hK3
          have g4 := g3.trans hal4
          have hq34 := hq3.frm hal4 (fun e => by have := hown4 _ e; omega)
          have hbd5 := Lib.hid (HBAD.out _ g4 _ _ hRn4)
          refine Held.next (i := 7) (o := ?ol7) (by kernel_rfl) ?hil7 (fun K hK => ?stl7)
          case hil7 => (simp only [List.getElem?_toArray, List.getElem?_cons_succ, List.getElem?_cons_zero]; rfl)
          go_simp
          (go_at_call 94; refine hbd5.out.mono ?_; rintro e v5 ⟨rfl, hal5⟩)
          (try go_wp2_with fail)
          refine hK.out _ _ (fun _ => by exact HH.out _ _ _ hal5 id hK4) ?_
          clear hK K
          (try simp only [Act.put, List.setIfInBounds_toArray, List.set_cons_zero, List.set_cons_succ])
          have hK5 := HH.out _ _ _ hal5 id hK4
          have g5 := g4.trans (hal5.mono (T := fun g => (Value.slice Av n5 cv').ownBlock = some g) (fun _ _ h => h.elim))
          have hRv45 := hRv4.frm hal5 (fun _ _ => id)
          have hq345 := hq34.frm hal5 id
          refine Held.take (i := 8) (oi := ?ol8) (v := ?vl8) ?hil8 (by kernel_rfl) (by kernel_rfl) (by kernel_rfl) (by kernel_rfl) (fun _ _ _ h => h) (Or.inl ⟨?hwl8, ?hyl8⟩) (by assumption) ?restl8
          case hil8 => (simp only [List.getElem?_toArray, List.getElem?_cons_succ, List.getElem?_cons_zero]; rfl)
          case hwl8 => rfl
          case hyl8 => (intro w hSw; (try dsimp only at hSw); go_simp; try with_reducible rfl)
          (try simp only [Act.put, List.setIfInBounds_toArray, List.set_cons_zero, List.set_cons_succ])
          refine Held.take (i := 9) (oi := ?ol9) (v := ?vl9) ?hil9 (by kernel_rfl) (by kernel_rfl) (by kernel_rfl) (by kernel_rfl) (fun _ _ _ h => h) (Or.inl ⟨?hwl9, ?hyl9⟩) (by assumption) ?restl9
          case hil9 => (simp only [List.getElem?_toArray, List.getElem?_cons_succ, List.getElem?_cons_zero]; rfl)
          case hwl9 => rfl
          case hyl9 => (intro w hSw; (try dsimp only at hSw); go_simp; try with_reducible rfl)
          (try simp only [Act.put, List.setIfInBounds_toArray, List.set_cons_zero, List.set_cons_succ])
          refine Held.take (i := 10) (oi := ?ol10) (v := ?vl10) ?hil10 (by kernel_rfl) (by kernel_rfl) (by kernel_rfl) (by kernel_rfl) (fun _ _ _ h => h) (Or.inl ⟨?hwl10, ?hyl10⟩) (by assumption) ?restl10
          case hil10 => (simp only [List.getElem?_toArray, List.getElem?_cons_succ, List.getElem?_cons_zero]; rfl)
          case hwl10 => rfl
          case hyl10 => (intro w hSw; (try dsimp only at hSw); go_simp; try with_reducible rfl)
          (try simp only [Act.put, List.setIfInBounds_toArray, List.set_cons_zero, List.set_cons_succ])
          have r0 := hq345.at_ 0 rfl
          have y0 := hq345.frozen 0
          have r1 := hq345.at_ 1 rfl
          have y1 := hq345.frozen 1
          have r2 := hq345.at_ 2 rfl
          have y2 := hq345.frozen 2
          have hfin := ((((g5).setCell (p := ⟨qb, 0, none⟩) (fun h => absurd (show qb < w13.heap.size from h) (by omega)) (.int .i64 0)).setCell (p := ⟨qb, 1, none⟩) (fun h => absurd (show qb < w13.heap.size from h) (by omega)) (.slice none 0 0)).setCell (p := ⟨qb, 2, none⟩) (fun h => absurd (show qb < w13.heap.size from h) (by omega)) (.slice none 0 0))
          have hset := (((Frm.refl (fun g => g = qb) v5).setCell (p := ⟨qb, 0, none⟩) (fun _ => rfl) (.int .i64 0)).setCell (p := ⟨qb, 1, none⟩) (fun _ => rfl) (.slice none 0 0)).setCell (p := ⟨qb, 2, none⟩) (fun _ => rfl) (.slice none 0 0)
          have hRF := hRv45.frm hset (fun k hk e => by omega)
          have hKF := HH.out _ _ _ hset (fun e => by omega) hK5
          refine Held.next (i := 12) (o := ?ol12) (by kernel_rfl) ?hil12 (fun K hK => ?stl12)
          case hil12 => (simp only [List.getElem?_toArray, List.getElem?_cons_succ, List.getElem?_cons_zero]; rfl)
          go_simp
          refine hK.out _ _ (fun _ => by exact hKF) ?_
          clear hK K
          (try simp only [Act.put, List.setIfInBounds_toArray, List.set_cons_zero, List.set_cons_succ])
          refine Held.next (i := 13) (o := ?ol13) (by kernel_rfl) ?hil13 (fun K hK => ?stl13)
          case hil13 => (simp only [List.getElem?_toArray, List.getElem?_cons_succ, List.getElem?_cons_zero]; rfl)
          go_simp
          refine hK.out _ _ (fun h => absurd h (by decide)) ?_
          clear hK K
          (try simp only [Act.put, List.setIfInBounds_toArray, List.set_cons_zero, List.set_cons_succ])
          refine Held.done (by kernel_rfl) ?_ _
          refine NoPanic.normal ?_
          go_wp2_with fail
          go_meet
          exact ⟨rfl, hRF, hfin⟩
      · skip
        go_simp
        refine hK.out _ _ (fun _ => by exact HH.out _ _ _ ((Frm.refl (fun _ => False) _).alloc _) id hK1) ?_
        clear hK K
        (try simp only [Act.put, List.setIfInBounds_toArray, List.set_cons_zero, List.set_cons_succ])
        obtain ⟨v2, hv2⟩ : ∃ v2, v2 = (v1.alloc (.cells #[.int .i64 0, .slice none 0 0, .slice none 0 0] 40)) := ⟨_, rfl⟩
        have hal2 : Frm (fun _ => False) v1 v2 := by rw [hv2]; exact (Frm.refl (fun _ => False) v1).alloc (.cells #[.int .i64 0, .slice none 0 0, .slice none 0 0] 40)
        have hq2 : Blk v2 v1.heap.size 40 [.int .i64 0, .slice none 0 0, .slice none 0 0] := by rw [hv2]; exact Blk.new _ _ _
        have hsz2 : w13.heap.size ≤ v1.heap.size := g1.size
        rw [← hv2]
        obtain ⟨qb, hqb⟩ : ∃ qb, qb = v1.heap.size := ⟨_, rfl⟩
        have hlim2 : w13.heap.size ≤ qb := by rw [hqb]; exact hsz2
        rw [← hqb] at hq2
        rw [← hqb]
        have hK2 := HH.out _ _ _ hal2 id hK1
        have g2 := g1.trans (hal2.mono (T := fun g => (Value.slice Av n5 cv').ownBlock = some g) (fun _ _ h => h.elim))
        have hbk12 := hbk1.frm hal2 id
        clear hv2 hqb hsz2
        have p2 := p1.trans hal2
        refine Held.next (i := 5) (o := ?om5) (by kernel_rfl) ?him5 (fun K hK => ?stm5)
        case him5 => (simp only [List.getElem?_toArray, List.getElem?_cons_succ, List.getElem?_cons_zero]; rfl)
        go_simp
        refine hK.out _ _ (fun _ => by exact HH.out _ _ _ ((Frm.refl (fun _ => False) _).alloc _) id hK2) ?_
        clear hK K
        (try simp only [Act.put, List.setIfInBounds_toArray, List.set_cons_zero, List.set_cons_succ])
        obtain ⟨v3, hv3⟩ : ∃ v3, v3 = v2.alloc (.cells #[.slice (some ⟨kb, 0, none⟩) r.length r.length] 54) := ⟨_, rfl⟩
        have hal3 : Frm (fun _ => False) v2 v3 := by rw [hv3]; exact (Frm.refl _ _).alloc _
        have hrb3 : Blk v3 v2.heap.size 54 [.slice (some ⟨kb, 0, none⟩) r.length r.length] := by rw [hv3]; exact Blk.new _ _ _
        rw [← hv3]
        obtain ⟨rb, hrbe⟩ : ∃ rb, rb = v2.heap.size := ⟨_, rfl⟩
        rw [← hrbe] at hrb3
        rw [← hrbe]
        have hK3 := HH.out _ _ _ hal3 id hK2
        have g3 := g2.trans (hal3.mono (T := fun g => (Value.slice Av n5 cv').ownBlock = some g) (fun _ _ h => h.elim))
        have hbk123 := hbk12.frm hal3 id
        clear hv3 hrbe
        have hq23 := hq2.frm hal3 id
        have p3 := p2.trans hal3
        have hpre4 := HPRE.out _ p3
        have hgs4 : w13.heap.size ≤ v3.heap.size := g3.size
        refine Held.next (i := 6) (o := ?om6) (by kernel_rfl) ?him6 (fun K hK => ?stm6)
        case him6 => (simp only [List.getElem?_toArray, List.getElem?_cons_succ, List.getElem?_cons_zero]; rfl)
        (refine wp_append_row1 (.tmp 73) (.tmp 77) rfl base _ n5 cs w4.heap.size vs rfl HCL.out hpre4.1 hpre4.2 (fun g hg => (hown4 g hg).2) ⟨rb, 0, none⟩ rfl (some ⟨kb, 0, none⟩) r.length r (fun k => k = kb) (hrb3.at_ 0 rfl) (hbk123.sl 1 r.length (by simp)) (fun k _ e => ⟨by omega, fun e2 => by have := hown4 k e2; omega⟩) (by omega) (by omega) ?_; intro va4 v4 hRn4 hRv4 hal4; obtain ⟨Aa4, ca4, rfl, _⟩ := hRn4.form)
        refine hK.out _ _ (fun _ => by exact HH.out _ _ _ hal4 (fun e => by have := hown4 _ e; omega) hK3) ?_
        clear hK K
        (try simp only [Act.put, List.setIfInBounds_toArray, List.set_cons_zero, List.set_cons_succ])
        have hK4 := HH.out _ _ _ hal4 (fun e => by have := hown4 _ e; omega) hK3
        have g4 := g3.trans hal4
        have hq234 := hq23.frm hal4 (fun e => by have := hown4 _ e; omega)
        have hbd5 := Lib.hid (HBAD.out _ g4 _ _ hRn4)
        refine Held.next (i := 7) (o := ?om7) (by kernel_rfl) ?him7 (fun K hK => ?stm7)
        case him7 => (simp only [List.getElem?_toArray, List.getElem?_cons_succ, List.getElem?_cons_zero]; rfl)
        go_simp
        (go_at_call 94; refine hbd5.out.mono ?_; rintro e v5 ⟨rfl, hal5⟩)
        (try go_wp2_with fail)
        refine hK.out _ _ (fun _ => by exact HH.out _ _ _ hal5 id hK4) ?_
        clear hK K
        (try simp only [Act.put, List.setIfInBounds_toArray, List.set_cons_zero, List.set_cons_succ])
        have hK5 := HH.out _ _ _ hal5 id hK4
        have g5 := g4.trans (hal5.mono (T := fun g => (Value.slice Av n5 cv').ownBlock = some g) (fun _ _ h => h.elim))
        have hRv45 := hRv4.frm hal5 (fun _ _ => id)
        have hq2345 := hq234.frm hal5 id
        refine Held.take (i := 8) (oi := ?om8) (v := ?vm8) ?him8 (by kernel_rfl) (by kernel_rfl) (by kernel_rfl) (by kernel_rfl) (fun _ _ _ h => h) (Or.inl ⟨?hwm8, ?hym8⟩) (by assumption) ?restm8
        case him8 => (simp only [List.getElem?_toArray, List.getElem?_cons_succ, List.getElem?_cons_zero]; rfl)
        case hwm8 => rfl
        case hym8 => (intro w hSw; (try dsimp only at hSw); go_simp; try with_reducible rfl)
        (try simp only [Act.put, List.setIfInBounds_toArray, List.set_cons_zero, List.set_cons_succ])
        refine Held.take (i := 9) (oi := ?om9) (v := ?vm9) ?him9 (by kernel_rfl) (by kernel_rfl) (by kernel_rfl) (by kernel_rfl) (fun _ _ _ h => h) (Or.inl ⟨?hwm9, ?hym9⟩) (by assumption) ?restm9
        case him9 => (simp only [List.getElem?_toArray, List.getElem?_cons_succ, List.getElem?_cons_zero]; rfl)
        case hwm9 => rfl
        case hym9 => (intro w hSw; (try dsimp only at hSw); go_simp; try with_reducible rfl)
        (try simp only [Act.put, List.setIfInBounds_toArray, List.set_cons_zero, List.set_cons_succ])
        refine Held.take (i := 10) (oi := ?om10) (v := ?vm10) ?him10 (by kernel_rfl) (by kernel_rfl) (by kernel_rfl) (by kernel_rfl) (fun _ _ _ h => h) (Or.inl ⟨?hwm10, ?hym10⟩) (by assumption) ?restm10
        case him10 => (simp only [List.getElem?_toArray, List.getElem?_cons_succ, List.getElem?_cons_zero]; rfl)
        case hwm10 => rfl
        case hym10 => (intro w hSw; (try dsimp only at hSw); go_simp; try with_reducible rfl)
        (try simp only [Act.put, List.setIfInBounds_toArray, List.set_cons_zero, List.set_cons_succ])
        have r0 := hq2345.at_ 0 rfl
        have y0 := hq2345.frozen 0
        have r1 := hq2345.at_ 1 rfl
        have y1 := hq2345.frozen 1
        have r2 := hq2345.at_ 2 rfl
        have y2 := hq2345.frozen 2
        have hfin := ((((g5).setCell (p := ⟨qb, 0, none⟩) (fun h => absurd (show qb < w13.heap.size from h) (by omega)) (.int .i64 0)).setCell (p := ⟨qb, 1, none⟩) (fun h => absurd (show qb < w13.heap.size from h) (by omega)) (.slice none 0 0)).setCell (p := ⟨qb, 2, none⟩) (fun h => absurd (show qb < w13.heap.size from h) (by omega)) (.slice none 0 0))
        have hset := (((Frm.refl (fun g => g = qb) v5).setCell (p := ⟨qb, 0, none⟩) (fun _ => rfl) (.int .i64 0)).setCell (p := ⟨qb, 1, none⟩) (fun _ => rfl) (.slice none 0 0)).setCell (p := ⟨qb, 2, none⟩) (fun _ => rfl) (.slice none 0 0)
        have hRF := hRv45.frm hset (fun k hk e => by omega)
        have hKF := HH.out _ _ _ hset (fun e => by omega) hK5
        refine Held.next (i := 12) (o := ?om12) (by kernel_rfl) ?him12 (fun K hK => ?stm12)
        case him12 => (simp only [List.getElem?_toArray, List.getElem?_cons_succ, List.getElem?_cons_zero]; rfl)
        go_simp
        refine hK.out _ _ (fun _ => by exact hKF) ?_
        clear hK K
        (try simp only [Act.put, List.setIfInBounds_toArray, List.set_cons_zero, List.set_cons_succ])
        refine Held.next (i := 13) (o := ?om13) (by kernel_rfl) ?him13 (fun K hK => ?stm13)
        case him13 => (simp only [List.getElem?_toArray, List.getElem?_cons_succ, List.getElem?_cons_zero]; rfl)
        go_simp
        refine hK.out _ _ (fun h => absurd h (by decide)) ?_
        clear hK K
        (try simp only [Act.put, List.setIfInBounds_toArray, List.set_cons_zero, List.set_cons_succ])
        refine Held.done (by kernel_rfl) ?_ _
        refine NoPanic.normal ?_
        go_wp2_with fail
        go_meet
        exact ⟨rfl, hRF, hfin⟩
    · skip
      go_simp
      refine hK.out _ _ (fun _ => by exact HH.out _ _ _ ((Frm.refl (fun _ => False) _).alloc _) id hHeld) ?_
      clear hK K
      (try simp only [Act.put, List.setIfInBounds_toArray, List.set_cons_zero, List.set_cons_succ])
      obtain ⟨v1, hv1⟩ : ∃ v1, v1 = (w13.alloc (.cells #[.int .i64 0, .slice none 0 0, .slice none 0 0] 40)).drew := ⟨_, rfl⟩
      have hal1 : Frm (fun _ => False) w13.drew v1 := by rw [hv1]; exact (Frm.refl (fun _ => False) w13.drew).alloc (.cells #[.int .i64 0, .slice none 0 0, .slice none 0 0] 40)
      have hq1 : Blk v1 w13.heap.size 40 [.int .i64 0, .slice none 0 0, .slice none 0 0] := by rw [hv1]; exact Blk.new _ _ _
      have hsz1 : w13.heap.size ≤ w13.heap.size := Nat.le_refl _
      rw [← hv1]
      obtain ⟨qb, hqb⟩ : ∃ qb, qb = w13.heap.size := ⟨_, rfl⟩
      have hlim1 : w13.heap.size ≤ qb := by rw [hqb]; exact hsz1
      rw [← hqb] at hq1
      rw [← hqb]
      have hK1 := HH.out _ _ _ hal1 id hHeld
      have g1 := f0.trans (hal1.mono (T := fun g => (Value.slice Av n5 cv').ownBlock = some g) (fun _ _ h => h.elim))
      clear hv1 hqb hsz1
      have p1 := p0.trans hal1
      refine Held.next (i := 4) (o := ?on4) (by kernel_rfl) ?hin4 (fun K hK => ?stn4)
      case hin4 => (simp only [List.getElem?_toArray, List.getElem?_cons_succ, List.getElem?_cons_zero]; rfl)
      (refine wp_make_z _ _ 54 rfl 4 j0 (.bool false) Tryd.underlying54 hj0 hj1 hj2 rfl .i64 .i64 r.length r.length rfl rfl (by omega) (by rw [hj3]; omega) (by omega) ?_; intro v2 hbk2 hal2)
      refine hK.out _ _ (fun _ => by exact HH.out _ _ _ hal2 id hK1) ?_
      clear hK K
      (try simp only [Act.put, List.setIfInBounds_toArray, List.set_cons_zero, List.set_cons_succ])
      have hK2 := HH.out _ _ _ hal2 id hK1
      have hge2 : w13.heap.size ≤ v1.heap.size := g1.size
      have g2 := g1.trans (hal2.mono (T := fun g => (Value.slice Av n5 cv').ownBlock = some g) (fun _ _ h => h.elim))
      obtain ⟨kb, hkb⟩ : ∃ kb, kb = v1.heap.size := ⟨_, rfl⟩
      rw [← hkb] at hbk2 hge2
      rw [← hkb]
      rw [HRM.out] at hbk2
      clear hkb
      have hq12 := hq1.frm hal2 id
      have p2 := p1.trans hal2
      refine Held.next (i := 5) (o := ?on5) (by kernel_rfl) ?hin5 (fun K hK => ?stn5)
      case hin5 => (simp only [List.getElem?_toArray, List.getElem?_cons_succ, List.getElem?_cons_zero]; rfl)
      go_simp
      refine hK.out _ _ (fun _ => by exact HH.out _ _ _ ((Frm.refl (fun _ => False) _).alloc _) id hK2) ?_
      clear hK K
      (try simp only [Act.put, List.setIfInBounds_toArray, List.set_cons_zero, List.set_cons_succ])
      obtain ⟨v3, hv3⟩ : ∃ v3, v3 = v2.alloc (.cells #[.slice (some ⟨kb, 0, none⟩) r.length r.length] 54) := ⟨_, rfl⟩
      have hal3 : Frm (fun _ => False) v2 v3 := by rw [hv3]; exact (Frm.refl _ _).alloc _
      have hrb3 : Blk v3 v2.heap.size 54 [.slice (some ⟨kb, 0, none⟩) r.length r.length] := by rw [hv3]; exact Blk.new _ _ _
      rw [← hv3]
      obtain ⟨rb, hrbe⟩ : ∃ rb, rb = v2.heap.size := ⟨_, rfl⟩
      rw [← hrbe] at hrb3
      rw [← hrbe]
      have hK3 := HH.out _ _ _ hal3 id hK2
      have g3 := g2.trans (hal3.mono (T := fun g => (Value.slice Av n5 cv').ownBlock = some g) (fun _ _ h => h.elim))
      have hbk23 := hbk2.frm hal3 id
      clear hv3 hrbe
      have hq123 := hq12.frm hal3 id
      have p3 := p2.trans hal3
      have hpre4 := HPRE.out _ p3
      have hgs4 : w13.heap.size ≤ v3.heap.size := g3.size
      refine Held.next (i := 6) (o := ?on6) (by kernel_rfl) ?hin6 (fun K hK => ?stn6)
      case hin6 => (simp only [List.getElem?_toArray, List.getElem?_cons_succ, List.getElem?_cons_zero]; rfl)
      (refine wp_append_row1 (.tmp 73) (.tmp 77) rfl base _ n5 cs w4.heap.size vs rfl HCL.out hpre4.1 hpre4.2 (fun g hg => (hown4 g hg).2) ⟨rb, 0, none⟩ rfl (some ⟨kb, 0, none⟩) r.length r (fun k => k = kb) (hrb3.at_ 0 rfl) (hbk23.sl 1 r.length (by simp)) (fun k _ e => ⟨by omega, fun e2 => by have := hown4 k e2; omega⟩) (by omega) (by omega) ?_; intro va4 v4 hRn4 hRv4 hal4; obtain ⟨Aa4, ca4, rfl, _⟩ := hRn4.form)
      refine hK.out _ _ (fun _ => by exact HH.out _ _ _ hal4 (fun e => by have := hown4 _ e; omega) hK3) ?_
      clear hK K
      (try simp only [Act.put, List.setIfInBounds_toArray, List.set_cons_zero, List.set_cons_succ])
      have hK4 := HH.out _ _ _ hal4 (fun e => by have := hown4 _ e; omega) hK3
      have g4 := g3.trans hal4
      have hq1234 := hq123.frm hal4 (fun e => by have := hown4 _ e; omega)
      have hbd5 := Lib.hid (HBAD.out _ g4 _ _ hRn4)
      refine Held.next (i := 7) (o := ?on7) (by kernel_rfl) ?hin7 (fun K hK => ?stn7)
      case hin7 => (simp only [List.getElem?_toArray, List.getElem?_cons_succ, List.getElem?_cons_zero]; rfl)
      go_simp
      (go_at_call 94; refine hbd5.out.mono ?_; rintro e v5 ⟨rfl, hal5⟩)
      (try go_wp2_with fail)
      refine hK.out _ _ (fun _ => by exact HH.out _ _ _ hal5 id hK4) ?_
      clear hK K
      (try simp only [Act.put, List.setIfInBounds_toArray, List.set_cons_zero, List.set_cons_succ])
      have hK5 := HH.out _ _ _ hal5 id hK4
      have g5 := g4.trans (hal5.mono (T := fun g => (Value.slice Av n5 cv').ownBlock = some g) (fun _ _ h => h.elim))
      have hRv45 := hRv4.frm hal5 (fun _ _ => id)
      have hq12345 := hq1234.frm hal5 id
      refine Held.take (i := 8) (oi := ?on8) (v := ?vn8) ?hin8 (by kernel_rfl) (by kernel_rfl) (by kernel_rfl) (by kernel_rfl) (fun _ _ _ h => h) (Or.inl ⟨?hwn8, ?hyn8⟩) (by assumption) ?restn8
      case hin8 => (simp only [List.getElem?_toArray, List.getElem?_cons_succ, List.getElem?_cons_zero]; rfl)
      case hwn8 => rfl
      case hyn8 => (intro w hSw; (try dsimp only at hSw); go_simp; try with_reducible rfl)
      (try simp only [Act.put, List.setIfInBounds_toArray, List.set_cons_zero, List.set_cons_succ])
      refine Held.take (i := 9) (oi := ?on9) (v := ?vn9) ?hin9 (by kernel_rfl) (by kernel_rfl) (by kernel_rfl) (by kernel_rfl) (fun _ _ _ h => h) (Or.inl ⟨?hwn9, ?hyn9⟩) (by assumption) ?restn9
      case hin9 => (simp only [List.getElem?_toArray, List.getElem?_cons_succ, List.getElem?_cons_zero]; rfl)
      case hwn9 => rfl
      case hyn9 => (intro w hSw; (try dsimp only at hSw); go_simp; try with_reducible rfl)
      (try simp only [Act.put, List.setIfInBounds_toArray, List.set_cons_zero, List.set_cons_succ])
      refine Held.take (i := 10) (oi := ?on10) (v := ?vn10) ?hin10 (by kernel_rfl) (by kernel_rfl) (by kernel_rfl) (by kernel_rfl) (fun _ _ _ h => h) (Or.inl ⟨?hwn10, ?hyn10⟩) (by assumption) ?restn10
      case hin10 => (simp only [List.getElem?_toArray, List.getElem?_cons_succ, List.getElem?_cons_zero]; rfl)
      case hwn10 => rfl
      case hyn10 => (intro w hSw; (try dsimp only at hSw); go_simp; try with_reducible rfl)
      (try simp only [Act.put, List.setIfInBounds_toArray, List.set_cons_zero, List.set_cons_succ])
      have r0 := hq12345.at_ 0 rfl
      have y0 := hq12345.frozen 0
      have r1 := hq12345.at_ 1 rfl
      have y1 := hq12345.frozen 1
      have r2 := hq12345.at_ 2 rfl
      have y2 := hq12345.frozen 2
      have hfin := ((((g5).setCell (p := ⟨qb, 0, none⟩) (fun h => absurd (show qb < w13.heap.size from h) (by omega)) (.int .i64 0)).setCell (p := ⟨qb, 1, none⟩) (fun h => absurd (show qb < w13.heap.size from h) (by omega)) (.slice none 0 0)).setCell (p := ⟨qb, 2, none⟩) (fun h => absurd (show qb < w13.heap.size from h) (by omega)) (.slice none 0 0))
      have hset := (((Frm.refl (fun g => g = qb) v5).setCell (p := ⟨qb, 0, none⟩) (fun _ => rfl) (.int .i64 0)).setCell (p := ⟨qb, 1, none⟩) (fun _ => rfl) (.slice none 0 0)).setCell (p := ⟨qb, 2, none⟩) (fun _ => rfl) (.slice none 0 0)
      have hRF := hRv45.frm hset (fun k hk e => by omega)
      have hKF := HH.out _ _ _ hset (fun e => by omega) hK5
      refine Held.next (i := 12) (o := ?on12) (by kernel_rfl) ?hin12 (fun K hK => ?stn12)
      case hin12 => (simp only [List.getElem?_toArray, List.getElem?_cons_succ, List.getElem?_cons_zero]; rfl)
      go_simp
      refine hK.out _ _ (fun _ => by exact hKF) ?_
      clear hK K
      (try simp only [Act.put, List.setIfInBounds_toArray, List.set_cons_zero, List.set_cons_succ])
      refine Held.next (i := 13) (o := ?on13) (by kernel_rfl) ?hin13 (fun K hK => ?stn13)
      case hin13 => (simp only [List.getElem?_toArray, List.getElem?_cons_succ, List.getElem?_cons_zero]; rfl)
      go_simp
      refine hK.out _ _ (fun h => absurd h (by decide)) ?_
      clear hK K
      (try simp only [Act.put, List.setIfInBounds_toArray, List.set_cons_zero, List.set_cons_succ])
      refine Held.done (by kernel_rfl) ?_ _
      refine NoPanic.normal ?_
      go_wp2_with fail
      go_meet
      exact ⟨rfl, hRF, hfin⟩
  case rest =>
  obtain ⟨rfl, hR14, f14⟩ := hcut
  obtain ⟨w14, rfl⟩ : ∃ w14, w14 = wc := ⟨_, rfl⟩
  clear HBAD HH f0 p0 hH0 HPRE HRM HRL wi1 hrl1
  have hno : ∀ k, k < mb → (Value.slice Av n5 cv').ownBlock ≠ some k := fun k hk e => by have := hown4 k e; omega
  have hno2 : ∀ k, w4.heap.size ≤ k → (Value.slice Av n5 cv').ownBlock ≠ some k := fun k hk e => by have := hown4 k e; omega
  have hb14 := hb13.frm f14 (fun e => by have := hown4 _ e; omega)
  have hbb14 := hbb13.frm f14 (fun e => by have := hown4 _ e; omega)
  have hbx14 := hbx.frm f14 (fun e => by have := hown4 _ e; omega)
  have hA14 := hA13.frm f14 hno
  have hB14 := hB13.frm f14 hno
  have hu14 := hu13.frm f14 hno2
  have hv14 := hv13.frm f14 hno2
  have hAb14 := hAb13.frm f14 (fun k hk => hno2 k (by omega))
  have hBb14 := hBb13.frm f14 (fun k hk => hno2 k (by omega))
  have hAx14 := hAx13.frm f14 (fun k hk => hno2 k (by omega))
  have hBx14 := hBx13.frm f14 (fun k hk => hno2 k (by omega))
  have hf014 := hf013.then' f14 (fun g hg e => by have := hown4 g e; omega)
  have HBE := Lib.hid (fun (W : World) (hf : Frm (fun _ => False) w14 W) => beats_any hMok n HNN.out A c B d _ _ _ Aa M.ou ca ua Ac M.inn cc ub W (by omega) (by omega) (hA14.frm hf (fun _ _ => id)) (hB14.frm hf (fun _ _ => id)) HVL.out HVM.out rfl rfl (hu14.frm hf (fun _ _ => id)) (hv14.frm hf (fun _ _ => id)))
  have HRW := Lib.hid (fun (W : World) (hf : Frm (fun _ => False) w14 W) => rwanted_any hMok n HNN.out A c B d _ _ _ Aa M.ou ca ua Ac M.inn cc ub W (by omega) (by omega) (hA14.frm hf (fun _ _ => id)) (hB14.frm hf (fun _ _ => id)) HVL.out HVM.out rfl rfl (hu14.frm hf (fun _ _ => id)) (hv14.frm hf (fun _ _ => id)))
  have HCH := Lib.hid (fun (W : World) (hf : Frm (fun _ => False) w14 W) => choose_any hMok n HNN.out A c B d _ _ _ Aa M.ou ca ua Av n5 cv' cs W (by omega) (by omega) (by omega) (hA14.frm hf (fun _ _ => id)) (hB14.frm hf (fun _ _ => id)) HVL.out rfl HML.out (hu14.frm hf (fun _ _ => id)) (hR14.frm hf (fun _ _ => id)))
  have HRCH := Lib.hid (fun (W : World) (hf : Frm (fun _ => False) w14 W) => rchoose_any hMok n HNN.out A c B d _ _ _ Aa M.ou ca ua Av n5 cv' cs W (by omega) (by omega) (by omega) (hA14.frm hf (fun _ _ => id)) (hB14.frm hf (fun _ _ => id)) HVL.out rfl HML.out (hu14.frm hf (fun _ _ => id)) (hR14.frm hf (fun _ _ => id)))
  have HSC := Lib.hid (fun (W : World) (hf : Frm (fun _ => False) w14 W) => sameCircuit_any (w := W) (by omega : L2.length ≤ 1000000) (by omega : o2.length ≤ 1000000) (IsC.frm ⟨Ab, eb, Bb, db, rfl, hAb14.mono (G := fun _ => True) (fun _ _ _ => trivial), hBb14.mono (G := fun _ => True) (fun _ _ _ => trivial)⟩ hf (fun _ _ => id)) (IsC.frm (n := N) ⟨Ax, ex', Bx, dx, rfl, hAx14.mono (G := fun _ => True) (fun _ _ _ => trivial), hBx14.mono (G := fun _ => True) (fun _ _ _ => trivial)⟩ hf (fun _ _ => id)))
  have HI1 := Lib.hid (fun (W : World) (hf : Frm (fun _ => False) w14 W) => HIS.out W (hf014.trans hf))
  have HI2 := Lib.hid (fun (W : World) (hf : Frm (fun _ => False) w14 W) => HI4.out W (hf014.trans hf))
  simp only [cv, mtv] at HBE HRW HCH HRCH HSC
  simp only [beq_self_eq_true] at HI1
  generalize M.wanted ua ub = z at *
  generalize M.choose ua cs = kk at *
  have hzz : ((!z) != z) = true := by cases z <;> rfl
  have hH0 : w14.drew.cell? ⟨mb, 0, none⟩ = some (.bool M.ex) ∧ w14.drew.cell? ⟨mb, 1, none⟩ = some (.int .i64 (M.ou : Int)) ∧ w14.drew.cell? ⟨mb, 2, none⟩ = some (.int .i64 (n : Int)) ∧ w14.drew.cell? ⟨mb, 3, none⟩ = some (.slice A M.L.length c) ∧ w14.drew.cell? ⟨mb, 4, none⟩ = some (.slice B 1 d) ∧ w14.drew.cell? ⟨cb, 0, none⟩ = some (.int .i64 N) ∧ w14.drew.cell? ⟨cb, 1, none⟩ = some (.slice Ab L2.length eb) ∧ w14.drew.cell? ⟨cb, 2, none⟩ = some (.slice Bb o2.length db) ∧ w14.drew.cell? ⟨xb, 0, none⟩ = some (.int .i64 N) ∧ w14.drew.cell? ⟨xb, 1, none⟩ = some (.slice Ax L2.length ex') ∧ w14.drew.cell? ⟨xb, 2, none⟩ = some (.slice Bx o2.length dx) := ⟨hb14.at_ 0 rfl, hb14.at_ 1 rfl, hb14.at_ 2 rfl, hb14.at_ 3 rfl, hb14.at_ 4 rfl, hbb14.at_ 0 rfl, hbb14.at_ 1 rfl, hbb14.at_ 2 rfl, hbx14.at_ 0 rfl, hbx14.at_ 1 rfl, hbx14.at_ 2 rfl⟩
  have HH := Lib.hid (fun (W W' : World) (hf : Frm (fun _ => False) W W') (h : W.cell? ⟨mb, 0, none⟩ = some (.bool M.ex) ∧ W.cell? ⟨mb, 1, none⟩ = some (.int .i64 (M.ou : Int)) ∧ W.cell? ⟨mb, 2, none⟩ = some (.int .i64 (n : Int)) ∧ W.cell? ⟨mb, 3, none⟩ = some (.slice A M.L.length c) ∧ W.cell? ⟨mb, 4, none⟩ = some (.slice B 1 d) ∧ W.cell? ⟨cb, 0, none⟩ = some (.int .i64 N) ∧ W.cell? ⟨cb, 1, none⟩ = some (.slice Ab L2.length eb) ∧ W.cell? ⟨cb, 2, none⟩ = some (.slice Bb o2.length db) ∧ W.cell? ⟨xb, 0, none⟩ = some (.int .i64 N) ∧ W.cell? ⟨xb, 1, none⟩ = some (.slice Ax L2.length ex') ∧ W.cell? ⟨xb, 2, none⟩ = some (.slice Bx o2.length dx)) => show W'.cell? ⟨mb, 0, none⟩ = some (.bool M.ex) ∧ W'.cell? ⟨mb, 1, none⟩ = some (.int .i64 (M.ou : Int)) ∧ W'.cell? ⟨mb, 2, none⟩ = some (.int .i64 (n : Int)) ∧ W'.cell? ⟨mb, 3, none⟩ = some (.slice A M.L.length c) ∧ W'.cell? ⟨mb, 4, none⟩ = some (.slice B 1 d) ∧ W'.cell? ⟨cb, 0, none⟩ = some (.int .i64 N) ∧ W'.cell? ⟨cb, 1, none⟩ = some (.slice Ab L2.length eb) ∧ W'.cell? ⟨cb, 2, none⟩ = some (.slice Bb o2.length db) ∧ W'.cell? ⟨xb, 0, none⟩ = some (.int .i64 N) ∧ W'.cell? ⟨xb, 1, none⟩ = some (.slice Ax L2.length ex') ∧ W'.cell? ⟨xb, 2, none⟩ = some (.slice Bx o2.length dx) from ⟨hf.cell h.1 id, hf.cell h.2.1 id, hf.cell h.2.2.1 id, hf.cell h.2.2.2.1 id, hf.cell h.2.2.2.2.1 id, hf.cell h.2.2.2.2.2.1 id, hf.cell h.2.2.2.2.2.2.1 id, hf.cell h.2.2.2.2.2.2.2.1 id, hf.cell h.2.2.2.2.2.2.2.2.1 id, hf.cell h.2.2.2.2.2.2.2.2.2.1 id, hf.cell h.2.2.2.2.2.2.2.2.2.2 id⟩)
  have e0 := (Frm.refl (fun _ => False) w14).drew
  clear hno hno2 hA14 hB14 hu14 hv14 hAb14 hBb14 hAx14 hBx14 hb13 hbb13 hbx hA13 hB13 hu13 hv13 hAb13 hBb13 hAx13 hBx13 hf013 HIS HI4 hb14 hbb14 hbx14 hR14 f14
  go_wp2_with fail
  have hHeld := hH0
  refine Held.begin (fun W => W.cell? ⟨mb, 0, none⟩ = some (.bool M.ex) ∧ W.cell? ⟨mb, 1, none⟩ = some (.int .i64 (M.ou : Int)) ∧ W.cell? ⟨mb, 2, none⟩ = some (.int .i64 (n : Int)) ∧ W.cell? ⟨mb, 3, none⟩ = some (.slice A M.L.length c) ∧ W.cell? ⟨mb, 4, none⟩ = some (.slice B 1 d) ∧ W.cell? ⟨cb, 0, none⟩ = some (.int .i64 N) ∧ W.cell? ⟨cb, 1, none⟩ = some (.slice Ab L2.length eb) ∧ W.cell? ⟨cb, 2, none⟩ = some (.slice Bb o2.length db) ∧ W.cell? ⟨xb, 0, none⟩ = some (.int .i64 N) ∧ W.cell? ⟨xb, 1, none⟩ = some (.slice Ax L2.length ex') ∧ W.cell? ⟨xb, 2, none⟩ = some (.slice Bx o2.length dx)) 37 (by kernel_rfl) ?_
  refine Held.take (i := 0) (oi := ?oo0) (v := ?vo0) ?hio0 (by kernel_rfl) (by kernel_rfl) (by kernel_rfl) (by kernel_rfl) (fun _ _ _ h => h) (Or.inl ⟨?hwo0, ?hyo0⟩) (by assumption) ?resto0
  case hio0 => (simp only [List.getElem?_toArray, List.getElem?_cons_zero]; rfl)
  case hwo0 => rfl
  case hyo0 => (intro w hSw; (try dsimp only at hSw); go_simp; try with_reducible rfl)
  (try simp only [Act.put, List.setIfInBounds_toArray, List.set_cons_zero, List.set_cons_succ])
  refine Held.take (i := 1) (oi := ?oo1) (v := ?vo1) ?hio1 (by kernel_rfl) (by kernel_rfl) (by kernel_rfl) (by kernel_rfl) (fun _ _ _ h => h) (Or.inl ⟨?hwo1, ?hyo1⟩) (by assumption) ?resto1
  case hio1 => (simp only [List.getElem?_toArray, List.getElem?_cons_succ, List.getElem?_cons_zero]; rfl)
  case hwo1 => rfl
  case hyo1 => (intro w hSw; (try dsimp only at hSw); go_simp; try with_reducible rfl)
  (try simp only [Act.put, List.setIfInBounds_toArray, List.set_cons_zero, List.set_cons_succ])
  refine Held.take (i := 2) (oi := ?oo2) (v := ?vo2) ?hio2 (by kernel_rfl) (by kernel_rfl) (by kernel_rfl) (by kernel_rfl) (fun _ _ _ h => h) (Or.inl ⟨?hwo2, ?hyo2⟩) (by assumption) ?resto2
  case hio2 => (simp only [List.getElem?_toArray, List.getElem?_cons_succ, List.getElem?_cons_zero]; rfl)
  case hwo2 => rfl
  case hyo2 => (intro w hSw; (try dsimp only at hSw); go_simp; try with_reducible rfl)
  (try simp only [Act.put, List.setIfInBounds_toArray, List.set_cons_zero, List.set_cons_succ])
  refine Held.take (i := 3) (oi := ?oo3) (v := ?vo3) ?hio3 (by kernel_rfl) (by kernel_rfl) (by kernel_rfl) (by kernel_rfl) (fun _ _ _ h => h) (Or.inl ⟨?hwo3, ?hyo3⟩) (by assumption) ?resto3
  case hio3 => (simp only [List.getElem?_toArray, List.getElem?_cons_succ, List.getElem?_cons_zero]; rfl)
  case hwo3 => rfl
  case hyo3 => (intro w hSw; (try dsimp only at hSw); go_simp; try with_reducible rfl)
  (try simp only [Act.put, List.setIfInBounds_toArray, List.set_cons_zero, List.set_cons_succ])
  refine Held.take (i := 4) (oi := ?oo4) (v := ?vo4) ?hio4 (by kernel_rfl) (by kernel_rfl) (by kernel_rfl) (by kernel_rfl) (fun _ _ _ h => h) (Or.inl ⟨?hwo4, ?hyo4⟩) (by assumption) ?resto4
  case hio4 => (simp only [List.getElem?_toArray, List.getElem?_cons_succ, List.getElem?_cons_zero]; rfl)
  case hwo4 => rfl
  case hyo4 => (intro w hSw; (try dsimp only at hSw); go_simp; try with_reducible rfl)
  (try simp only [Act.put, List.setIfInBounds_toArray, List.set_cons_zero, List.set_cons_succ])
  refine Held.take (i := 6) (oi := ?oo6) (v := ?vo6) ?hio6 (by kernel_rfl) (by kernel_rfl) (by kernel_rfl) (by kernel_rfl) (fun _ _ _ h => h) (Or.inl ⟨?hwo6, ?hyo6⟩) (by assumption) ?resto6
  case hio6 => (simp only [List.getElem?_toArray, List.getElem?_cons_succ, List.getElem?_cons_zero]; rfl)
  case hwo6 => rfl
  case hyo6 => (intro w hSw; (try dsimp only at hSw); go_simp; try with_reducible rfl)
  (try simp only [Act.put, List.setIfInBounds_toArray, List.set_cons_zero, List.set_cons_succ])
  refine Held.take (i := 7) (oi := ?oo7) (v := ?vo7) ?hio7 (by kernel_rfl) (by kernel_rfl) (by kernel_rfl) (by kernel_rfl) (fun _ _ _ h => h) (Or.inl ⟨?hwo7, ?hyo7⟩) (by assumption) ?resto7
  case hio7 => (simp only [List.getElem?_toArray, List.getElem?_cons_succ, List.getElem?_cons_zero]; rfl)
  case hwo7 => rfl
  case hyo7 => (intro w hSw; (try dsimp only at hSw); go_simp; try with_reducible rfl)
  (try simp only [Act.put, List.setIfInBounds_toArray, List.set_cons_zero, List.set_cons_succ])
  refine Held.take (i := 8) (oi := ?oo8) (v := ?vo8) ?hio8 (by kernel_rfl) (by kernel_rfl) (by kernel_rfl) (by kernel_rfl) (fun _ _ _ h => h) (Or.inl ⟨?hwo8, ?hyo8⟩) (by assumption) ?resto8
  case hio8 => (simp only [List.getElem?_toArray, List.getElem?_cons_succ, List.getElem?_cons_zero]; rfl)
  case hwo8 => rfl
  case hyo8 => (intro w hSw; (try dsimp only at hSw); go_simp; try with_reducible rfl)
  (try simp only [Act.put, List.setIfInBounds_toArray, List.set_cons_zero, List.set_cons_succ])
  refine Held.next (i := 5) (o := ?oo5) (by kernel_rfl) ?hio5 (fun K hK => ?sto5)
  case hio5 => (simp only [List.getElem?_toArray, List.getElem?_cons_succ, List.getElem?_cons_zero]; rfl)
  go_simp
  (go_at_call 97; refine (HBE.out _ e0).mono ?_; rintro e u1 ⟨rfl, g1⟩)
  (try go_wp2_with fail)
  refine hK.out _ _ (fun _ => by exact HH.out _ _ g1 hHeld) ?_
  clear hK K
  (try simp only [Act.put, List.setIfInBounds_toArray, List.set_cons_zero, List.set_cons_succ])
  have s1 := HH.out _ _ g1 hHeld
  have e1 := e0.trans g1
  refine Held.next (i := 9) (o := ?oo9) (by kernel_rfl) ?hio9 (fun K hK => ?sto9)
  case hio9 => (simp only [List.getElem?_toArray, List.getElem?_cons_succ, List.getElem?_cons_zero]; rfl)
  go_simp
  (go_at_call 98; refine (HRW.out _ e1).mono ?_; rintro e u2 ⟨rfl, g2⟩)
  (try go_wp2_with fail)
  refine hK.out _ _ (fun _ => by exact HH.out _ _ g2 s1) ?_
  clear hK K
  (try simp only [Act.put, List.setIfInBounds_toArray, List.set_cons_zero, List.set_cons_succ])
  have s2 := HH.out _ _ g2 s1
  have e2 := e1.trans g2
  refine Held.take (i := 10) (oi := ?oo10) (v := ?vo10) ?hio10 (by kernel_rfl) (by kernel_rfl) (by kernel_rfl) (by kernel_rfl) (fun _ _ _ h => h) (Or.inl ⟨?hwo10, ?hyo10⟩) (by assumption) ?resto10
  case hio10 => (simp only [List.getElem?_toArray, List.getElem?_cons_succ, List.getElem?_cons_zero]; rfl)
  case hwo10 => rfl
  case hyo10 => (intro w hSw; (try dsimp only at hSw); go_simp; try with_reducible rfl)
  (try simp only [Act.put, List.setIfInBounds_toArray, List.set_cons_zero, List.set_cons_succ])
  refine Held.take (i := 11) (oi := ?oo11) (v := ?vo11) ?hio11 (by kernel_rfl) (by kernel_rfl) (by kernel_rfl) (by kernel_rfl) (fun _ _ _ h => h) (Or.inl ⟨?hwo11, ?hyo11⟩) (by assumption) ?resto11
  case hio11 => (simp only [List.getElem?_toArray, List.getElem?_cons_succ, List.getElem?_cons_zero]; rfl)
  case hwo11 => rfl
  case hyo11 => (intro w hSw; (try dsimp only at hSw); go_simp; try with_reducible rfl)
  (try simp only [Act.put, List.setIfInBounds_toArray, List.set_cons_zero, List.set_cons_succ])
  refine Held.take (i := 12) (oi := ?oo12) (v := ?vo12) ?hio12 (by kernel_rfl) (by kernel_rfl) (by kernel_rfl) (by kernel_rfl) (fun _ _ _ h => h) (Or.inl ⟨?hwo12, ?hyo12⟩) (by assumption) ?resto12
  case hio12 => (simp only [List.getElem?_toArray, List.getElem?_cons_succ, List.getElem?_cons_zero]; rfl)
  case hwo12 => rfl
  case hyo12 => (intro w hSw; (try dsimp only at hSw); go_simp; try with_reducible rfl)
  (try simp only [Act.put, List.setIfInBounds_toArray, List.set_cons_zero, List.set_cons_succ])
  refine Held.take (i := 13) (oi := ?oo13) (v := ?vo13) ?hio13 (by kernel_rfl) (by kernel_rfl) (by kernel_rfl) (by kernel_rfl) (fun _ _ _ h => h) (Or.inl ⟨?hwo13, ?hyo13⟩) (by assumption) ?resto13
  case hio13 => (simp only [List.getElem?_toArray, List.getElem?_cons_succ, List.getElem?_cons_zero]; rfl)
  case hwo13 => rfl
  case hyo13 => (intro w hSw; (try dsimp only at hSw); go_simp; try with_reducible rfl)
  (try simp only [Act.put, List.setIfInBounds_toArray, List.set_cons_zero, List.set_cons_succ])
  refine Held.take (i := 14) (oi := ?oo14) (v := ?vo14) ?hio14 (by kernel_rfl) (by kernel_rfl) (by kernel_rfl) (by kernel_rfl) (fun _ _ _ h => h) (Or.inl ⟨?hwo14, ?hyo14⟩) (by assumption) ?resto14
  case hio14 => (simp only [List.getElem?_toArray, List.getElem?_cons_succ, List.getElem?_cons_zero]; rfl)
  case hwo14 => rfl
  case hyo14 => (intro w hSw; (try dsimp only at hSw); go_simp; try with_reducible rfl)
  (try simp only [Act.put, List.setIfInBounds_toArray, List.set_cons_zero, List.set_cons_succ])
  refine Held.take (i := 15) (oi := ?oo15) (v := ?vo15) ?hio15 (by kernel_rfl) (by kernel_rfl) (by kernel_rfl) (by kernel_rfl) (fun _ _ _ h => h) (Or.inl ⟨?hwo15, ?hyo15⟩) (by assumption) ?resto15
  case hio15 => (simp only [List.getElem?_toArray, List.getElem?_cons_succ, List.getElem?_cons_zero]; rfl)
  case hwo15 => rfl
  case hyo15 => (intro w hSw; (try dsimp only at hSw); go_simp; try with_reducible rfl)
  (try simp only [Act.put, List.setIfInBounds_toArray, List.set_cons_zero, List.set_cons_succ])
  refine Held.take (i := 17) (oi := ?oo17) (v := ?vo17) ?hio17 (by kernel_rfl) (by kernel_rfl) (by kernel_rfl) (by kernel_rfl) (fun _ _ _ h => h) (Or.inl ⟨?hwo17, ?hyo17⟩) (by assumption) ?resto17
  case hio17 => (simp only [List.getElem?_toArray, List.getElem?_cons_succ, List.getElem?_cons_zero]; rfl)
  case hwo17 => rfl
  case hyo17 => (intro w hSw; (try dsimp only at hSw); go_simp; try with_reducible rfl)
  (try simp only [Act.put, List.setIfInBounds_toArray, List.set_cons_zero, List.set_cons_succ])
  refine Held.take (i := 18) (oi := ?oo18) (v := ?vo18) ?hio18 (by kernel_rfl) (by kernel_rfl) (by kernel_rfl) (by kernel_rfl) (fun _ _ _ h => h) (Or.inl ⟨?hwo18, ?hyo18⟩) (by assumption) ?resto18
  case hio18 => (simp only [List.getElem?_toArray, List.getElem?_cons_succ, List.getElem?_cons_zero]; rfl)
  case hwo18 => rfl
  case hyo18 => (intro w hSw; (try dsimp only at hSw); go_simp; try with_reducible rfl)
  (try simp only [Act.put, List.setIfInBounds_toArray, List.set_cons_zero, List.set_cons_succ])
  refine Held.take (i := 19) (oi := ?oo19) (v := ?vo19) ?hio19 (by kernel_rfl) (by kernel_rfl) (by kernel_rfl) (by kernel_rfl) (fun _ _ _ h => h) (Or.inl ⟨?hwo19, ?hyo19⟩) (by assumption) ?resto19
  case hio19 => (simp only [List.getElem?_toArray, List.getElem?_cons_succ, List.getElem?_cons_zero]; rfl)
  case hwo19 => rfl
  case hyo19 => (intro w hSw; (try dsimp only at hSw); go_simp; try with_reducible rfl)
  (try simp only [Act.put, List.setIfInBounds_toArray, List.set_cons_zero, List.set_cons_succ])
  refine Held.next (i := 16) (o := ?oo16) (by kernel_rfl) ?hio16 (fun K hK => ?sto16)
  case hio16 => (simp only [List.getElem?_toArray, List.getElem?_cons_succ, List.getElem?_cons_zero]; rfl)
  go_simp
  (go_at_call 99; refine (HCH.out _ e2).mono ?_; rintro e u3 ⟨rfl, g3⟩)
  (try go_wp2_with fail)
  refine hK.out _ _ (fun _ => by exact HH.out _ _ g3 s2) ?_
  clear hK K
  (try simp only [Act.put, List.setIfInBounds_toArray, List.set_cons_zero, List.set_cons_succ])
  have s3 := HH.out _ _ g3 s2
  have e3 := e2.trans g3
  refine Held.next (i := 20) (o := ?oo20) (by kernel_rfl) ?hio20 (fun K hK => ?sto20)
  case hio20 => (simp only [List.getElem?_toArray, List.getElem?_cons_succ, List.getElem?_cons_zero]; rfl)
  go_simp
  (go_at_call 100; refine (HRCH.out _ e3).mono ?_; rintro e u4 ⟨rfl, g4⟩)
  (try go_wp2_with fail)
  refine hK.out _ _ (fun _ => by exact HH.out _ _ g4 s3) ?_
  clear hK K
  (try simp only [Act.put, List.setIfInBounds_toArray, List.set_cons_zero, List.set_cons_succ])
  have s4 := HH.out _ _ g4 s3
  have e4 := e3.trans g4
  refine Held.take (i := 21) (oi := ?oo21) (v := ?vo21) ?hio21 (by kernel_rfl) (by kernel_rfl) (by kernel_rfl) (by kernel_rfl) (fun _ _ _ h => h) (Or.inl ⟨?hwo21, ?hyo21⟩) (by assumption) ?resto21
  case hio21 => (simp only [List.getElem?_toArray, List.getElem?_cons_succ, List.getElem?_cons_zero]; rfl)
  case hwo21 => rfl
  case hyo21 => (intro w hSw; (try dsimp only at hSw); go_simp; try with_reducible rfl)
  (try simp only [Act.put, List.setIfInBounds_toArray, List.set_cons_zero, List.set_cons_succ])
  refine Held.take (i := 22) (oi := ?oo22) (v := ?vo22) ?hio22 (by kernel_rfl) (by kernel_rfl) (by kernel_rfl) (by kernel_rfl) (fun _ _ _ h => h) (Or.inl ⟨?hwo22, ?hyo22⟩) (by assumption) ?resto22
  case hio22 => (simp only [List.getElem?_toArray, List.getElem?_cons_succ, List.getElem?_cons_zero]; rfl)
  case hwo22 => rfl
  case hyo22 => (intro w hSw; (try dsimp only at hSw); go_simp; try with_reducible rfl)
  (try simp only [Act.put, List.setIfInBounds_toArray, List.set_cons_zero, List.set_cons_succ])
  refine Held.take (i := 23) (oi := ?oo23) (v := ?vo23) ?hio23 (by kernel_rfl) (by kernel_rfl) (by kernel_rfl) (by kernel_rfl) (fun _ _ _ h => h) (Or.inl ⟨?hwo23, ?hyo23⟩) (by assumption) ?resto23
  case hio23 => (simp only [List.getElem?_toArray, List.getElem?_cons_succ, List.getElem?_cons_zero]; rfl)
  case hwo23 => rfl
  case hyo23 => (intro w hSw; (try dsimp only at hSw); go_simp; try with_reducible rfl)
  (try simp only [Act.put, List.setIfInBounds_toArray, List.set_cons_zero, List.set_cons_succ])
  refine Held.take (i := 24) (oi := ?oo24) (v := ?vo24) ?hio24 (by kernel_rfl) (by kernel_rfl) (by kernel_rfl) (by kernel_rfl) (fun _ _ _ h => h) (Or.inl ⟨?hwo24, ?hyo24⟩) (by assumption) ?resto24
  case hio24 => (simp only [List.getElem?_toArray, List.getElem?_cons_succ, List.getElem?_cons_zero]; rfl)
  case hwo24 => rfl
  case hyo24 => (intro w hSw; (try dsimp only at hSw); go_simp; try with_reducible rfl)
  (try simp only [Act.put, List.setIfInBounds_toArray, List.set_cons_zero, List.set_cons_succ])
  refine Held.take (i := 25) (oi := ?oo25) (v := ?vo25) ?hio25 (by kernel_rfl) (by kernel_rfl) (by kernel_rfl) (by kernel_rfl) (fun _ _ _ h => h) (Or.inl ⟨?hwo25, ?hyo25⟩) (by assumption) ?resto25
  case hio25 => (simp only [List.getElem?_toArray, List.getElem?_cons_succ, List.getElem?_cons_zero]; rfl)
  case hwo25 => rfl
  case hyo25 => (intro w hSw; (try dsimp only at hSw); go_simp; try with_reducible rfl)
  (try simp only [Act.put, List.setIfInBounds_toArray, List.set_cons_zero, List.set_cons_succ])
  refine Held.next (i := 26) (o := ?oo26) (by kernel_rfl) ?hio26 (fun K hK => ?sto26)
  case hio26 => (simp only [List.getElem?_toArray, List.getElem?_cons_succ, List.getElem?_cons_zero]; rfl)
  go_simp
  (go_at_call 38; refine (HSC.out _ e4).mono ?_; rintro e u5 ⟨rfl, g5⟩)
  (try go_wp2_with fail)
  refine hK.out _ _ (fun _ => by exact HH.out _ _ g5 s4) ?_
  clear hK K
  (try simp only [Act.put, List.setIfInBounds_toArray, List.set_cons_zero, List.set_cons_succ])
  have s5 := HH.out _ _ g5 s4
  have e5 := e4.trans g5
  refine Held.take (i := 27) (oi := ?oo27) (v := ?vo27) ?hio27 (by kernel_rfl) (by kernel_rfl) (by kernel_rfl) (by kernel_rfl) (fun _ _ _ h => h) (Or.inl ⟨?hwo27, ?hyo27⟩) (by assumption) ?resto27
  case hio27 => (simp only [List.getElem?_toArray, List.getElem?_cons_succ, List.getElem?_cons_zero]; rfl)
  case hwo27 => rfl
  case hyo27 => (intro w hSw; (try dsimp only at hSw); go_simp; try with_reducible rfl)
  (try simp only [Act.put, List.setIfInBounds_toArray, List.set_cons_zero, List.set_cons_succ])
  refine Held.take (i := 28) (oi := ?oo28) (v := ?vo28) ?hio28 (by kernel_rfl) (by kernel_rfl) (by kernel_rfl) (by kernel_rfl) (fun _ _ _ h => h) (Or.inl ⟨?hwo28, ?hyo28⟩) (by assumption) ?resto28
  case hio28 => (simp only [List.getElem?_toArray, List.getElem?_cons_succ, List.getElem?_cons_zero]; rfl)
  case hwo28 => rfl
  case hyo28 => (intro w hSw; (try dsimp only at hSw); go_simp; try with_reducible rfl)
  (try simp only [Act.put, List.setIfInBounds_toArray, List.set_cons_zero, List.set_cons_succ])
  refine Held.take (i := 29) (oi := ?oo29) (v := ?vo29) ?hio29 (by kernel_rfl) (by kernel_rfl) (by kernel_rfl) (by kernel_rfl) (fun _ _ _ h => h) (Or.inl ⟨?hwo29, ?hyo29⟩) (by assumption) ?resto29
  case hio29 => (simp only [List.getElem?_toArray, List.getElem?_cons_succ, List.getElem?_cons_zero]; rfl)
  case hwo29 => rfl
  case hyo29 => (intro w hSw; (try dsimp only at hSw); go_simp; try with_reducible rfl)
  (try simp only [Act.put, List.setIfInBounds_toArray, List.set_cons_zero, List.set_cons_succ])
  refine Held.take (i := 30) (oi := ?oo30) (v := ?vo30) ?hio30 (by kernel_rfl) (by kernel_rfl) (by kernel_rfl) (by kernel_rfl) (fun _ _ _ h => h) (Or.inl ⟨?hwo30, ?hyo30⟩) (by assumption) ?resto30
  case hio30 => (simp only [List.getElem?_toArray, List.getElem?_cons_succ, List.getElem?_cons_zero]; rfl)
  case hwo30 => rfl
  case hyo30 => (intro w hSw; (try dsimp only at hSw); go_simp; try with_reducible rfl)
  (try simp only [Act.put, List.setIfInBounds_toArray, List.set_cons_zero, List.set_cons_succ])
  refine Held.next (i := 31) (o := ?oo31) (by kernel_rfl) ?hio31 (fun K hK => ?sto31)
  case hio31 => (simp only [List.getElem?_toArray, List.getElem?_cons_succ, List.getElem?_cons_zero]; rfl)
  go_simp
  (go_at_call 41; refine (HI1.out _ e5).mono ?_; rintro e u6 ⟨rfl, g6⟩)
  (try go_wp2_with fail)
  refine hK.out _ _ (fun _ => by exact HH.out _ _ g6 s5) ?_
  clear hK K
  (try simp only [Act.put, List.setIfInBounds_toArray, List.set_cons_zero, List.set_cons_succ])
  have s6 := HH.out _ _ g6 s5
  have e6 := e5.trans g6
  refine Held.take (i := 32) (oi := ?oo32) (v := ?vo32) ?hio32 (by kernel_rfl) (by kernel_rfl) (by kernel_rfl) (by kernel_rfl) (fun _ _ _ h => h) (Or.inl ⟨?hwo32, ?hyo32⟩) (by assumption) ?resto32
  case hio32 => (simp only [List.getElem?_toArray, List.getElem?_cons_succ, List.getElem?_cons_zero]; rfl)
  case hwo32 => rfl
  case hyo32 => (intro w hSw; (try dsimp only at hSw); go_simp; try with_reducible rfl)
  (try simp only [Act.put, List.setIfInBounds_toArray, List.set_cons_zero, List.set_cons_succ])
  refine Held.take (i := 33) (oi := ?oo33) (v := ?vo33) ?hio33 (by kernel_rfl) (by kernel_rfl) (by kernel_rfl) (by kernel_rfl) (fun _ _ _ h => h) (Or.inl ⟨?hwo33, ?hyo33⟩) (by assumption) ?resto33
  case hio33 => (simp only [List.getElem?_toArray, List.getElem?_cons_succ, List.getElem?_cons_zero]; rfl)
  case hwo33 => rfl
  case hyo33 => (intro w hSw; (try dsimp only at hSw); go_simp; try with_reducible rfl)
  (try simp only [Act.put, List.setIfInBounds_toArray, List.set_cons_zero, List.set_cons_succ])
  refine Held.take (i := 34) (oi := ?oo34) (v := ?vo34) ?hio34 (by kernel_rfl) (by kernel_rfl) (by kernel_rfl) (by kernel_rfl) (fun _ _ _ h => h) (Or.inl ⟨?hwo34, ?hyo34⟩) (by assumption) ?resto34
  case hio34 => (simp only [List.getElem?_toArray, List.getElem?_cons_succ, List.getElem?_cons_zero]; rfl)
  case hwo34 => rfl
  case hyo34 => (intro w hSw; (try dsimp only at hSw); go_simp; try with_reducible rfl)
  (try simp only [Act.put, List.setIfInBounds_toArray, List.set_cons_zero, List.set_cons_succ])
  refine Held.next (i := 35) (o := ?oo35) (by kernel_rfl) ?hio35 (fun K hK => ?sto35)
  case hio35 => (simp only [List.getElem?_toArray, List.getElem?_cons_succ, List.getElem?_cons_zero]; rfl)
  go_simp
  (go_at_call 41; refine (HI2.out _ e6).mono ?_; rintro e u7 ⟨rfl, g7⟩)
  (try go_wp2_with fail)
  refine hK.out _ _ (fun _ => by exact HH.out _ _ g7 s6) ?_
  clear hK K
  (try simp only [Act.put, List.setIfInBounds_toArray, List.set_cons_zero, List.set_cons_succ])
  have s7 := HH.out _ _ g7 s6
  have e7 := e6.trans g7
  refine Held.take (i := 36) (oi := ?oo36) (v := ?vo36) ?hio36 (by kernel_rfl) (by kernel_rfl) (by kernel_rfl) (by kernel_rfl) (fun _ _ _ h => h) (Or.inl ⟨?hwo36, ?hyo36⟩) (by assumption) ?resto36
  case hio36 => (simp only [List.getElem?_toArray, List.getElem?_cons_succ, List.getElem?_cons_zero]; rfl)
  case hwo36 => rfl
  case hyo36 => (intro w hSw; (try dsimp only at hSw); go_simp; try with_reducible rfl)
  (try simp only [Act.put, List.setIfInBounds_toArray, List.set_cons_zero, List.set_cons_succ])
  refine Held.next (i := 37) (o := ?oo37) (by kernel_rfl) ?hio37 (fun K hK => ?sto37)
  case hio37 => (simp only [List.getElem?_toArray, List.getElem?_cons_succ, List.getElem?_cons_zero]; rfl)
  go_simp
  refine hK.out _ _ (fun h => absurd h (by decide)) ?_
  clear hK K
  (try simp only [Act.put, List.setIfInBounds_toArray, List.set_cons_zero, List.set_cons_succ])
  refine Held.done (by kernel_rfl) ?_ _
  refine NoPanic.normal ?_
  go_wp2_with fail
  go_ret
  exact ⟨rfl, hf014.trans e7⟩

set_option maxRecDepth 100000 in
set_option maxHeartbeats 2000000 in
/-- the guards' own ways out -/
theorem lisays_out (P : Nat → Addr) (a0 a1 : Int) (A2 : Option Addr) (n2 c2 : Nat) (x : Int) (ex : Bool) (A5 : Option Addr) (n5 c5 : Nat) (y1 y2 : Int) (w : World) (hS : Sents L7 P w) (h : ¬ (n2 ≤ 80 ∧ n5 ≤ 12)) :
    Calls Tryd.prog 21 #[.int .i64 a0, .int .i64 a1, .slice A2 n2 c2, .int .i64 x, .bool ex, .slice A5 n5 c5, .int .i64 y1, .int .i64 y2] w fun e w' => e = .returned (.bool true) ∧ Frm (fun _ => False) w w' := by
  have HF := Lib.hid (first24_any P w hS)
  have HN := Lib.hid h
  clear h hS
  by_cases g0 : (80 : Int) < n2
  · skip
    go_enter Tryd.func21, Tryd.ntmps21
    go_wp2_with fail
    refine HF.out.mono ?_
    rintro e w1 ⟨rfl, hf1⟩
    go_wp2_with fail
    go_ret
    exact ⟨rfl, hf1⟩
  · skip
    have g1 : (12 : Int) < n5 := by have := HN.out; omega
    go_enter Tryd.func21, Tryd.ntmps21
    go_wp2_with fail
    refine HF.out.mono ?_
    rintro e w1 ⟨rfl, hf1⟩
    go_wp2_with fail
    go_ret
    exact ⟨rfl, hf1⟩

theorem lisays_law (a0 : Int) (_ : (Lit.int .i64 a0).wf = true) (a1 : Int) (_ : (Lit.int .i64 a1).wf = true)
    (A2 : Option Addr) (n2 c2 : Nat) (z2 : List Int) (hz2 : z2.length = n2) {w0 : World} (s2 : Sl w0 (fun k => k < w0.heap.size) 1 (.slice A2 n2 c2) n2 (z2.map (.int .i64))) (_ : ∀ n ∈ z2, (Lit.int .i64 n).wf = true)
    (x : Int) (_ : (Lit.int .i64 x).wf = true) (ex : Bool)
    (A5 : Option Addr) (n5 c5 : Nat) (z5 : List Int) (hz5 : z5.length = n5) (s5 : Sl w0 (fun k => k < w0.heap.size) 1 (.slice A5 n5 c5) n5 (z5.map (.int .i64))) (_ : ∀ n ∈ z5, (Lit.int .i64 n).wf = true)
    (y1 : Int) (_ : (Lit.int .i64 y1).wf = true) (y2 : Int) (_ : (Lit.int .i64 y2).wf = true)
    (w : World) (e : w = w0) (hL : laidMetH Tryd.prog Rows.graphPlaysRow.laid w) :
    Calls Tryd.prog 21 #[.int .i64 a0, .int .i64 a1, .slice A2 n2 c2, .int .i64 x, .bool ex, .slice A5 n5 c5, .int .i64 y1, .int .i64 y2] w fun e w' => e = .returned (.bool true) ∧ Frm (fun _ => False) w w' := by
  subst e
  by_cases h : n2 ≤ 80 ∧ n5 ≤ 12
  · exact lisays_any _ a0 a1 A2 n2 c2 z2 hz2 x ex A5 n5 c5 z5 hz5 y1 y2 w s2 s5 (sents7 hL) h.1 h.2
  · exact lisays_out _ a0 a1 A2 n2 c2 x ex A5 n5 c5 y1 y2 w (sents7 hL) h

end Go.Proofs.YtkjlgamggkencaaDoor
