/-
  The walk of ListWorth.
-/
import Derived.Test.YtkjlgamggkencaaDoorMLaw24
import Derived.Test.YtkjlgamggkencaaDoorMRowsA
import Derived.Test.YtkjlgamggkencaaDoorMSameB
import Derived.Test.YtkjlgamggkencaaDoorMMade
import Derived.Test.YtkjlgamggkencaaDoorMRCheck
import Derived.Test.YtkjlgamggkencaaDoorMArgC
namespace Go.Proofs.YtkjlgamggkencaaDoor
open Go.RowKit
set_option linter.unusedVariables false

/-- which move the functions have -/
theorem fn_first {M : Mt} (hM : M.Ok) {cs : List (List Bool)} (h0 : 0 < cs.length) (hl : ∀ r ∈ cs, r.length = M.inn) (hf : FnOk M cs (M.fn cs)) {inp : List Bool} (hi : inp.length = M.ou) :
    (M.choose inp cs = -1 ∧ (M.fn cs).1.map (worth ((M.fn cs).2.nod inp)) = cs.getD (cs.length - 1) []) ∨
    ∃ k, k < cs.length ∧ M.choose inp cs = (k : Int) ∧ M.wanted inp (cs.getD k []) = false ∧ (M.fn cs).1.map (worth ((M.fn cs).2.nod inp)) = cs.getD k [] := by
  rcases choose_spec M inp cs with ⟨h1, h2⟩ | ⟨k, h1, h2, h3, h4⟩
  · exact .inl ⟨h1, hf.val hM hl inp hi (cs.length - 1) (by omega) (fun j hj => h2 j (by omega)) (.inl (by omega))⟩
  · exact .inr ⟨k, h1, h2, h3, hf.val hM hl inp hi k h1 h4 (.inr h3)⟩

set_option maxRecDepth 100000 in
set_option maxHeartbeats 2000000 in
theorem lisw_any (P : Nat → Addr) (a0 a1 : Int) (A2 : Option Addr) (n2 c2 : Nat) (z2 : List Int) (hz2 : z2.length = n2) (x : Int) (ex : Bool) (A5 : Option Addr) (nl c5 : Nat) (z5 : List Int) (hz5 : z5.length = nl + 1) (y : Int) (w : World)
    (s2 : Sl w (fun k => k < w.heap.size) 1 (.slice A2 n2 c2) n2 (z2.map (.int .i64))) (s5 : Sl w (fun k => k < w.heap.size) 1 (.slice A5 (nl + 1) c5) (nl + 1) (z5.map (.int .i64)))
    (hS : Sents L7 P w) (h2 : n2 ≤ 80) (h5 : nl ≤ 9) :
    Calls Tryd.prog 22 #[.int .i64 a0, .int .i64 a1, .slice A2 n2 c2, .int .i64 x, .bool ex, .slice A5 (nl + 1) c5, .int .i64 y] w fun e w' => e = .returned (.bool true) ∧ Frm (fun _ => False) w w' := by
  have t0 : decide ((80 : Int) < (n2 : Int)) = false := by simp; omega
  have t1 : decide ((10 : Int) < (nl : Int) + 1) = false := by simp; omega
  have t2 : ((nl : Int) + 1 == 0) = false := by simp; omega
  obtain ⟨ou, hou, hou6⟩ := modN a0
  obtain ⟨inn, hinn, hinn6⟩ := modN a1
  have HN0 := Lib.hid (fun (W : World) => number_any a0 7 W (by omega) (by omega))
  have HN1 := Lib.hid (fun (W : World) => number_any a1 7 W (by omega) (by omega))
  simp only [hou] at HN0
  simp only [hinn] at HN1
  clear hou hinn
  have HF := Lib.hid (first24_any P w hS)
  have HMA := Lib.hid (fun (W : World) (hf : Frm (fun _ => False) w W) => match_any ou inn A2 n2 c2 z2 hz2 x ex _ W (s2.frm hf (fun _ _ => id)) (by omega) (by omega) (by omega))
  have HMO := Lib.hid (fun (W : World) (hf : Frm (fun _ => False) w W) => moves_any A5 (nl + 1) c5 _ z5 inn W hz5 (by omega) (by omega) (s5.frm hf (fun _ _ => id)))
  have HVA := Lib.hid (fun (W : World) => values_any y ou (by omega) W)
  have hml : ∀ r ∈ mkMoves z5 inn, r.length = inn := by intro r hr; obtain ⟨q, _, rfl⟩ := List.mem_map.1 hr; exact mkVals_length _ _
  have HVL := Lib.hid (mkVals_length y ou)
  have HML := Lib.hid hml
  clear hz2 hz5 s2 s5 hS hml
  generalize mkMoves z5 inn = cs at *
  generalize mkVals y ou = ua at *
  go_enter Tryd.func22, Tryd.ntmps22
  go_wp2_with fail
  refine HF.out.mono ?_
  rintro e w1 ⟨rfl, hf1⟩
  go_wp2_with fail
  refine (HN0.out _).mono ?_
  rintro e w' ⟨rfl, rfl⟩
  go_wp2_with fail
  refine (HN1.out _).mono ?_
  rintro e w' ⟨rfl, rfl⟩
  clear HF HN0 HN1
  go_wp2_with fail
  refine (HMA.out w1 hf1).mono ?_
  rintro e w2 ⟨M, v, rfl, -, rfl, rfl, hLl, hMok, ⟨n, A, c, B, d, hn, rfl, hA, hB⟩, hf2⟩
  have hfa := (Frm.refl (fun _ => False) w2).alloc (.cells #[.bool M.ex, .int .i64 M.ou, .int .i64 n, .slice A M.L.length c, .slice B 1 d] 104)
  have hb3 : Blk (w2.alloc (.cells #[.bool M.ex, .int .i64 M.ou, .int .i64 n, .slice A M.L.length c, .slice B 1 d] 104)) w2.heap.size 104 [.bool M.ex, .int .i64 M.ou, .int .i64 n, .slice A M.L.length c, .slice B 1 d] := Blk.new _ _ _
  have hA3 := (hA.mono (G := fun _ => True) (fun _ _ _ => trivial)).frm hfa (fun _ _ => id)
  have hB3 := (hB.mono (G := fun _ => True) (fun _ _ _ => trivial)).frm hfa (fun _ _ => id)
  have HNN := Lib.hid hn
  have hn20 : n ≤ 20 := by omega
  have hf3 := (hf1.trans hf2).trans hfa
  simp only [mtv]
  clear HMA hA hB hf1 hf2 hfa hn
  obtain ⟨w3, hw3⟩ : ∃ w3, w3 = w2.alloc (.cells #[.bool M.ex, .int .i64 M.ou, .int .i64 n, .slice A M.L.length c, .slice B 1 d] 104) := ⟨_, rfl⟩
  rw [← hw3] at hb3 hA3 hB3 hf3
  go_upto_region 9 with (fail)
  rw [← hw3]
  clear hw3
  generalize w2.heap.size = mb at *
  go_wp2_with fail
  refine (HMO.out _ hf3).mono ?_
  rintro e w4 ⟨v, rfl, hRO, hf4⟩
  obtain ⟨Av, cv', rfl, hcv, _⟩ := hRO.form
  have hR4 := hRO.rw.mono (G := fun _ => True) (fun _ _ _ => trivial)
  have hkl := hR4.1
  have hf04 := hf3.trans hf4
  have hb4 := hb3.frm hf4 id
  have hA4 := hA3.frm hf4 (fun _ _ => id)
  have hB4 := hB3.frm hf4 (fun _ _ => id)
  clear HMO hb3 hA3 hB3 hf3 hf4 hRO
  have q0 := hb4.at_ 0 rfl
  have q1 := hb4.at_ 1 rfl
  have q2 := hb4.at_ 2 rfl
  have q3 := hb4.at_ 3 rfl
  have q4 := hb4.at_ 4 rfl
  have hs1 : (nl + 1) * M.L.length ≤ 10 * 40 := Nat.mul_le_mul (by omega) (by omega)
  have hs2 : M.inn * (3 * (nl + 1)) ≤ 6 * 30 := Nat.mul_le_mul (by omega) (by omega)
  have HF1 := Lib.hid (lfun_ok hMok n HNN.out A c B d _ _ Av (nl + 1) cv' cs w4 (by omega) (by omega) (by omega) (by omega) hA4 hB4 HML.out hR4 (by omega))
  have hfn := fn_ok (M := M) (mvs := cs) (by omega) (by rw [hkl]; omega)
  have htw := fn_first hMok (by omega) HML.out hfn HVL.out
  have hfm := hfn.many
  have hfl := hfn.lits
  have hfr2 := hfn.made
  have hhi := hfn.high
  rw [hfn.num] at hfr2
  have hln : (M.fn cs).2.len = M.ou + (M.fn cs).2.ands.length := by unfold Gr.len; rw [hfn.num]
  have hnd : (M.fn cs).2.nod ua = nodes M.ou (M.fn cs).2.ands ua := by unfold Gr.nod; rw [hfn.num]
  rw [hln] at hfl hhi
  rw [hnd] at htw
  have hhi2 : M.ou + (M.fn cs).2.ands.length ≤ 600 := by rw [hkl] at hhi; omega
  rw [hkl] at htw
  clear hfn hln hnd hhi hs1 hs2
  generalize (M.fn cs).2.ands = L2 at *
  generalize (M.fn cs).1 = o2 at *
  have HTW := Lib.hid htw
  have HFM := Lib.hid hfm
  have HFL := Lib.hid hfl
  have HFR := Lib.hid hfr2
  have HKL := Lib.hid hkl
  clear htw hfm hfl hfr2 hkl
  go_wp2_with fail
  refine HF1.out.mono ?_
  rintro e w7 ⟨v, rfl, ⟨Ab, eb, Bb, db, rfl, hAb, hBb⟩, hf7⟩
  rw [HFM.out] at hBb ⊢
  simp only [cv]
  clear HF1
  obtain ⟨kb, hkb⟩ : ∃ kb, kb = L2.length := ⟨_, rfl⟩
  rw [← hkb] at hAb ⊢
  have HKB := Lib.hid hkb
  clear hkb
  have hfc := (Frm.refl (fun _ => False) w7).alloc (.cells #[.int .i64 (M.ou : Int), .slice Ab kb eb, .slice Bb M.inn db] 40)
  have hbb : Blk (w7.alloc (.cells #[.int .i64 (M.ou : Int), .slice Ab kb eb, .slice Bb M.inn db] 40)) w7.heap.size 40 [.int .i64 (M.ou : Int), .slice Ab kb eb, .slice Bb M.inn db] := Blk.new _ _ _
  have hAb8 := (hAb.mono (G := fun _ => True) (fun _ _ _ => trivial)).frm hfc (fun _ _ => id)
  have hBb8 := (hBb.mono (G := fun _ => True) (fun _ _ _ => trivial)).frm hfc (fun _ _ => id)
  have hf48 := hf7.trans hfc
  have hf08 := hf04.trans hf48
  have hb8 := hb4.frm hf48 id
  have hA8 := hA4.frm hf48 (fun _ _ => id)
  have hB8 := hB4.frm hf48 (fun _ _ => id)
  have hR8 := hR4.frm hf48 (fun _ _ => id)
  obtain ⟨w8, hw8⟩ : ∃ w8, w8 = w7.alloc (.cells #[.int .i64 (M.ou : Int), .slice Ab kb eb, .slice Bb M.inn db] 40) := ⟨_, rfl⟩
  rw [← hw8] at hbb hAb8 hBb8 hb8 hA8 hB8 hR8 hf08
  clear hf48 hfc hAb hBb hb4 hA4 hB4 hR4 hf04 q0 q1 q2 q3 q4 hf7
  go_upto_region 11 with (fail)
  rw [← hw8]
  clear hw8
  generalize w7.heap.size = cb at *
  go_wp2_with fail
  refine (HVA.out w8).mono ?_
  rintro e w9 ⟨Aa, ca, rfl, hown9, hf9⟩
  have hu9 := (own_sl hown9).mono (G := fun _ => True) (fun _ _ _ => trivial)
  have hbb9 := hbb.frm hf9 id
  have hAb9 := hAb8.frm hf9 (fun _ _ => id)
  have hBb9 := hBb8.frm hf9 (fun _ _ => id)
  have hb9 := hb8.frm hf9 id
  have hA9 := hA8.frm hf9 (fun _ _ => id)
  have hB9 := hB8.frm hf9 (fun _ _ => id)
  have hR9 := hR8.frm hf9 (fun _ _ => id)
  have hf09 := hf08.trans hf9
  clear hown9 hf9 hbb hAb8 hBb8 hb8 hA8 hB8 hR8 hf08 HVA
  have HRC := Lib.hid (rcheck_any M.ou Ab kb eb Bb M.inn db L2 o2 _ _ w9 HKB.out.symm HFM.out (by have := HKB.out; omega) (by omega) hAb9 hBb9)
  have hck : ckCode M.ou L2 o2 = 0 := ckCode_right HFR.out.right (by have := HKB.out; omega) HFL.out
  rw [hck] at HRC
  simp only [cv] at HRC
  have c0 := hbb9.at_ 0 rfl
  have c1 := hbb9.at_ 1 rfl
  have c2' := hbb9.at_ 2 rfl
  clear hck
  go_wp2_with fail
  refine HRC.out.mono ?_
  rintro e w10 ⟨rfl, hf10⟩
  have hb10 := hb9.frm hf10 id
  have q0 := hb10.at_ 0 rfl
  have q1 := hb10.at_ 1 rfl
  have q2 := hb10.at_ 2 rfl
  have q3 := hb10.at_ 3 rfl
  have q4 := hb10.at_ 4 rfl
  have HCH := Lib.hid (choose_any hMok n HNN.out A c B d _ _ _ Aa M.ou ca ua Av (nl + 1) cv' cs w10 (by omega) (by omega) (by omega) (hA9.frm hf10 (fun _ _ => id)) (hB9.frm hf10 (fun _ _ => id)) HVL.out rfl HML.out (hu9.frm hf10 (fun _ _ => id)) (hR9.frm hf10 (fun _ _ => id)))
  clear c0 c1 c2' HRC
  go_wp2_with fail
  refine HCH.out.mono ?_
  rintro e w11 ⟨rfl, hf11⟩
  have hf911 := hf10.trans hf11
  have hb11 := hb9.frm hf911 id
  have hbb11 := hbb9.frm hf911 id
  have hR11 := hR9.frm hf911 (fun _ _ => id)
  have hf011 := hf09.trans hf911
  clear HCH q0 q1 q2 q3 q4 hb10 hf10 hf11 hb9 hbb9
  have HBE := Lib.hid (fun (W : World) (hf : Frm (fun _ => False) w9 W) (mv : List Bool) (hm : mv.length = M.inn) (B' : Option Addr) (d' : Nat) (F : Nat → Prop) (hs : Sl W F 1 (.slice B' M.inn d') M.inn (mv.map .bool)) =>
    beats_any hMok n HNN.out A c B d _ _ F Aa M.ou ca ua B' M.inn d' mv W (by omega) (by omega) (hA9.frm hf (fun _ _ => id)) (hB9.frm hf (fun _ _ => id)) HVL.out hm rfl rfl (hu9.frm hf (fun _ _ => id)) hs)
  have HRE := Lib.hid (fun (W : World) (hf : Frm (fun _ => False) w9 W) =>
    reval_any M.ou L2 Ab kb eb Bb M.inn db o2 Aa M.ou ca ua _ _ _ W HKB.out.symm HFM.out HVL.out HFR.out.right (by omega) (by have := HKB.out; omega) (by omega) (fun q hq => by rw [HKB.out]; exact HFL.out q hq) (hAb9.frm hf (fun _ _ => id)) (hBb9.frm hf (fun _ _ => id)) (hu9.frm hf (fun _ _ => id)))
  have HMD := Lib.hid (fun (W : World) (hf : Frm (fun _ => False) w9 W) =>
    made_any M.ou Ab kb eb Bb M.inn db L2 o2 _ _ W HKB.out.symm HFM.out (by have := HKB.out; omega) (by omega) HFR.out (fun q hq => by rw [HKB.out]; exact HFL.out q hq) (hAb9.frm hf (fun _ _ => id)) (hBb9.frm hf (fun _ _ => id)))
  have hev : evalOuts (nodes M.ou L2 ua) o2 = o2.map (worth (nodes M.ou L2 ua)) := rfl
  simp only [hev] at HRE
  simp only [cv, mtv] at HRE HMD HBE
  have htw := HTW.out
  generalize o2.map (worth (nodes M.ou L2 ua)) = got at *
  have hlenA := fun j (hj : j < nl + 1) => HML.out (cs.getD j []) (by have := HKL.out; simp [List.getD, show j < cs.length by omega])
  have HLE := Lib.hid hlenA
  clear hev hA9 hB9 hu9 hAb9 hBb9 hR9 hlenA HTW
  have hws := hb11.at_ 0 rfl
  rcases htw with ⟨hk, rfl⟩ | ⟨k, hk1, hk, hw0, rfl⟩
  · rw [hk]
    obtain ⟨b, o, B', d', rfl, _, hc, hs⟩ := hR11.at_ (k := nl) (by omega)
    have hln := HLE.out nl (by omega)
    rw [hln] at hc hs
    simp only [Nat.add_sub_cancel] at *
    have e1 : ¬ (0 : Int) ≤ -1 := by omega
    have q0 : (0 : Int) ≤ nl := by omega
    have q1 : (nl : Int) < (nl : Int) + 1 := by omega
    have wk : IntKind.i64.wrap ((nl : Int) + 1 - 1) = (nl : Int) := by rw [IntWalk.i64_in _ (by omega)]; omega
    have c0 := hbb11.at_ 0 rfl
    have c1 := hbb11.at_ 1 rfl
    have c2' := hbb11.at_ 2 rfl
    have HSB := Lib.hid (fun (W : World) (hf : Frm (fun _ => False) w11 W) (Ai : Option Addr) (ci : Nat) (G : Nat → Prop) (hi : Sl W G 1 (.slice Ai M.inn ci) M.inn ((cs.getD nl []).map .bool)) =>
      sameB_eq Ai B' M.inn ci d' G _ (cs.getD nl []) W hln (by omega) hi (hs.frm hf (fun _ _ => id)))
    clear hs hln
    generalize cs.getD nl [] = mv at *
    go_wp2_with fail
    refine (HRE.out w11 hf911).mono ?_
    rintro e w12 ⟨Ag, cg, rfl, hown12, hf12⟩
    have hf912 := hf911.trans hf12
    have hb12 := hb11.frm hf12 id
    have hbb12 := hbb11.frm hf12 id
    have HS1 := Lib.hid (HSB.out _ hf12 Ag cg _ (own_sl hown12))
    clear c0 c1 c2' hc HSB hws hown12
    have q0 := hb12.at_ 0 rfl
    have q1 := hb12.at_ 1 rfl
    have q2 := hb12.at_ 2 rfl
    have q3 := hb12.at_ 3 rfl
    have q4 := hb12.at_ 4 rfl
    have c0 := hbb12.at_ 0 rfl
    have c1 := hbb12.at_ 1 rfl
    have c2' := hbb12.at_ 2 rfl
    go_wp2_with fail
    refine HS1.out.mono ?_
    rintro e w' ⟨rfl, n15, rfl⟩
    have hd13 := (Frm.refl (fun _ => False) w12).drewN n15
    have hbb13 := hbb12.frm hd13 id
    clear q0 q1 q2 q3 q4 c0 c1 c2'
    have c0 := hbb13.at_ 0 rfl
    have c1 := hbb13.at_ 1 rfl
    have c2' := hbb13.at_ 2 rfl
    go_wp2_with fail
    refine (HMD.out _ (hf912.trans hd13)).mono ?_
    rintro e w14 ⟨rfl, hf14⟩
    go_wp2_with fail
    go_ret
    exact ⟨rfl, ((hf011.trans hf12).trans hd13).trans hf14⟩
  · rw [hk]
    have hk1' : k < nl + 1 := by have := HKL.out; omega
    obtain ⟨b, o, B', d', rfl, _, hc, hs⟩ := hR11.at_ hk1'
    obtain ⟨b2, o2', B2, d2, e0, _, hcl, _⟩ := hR11.at_ (k := nl) (by omega)
    cases e0
    have hln := HLE.out k hk1'
    rw [hln] at hc hs
    have hll : (cs.getD nl []).length = M.inn := HLE.out nl (by omega)
    rw [hll] at hcl
    have e1 : (0 : Int) ≤ k := by omega
    have e2 : (k : Int) < (nl : Int) + 1 := by omega
    have e3 : ¬ (nl : Int) + 1 ≤ (k : Int) := by omega
    have e4 : ¬ (k : Int) < 0 := by omega
    have e5 : ¬ ((nl + 1 : Nat) : Int) ≤ (k : Int) := by omega
    have e6 : (k : Int) < ((nl + 1 : Nat) : Int) := by omega
    have e7 : decide ((nl : Int) + 1 ≤ (k : Int)) = false := by simp; omega
    have e8 : decide (((nl + 1 : Nat) : Int) ≤ (k : Int)) = false := by simp; omega
    have e9 : decide ((nl : Int) < (k : Int)) = false := by simp; omega
    have q0 : (0 : Int) ≤ nl := by omega
    have q1 : (nl : Int) < (nl : Int) + 1 := by omega
    have wk : IntKind.i64.wrap ((nl : Int) + 1 - 1) = (nl : Int) := by rw [IntWalk.i64_in _ (by omega)]; omega
    have HSB := Lib.hid (fun (W : World) (hf : Frm (fun _ => False) w11 W) (Ai : Option Addr) (ci : Nat) (G : Nat → Prop) (hi : Sl W G 1 (.slice Ai M.inn ci) M.inn ((cs.getD k []).map .bool)) =>
      sameB_eq Ai B' M.inn ci d' G _ (cs.getD k []) W hln (by omega) hi (hs.frm hf (fun _ _ => id)))
    have HB1 := Lib.hid (fun (W : World) (hf : Frm (fun _ => False) w9 W) => HBE.out W hf (cs.getD k []) hln)
    simp only [hw0, Bool.not_false] at HB1
    have hdd := (Frm.refl (fun _ => False) w11).drewN 1
    have HB2 := Lib.hid (HB1.out _ (hf911.trans hdd) B' d' _ (hs.frm hdd (fun _ _ => id)))
    clear hs hln hll hw0 HBE hk1'
    generalize cs.getD k [] = mv at *
    have hH0 : w11.drew.cell? ⟨mb, 0, none⟩ = some (.bool M.ex) ∧ w11.drew.cell? ⟨mb, 1, none⟩ = some (.int .i64 (M.ou : Int)) ∧ w11.drew.cell? ⟨mb, 2, none⟩ = some (.int .i64 (n : Int)) ∧ w11.drew.cell? ⟨mb, 3, none⟩ = some (.slice A M.L.length c) ∧ w11.drew.cell? ⟨mb, 4, none⟩ = some (.slice B 1 d) ∧ w11.drew.cell? ⟨b, o + k, none⟩ = some (.slice B' M.inn d') := ⟨hb11.at_ 0 rfl, hb11.at_ 1 rfl, hb11.at_ 2 rfl, hb11.at_ 3 rfl, hb11.at_ 4 rfl, hc⟩
    have HH0 := Lib.hid (fun (W W' : World) (hf : Frm (fun _ => False) W W') (h : W.cell? ⟨mb, 0, none⟩ = some (.bool M.ex) ∧ W.cell? ⟨mb, 1, none⟩ = some (.int .i64 (M.ou : Int)) ∧ W.cell? ⟨mb, 2, none⟩ = some (.int .i64 (n : Int)) ∧ W.cell? ⟨mb, 3, none⟩ = some (.slice A M.L.length c) ∧ W.cell? ⟨mb, 4, none⟩ = some (.slice B 1 d) ∧ W.cell? ⟨b, o + k, none⟩ = some (.slice B' M.inn d')) => show W'.cell? ⟨mb, 0, none⟩ = some (.bool M.ex) ∧ W'.cell? ⟨mb, 1, none⟩ = some (.int .i64 (M.ou : Int)) ∧ W'.cell? ⟨mb, 2, none⟩ = some (.int .i64 (n : Int)) ∧ W'.cell? ⟨mb, 3, none⟩ = some (.slice A M.L.length c) ∧ W'.cell? ⟨mb, 4, none⟩ = some (.slice B 1 d) ∧ W'.cell? ⟨b, o + k, none⟩ = some (.slice B' M.inn d') from ⟨hf.cell h.1 id, hf.cell h.2.1 id, hf.cell h.2.2.1 id, hf.cell h.2.2.2.1 id, hf.cell h.2.2.2.2.1 id, hf.cell h.2.2.2.2.2 id⟩)
    clear hc
    go_wp2_with fail
    have hHeld := hH0
    refine Held.begin (fun w' => w'.cell? ⟨mb, 0, none⟩ = some (.bool M.ex) ∧ w'.cell? ⟨mb, 1, none⟩ = some (.int .i64 (M.ou : Int)) ∧ w'.cell? ⟨mb, 2, none⟩ = some (.int .i64 (n : Int)) ∧ w'.cell? ⟨mb, 3, none⟩ = some (.slice A M.L.length c) ∧ w'.cell? ⟨mb, 4, none⟩ = some (.slice B 1 d) ∧ w'.cell? ⟨b, o + k, none⟩ = some (.slice B' M.inn d')) 14 (by kernel_rfl) ?_
    refine Held.take (i := 0) (oi := ?oa0) (v := ?va0) ?hia0 (by kernel_rfl) (by kernel_rfl) (by kernel_rfl) (by kernel_rfl) (fun _ _ _ h => h) (Or.inl ⟨?hwa0, ?hya0⟩) (by assumption) ?resta0
    case hia0 => (simp only [List.getElem?_toArray, List.getElem?_cons_zero]; rfl)
    case hwa0 => rfl
    case hya0 => (intro w hSw; (try dsimp only at hSw); go_simp; try with_reducible rfl)
    (try simp only [Act.put, List.setIfInBounds_toArray, List.set_cons_zero, List.set_cons_succ])
    refine Held.take (i := 1) (oi := ?oa1) (v := ?va1) ?hia1 (by kernel_rfl) (by kernel_rfl) (by kernel_rfl) (by kernel_rfl) (fun _ _ _ h => h) (Or.inl ⟨?hwa1, ?hya1⟩) (by assumption) ?resta1
    case hia1 => (simp only [List.getElem?_toArray, List.getElem?_cons_succ, List.getElem?_cons_zero]; rfl)
    case hwa1 => rfl
    case hya1 => (intro w hSw; (try dsimp only at hSw); go_simp; try with_reducible rfl)
    (try simp only [Act.put, List.setIfInBounds_toArray, List.set_cons_zero, List.set_cons_succ])
    refine Held.take (i := 2) (oi := ?oa2) (v := ?va2) ?hia2 (by kernel_rfl) (by kernel_rfl) (by kernel_rfl) (by kernel_rfl) (fun _ _ _ h => h) (Or.inl ⟨?hwa2, ?hya2⟩) (by assumption) ?resta2
    case hia2 => (simp only [List.getElem?_toArray, List.getElem?_cons_succ, List.getElem?_cons_zero]; rfl)
    case hwa2 => rfl
    case hya2 => (intro w hSw; (try dsimp only at hSw); go_simp; try with_reducible rfl)
    (try simp only [Act.put, List.setIfInBounds_toArray, List.set_cons_zero, List.set_cons_succ])
    refine Held.take (i := 3) (oi := ?oa3) (v := ?va3) ?hia3 (by kernel_rfl) (by kernel_rfl) (by kernel_rfl) (by kernel_rfl) (fun _ _ _ h => h) (Or.inl ⟨?hwa3, ?hya3⟩) (by assumption) ?resta3
    case hia3 => (simp only [List.getElem?_toArray, List.getElem?_cons_succ, List.getElem?_cons_zero]; rfl)
    case hwa3 => rfl
    case hya3 => (intro w hSw; (try dsimp only at hSw); go_simp; try with_reducible rfl)
    (try simp only [Act.put, List.setIfInBounds_toArray, List.set_cons_zero, List.set_cons_succ])
    refine Held.take (i := 4) (oi := ?oa4) (v := ?va4) ?hia4 (by kernel_rfl) (by kernel_rfl) (by kernel_rfl) (by kernel_rfl) (fun _ _ _ h => h) (Or.inl ⟨?hwa4, ?hya4⟩) (by assumption) ?resta4
    case hia4 => (simp only [List.getElem?_toArray, List.getElem?_cons_succ, List.getElem?_cons_zero]; rfl)
    case hwa4 => rfl
    case hya4 => (intro w hSw; (try dsimp only at hSw); go_simp; try with_reducible rfl)
    (try simp only [Act.put, List.setIfInBounds_toArray, List.set_cons_zero, List.set_cons_succ])
    refine Held.take (i := 5) (oi := ?oa5) (v := ?va5) ?hia5 (by kernel_rfl) (by kernel_rfl) (by kernel_rfl) (by kernel_rfl) (fun _ _ _ h => h) (Or.inl ⟨?hwa5, ?hya5⟩) (by assumption) ?resta5
    case hia5 => (simp only [List.getElem?_toArray, List.getElem?_cons_succ, List.getElem?_cons_zero]; rfl)
    case hwa5 => rfl
    case hya5 => (intro w hSw; (try dsimp only at hSw); go_simp; try with_reducible rfl)
    (try simp only [Act.put, List.setIfInBounds_toArray, List.set_cons_zero, List.set_cons_succ])
    refine Held.take (i := 6) (oi := ?oa6) (v := ?va6) ?hia6 (by kernel_rfl) (by kernel_rfl) (by kernel_rfl) (by kernel_rfl) (fun _ _ _ h => h) (Or.inl ⟨?hwa6, ?hya6⟩) (by assumption) ?resta6
    case hia6 => (simp only [List.getElem?_toArray, List.getElem?_cons_succ, List.getElem?_cons_zero]; rfl)
    case hwa6 => rfl
    case hya6 => (intro w hSw; (try dsimp only at hSw); go_simp; try with_reducible rfl)
    (try simp only [Act.put, List.setIfInBounds_toArray, List.set_cons_zero, List.set_cons_succ])
    refine Held.take (i := 7) (oi := ?oa7) (v := ?va7) ?hia7 (by kernel_rfl) (by kernel_rfl) (by kernel_rfl) (by kernel_rfl) (fun _ _ _ h => h) (Or.inl ⟨?hwa7, ?hya7⟩) (by assumption) ?resta7
    case hia7 => (simp only [List.getElem?_toArray, List.getElem?_cons_succ, List.getElem?_cons_zero]; rfl)
    case hwa7 => rfl
    case hya7 => (intro w hSw; (try dsimp only at hSw); go_simp; try with_reducible rfl)
    (try simp only [Act.put, List.setIfInBounds_toArray, List.set_cons_zero, List.set_cons_succ])
    refine Held.take (i := 8) (oi := ?oa8) (v := ?va8) ?hia8 (by kernel_rfl) (by kernel_rfl) (by kernel_rfl) (by kernel_rfl) (fun _ _ _ h => h) (Or.inl ⟨?hwa8, ?hya8⟩) (by assumption) ?resta8
    case hia8 => (simp only [List.getElem?_toArray, List.getElem?_cons_succ, List.getElem?_cons_zero]; rfl)
    case hwa8 => rfl
    case hya8 => (intro w hSw; (try dsimp only at hSw); go_simp; try with_reducible rfl)
    (try simp only [Act.put, List.setIfInBounds_toArray, List.set_cons_zero, List.set_cons_succ])
    refine Held.take (i := 9) (oi := ?oa9) (v := ?va9) ?hia9 (by kernel_rfl) (by kernel_rfl) (by kernel_rfl) (by kernel_rfl) (fun _ _ _ h => h) (Or.inl ⟨?hwa9, ?hya9⟩) (by assumption) ?resta9
    case hia9 => (simp only [List.getElem?_toArray, List.getElem?_cons_succ, List.getElem?_cons_zero]; rfl)
    case hwa9 => rfl
    case hya9 => (intro w hSw; (try dsimp only at hSw); go_simp; try with_reducible rfl)
    (try simp only [Act.put, List.setIfInBounds_toArray, List.set_cons_zero, List.set_cons_succ])
    refine Held.take (i := 10) (oi := ?oa10) (v := ?va10) ?hia10 (by kernel_rfl) (by kernel_rfl) (by kernel_rfl) (by kernel_rfl) (fun _ _ _ h => h) (Or.inl ⟨?hwa10, ?hya10⟩) (by assumption) ?resta10
    case hia10 => (simp only [List.getElem?_toArray, List.getElem?_cons_succ, List.getElem?_cons_zero]; rfl)
    case hwa10 => rfl
    case hya10 => (intro w hSw; (try dsimp only at hSw); go_simp; try with_reducible rfl)
    (try simp only [Act.put, List.setIfInBounds_toArray, List.set_cons_zero, List.set_cons_succ])
    refine Held.next (i := 11) (o := ?oa11) (by kernel_rfl) ?hia11 (fun K hK => ?sta11)
    case hia11 => (simp only [List.getElem?_toArray, List.getElem?_cons_succ, List.getElem?_cons_zero]; rfl)
    go_simp
    (go_at_call 97; refine HB2.out.mono ?_; rintro e w12 ⟨rfl, hf12⟩)
    (try go_wp2_with fail)
    refine hK.out _ _ (fun _ => by exact HH0.out _ _ hf12 hHeld) ?_
    clear hK K
    (try simp only [Act.put, List.setIfInBounds_toArray, List.set_cons_zero, List.set_cons_succ])
    have hH1 := HH0.out _ _ hf12 hHeld
    refine Held.take (i := 12) (oi := ?oa12) (v := ?va12) ?hia12 (by kernel_rfl) (by kernel_rfl) (by kernel_rfl) (by kernel_rfl) (fun _ _ _ h => h) (Or.inl ⟨?hwa12, ?hya12⟩) (by assumption) ?resta12
    case hia12 => (simp only [List.getElem?_toArray, List.getElem?_cons_succ, List.getElem?_cons_zero]; rfl)
    case hwa12 => rfl
    case hya12 => (intro w hSw; (try dsimp only at hSw); go_simp; try with_reducible rfl)
    (try simp only [Act.put, List.setIfInBounds_toArray, List.set_cons_zero, List.set_cons_succ])
    refine Held.take (i := 13) (oi := ?oa13) (v := ?va13) ?hia13 (by kernel_rfl) (by kernel_rfl) (by kernel_rfl) (by kernel_rfl) (fun _ _ _ h => h) (Or.inl ⟨?hwa13, ?hya13⟩) (by assumption) ?resta13
    case hia13 => (simp only [List.getElem?_toArray, List.getElem?_cons_succ, List.getElem?_cons_zero]; rfl)
    case hwa13 => rfl
    case hya13 => (intro w hSw; (try dsimp only at hSw); go_simp; try with_reducible rfl)
    (try simp only [Act.put, List.setIfInBounds_toArray, List.set_cons_zero, List.set_cons_succ])
    refine Held.done (by kernel_rfl) ?_ _
    refine NoPanic.normal ?_
    have hd12 := hdd.trans hf12
    have hbb12 := hbb11.frm hd12 id
    have hb12 := hb11.frm hd12 id
    have hc := hH1.2.2.2.2.2
    have c0 := hbb12.at_ 0 rfl
    have c1 := hbb12.at_ 1 rfl
    have c2' := hbb12.at_ 2 rfl
    clear hH0 hH1 hHeld HH0 HB2 hf12 hcl
    go_wp2_with fail
    refine (HRE.out w12 (hf911.trans hd12)).mono ?_
    rintro e w13 ⟨Ag, cg, rfl, hown13, hf13⟩
    have hd13 := hd12.trans hf13
    have hb13 := hb12.frm hf13 id
    have hbb13 := hbb12.frm hf13 id
    have hsg := own_sl hown13
    have HS1 := Lib.hid (HSB.out _ hd13 Ag cg _ hsg)
    have HB3 := Lib.hid (fun (m : Nat) => HB1.out _ ((hf911.trans hd13).trans ((Frm.refl (fun _ => False) w13).drewN m)) Ag cg _ (hsg.frm ((Frm.refl (fun _ => False) w13).drewN m) (fun _ _ => id)))
    clear c0 c1 c2' hc HSB hws hown13 hsg
    go_wp2_with fail
    refine HS1.out.mono ?_
    rintro e w' ⟨rfl, n15, rfl⟩
    have hd14 := (Frm.refl (fun _ => False) w13).drewN n15
    have hb14 := hb13.frm hd14 id
    have hbb14 := hbb13.frm hd14 id
    have q0' := hb14.at_ 0 rfl
    have q1' := hb14.at_ 1 rfl
    have q2 := hb14.at_ 2 rfl
    have q3 := hb14.at_ 3 rfl
    have q4 := hb14.at_ 4 rfl
    go_wp2_with fail
    refine (HB3.out n15).mono ?_
    rintro e w14 ⟨rfl, hf14⟩
    have hd15 := hd14.trans hf14
    have hbb15 := hbb13.frm hd15 id
    clear q0' q1' q2 q3 q4 hb14 hbb14
    have c0 := hbb15.at_ 0 rfl
    have c1 := hbb15.at_ 1 rfl
    have c2' := hbb15.at_ 2 rfl
    go_wp2_with fail
    refine (HMD.out _ ((hf911.trans hd13).trans hd15)).mono ?_
    rintro e w15 ⟨rfl, hf15⟩
    go_wp2_with fail
    go_ret
    exact ⟨rfl, ((hf011.trans hd13).trans hd15).trans hf15⟩

set_option maxRecDepth 100000 in
set_option maxHeartbeats 2000000 in
/-- the guards' own ways out -/
theorem lisw_out (P : Nat → Addr) (a0 a1 : Int) (A2 : Option Addr) (n2 c2 : Nat) (x : Int) (ex : Bool) (A5 : Option Addr) (n5 c5 : Nat) (y : Int) (w : World) (hS : Sents L7 P w)
    (h : ¬ (n2 ≤ 80 ∧ n5 ≤ 10 ∧ n5 ≠ 0)) :
    Calls Tryd.prog 22 #[.int .i64 a0, .int .i64 a1, .slice A2 n2 c2, .int .i64 x, .bool ex, .slice A5 n5 c5, .int .i64 y] w fun e w' => e = .returned (.bool true) ∧ Frm (fun _ => False) w w' := by
  have HF := Lib.hid (first24_any P w hS)
  have HN := Lib.hid h
  clear h hS
  by_cases g0 : (80 : Int) < n2
  · skip
    go_enter Tryd.func22, Tryd.ntmps22
    go_wp2_with fail
    refine HF.out.mono ?_
    rintro e w1 ⟨rfl, hf1⟩
    go_wp2_with fail
    go_ret
    exact ⟨rfl, hf1⟩
  · skip
    by_cases g1 : (10 : Int) < n5
    · skip
      go_enter Tryd.func22, Tryd.ntmps22
      go_wp2_with fail
      refine HF.out.mono ?_
      rintro e w1 ⟨rfl, hf1⟩
      go_wp2_with fail
      go_ret
      exact ⟨rfl, hf1⟩
    · skip
      have g2 : (n5 : Int) = 0 := by have := HN.out; omega
      go_enter Tryd.func22, Tryd.ntmps22
      go_wp2_with fail
      refine HF.out.mono ?_
      rintro e w1 ⟨rfl, hf1⟩
      go_wp2_with fail
      go_ret
      exact ⟨rfl, hf1⟩

theorem lisw_law (a0 : Int) (_ : (Lit.int .i64 a0).wf = true) (a1 : Int) (_ : (Lit.int .i64 a1).wf = true)
    (A2 : Option Addr) (n2 c2 : Nat) (z2 : List Int) (hz2 : z2.length = n2) {w0 : World} (s2 : Sl w0 (fun k => k < w0.heap.size) 1 (.slice A2 n2 c2) n2 (z2.map (.int .i64))) (_ : ∀ n ∈ z2, (Lit.int .i64 n).wf = true)
    (x : Int) (_ : (Lit.int .i64 x).wf = true) (ex : Bool)
    (A5 : Option Addr) (n5 c5 : Nat) (z5 : List Int) (hz5 : z5.length = n5) (s5 : Sl w0 (fun k => k < w0.heap.size) 1 (.slice A5 n5 c5) n5 (z5.map (.int .i64))) (_ : ∀ n ∈ z5, (Lit.int .i64 n).wf = true)
    (y : Int) (_ : (Lit.int .i64 y).wf = true)
    (w : World) (e : w = w0) (hL : laidMetH Tryd.prog Rows.graphPlaysRow.laid w) :
    Calls Tryd.prog 22 #[.int .i64 a0, .int .i64 a1, .slice A2 n2 c2, .int .i64 x, .bool ex, .slice A5 n5 c5, .int .i64 y] w fun e w' => e = .returned (.bool true) ∧ Frm (fun _ => False) w w' := by
  subst e
  by_cases h : n2 ≤ 80 ∧ n5 ≤ 10 ∧ n5 ≠ 0
  · obtain ⟨nl, rfl⟩ : ∃ nl, n5 = nl + 1 := ⟨n5 - 1, by omega⟩
    exact lisw_any _ a0 a1 A2 n2 c2 z2 hz2 x ex A5 nl c5 z5 hz5 y w s2 s5 (sents7 hL) h.1 (by omega)
  · exact lisw_out _ a0 a1 A2 n2 c2 x ex A5 n5 c5 y w (sents7 hL) h

end Go.Proofs.YtkjlgamggkencaaDoor
