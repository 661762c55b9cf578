/-
  The contracts of the reference's reach, Cone, Support.
-/
import Derived.Test.YtkjlgamggkencaaDoorMCone
namespace Go.Proofs.YtkjlgamggkencaaDoor
open Go.RowKit

set_option maxRecDepth 100000 in
set_option maxHeartbeats 4000000 in
theorem rreach_any (n : Nat) (L : List (Int × Int)) (A : Option Addr) (m c : Nat) (B : Option Addr) (k d : Nat) (x : Int) (F : Nat → Prop) (w : World) (hm : L.length = m) (hr : Right n L)
    (hn : n ≤ 2000) (hm4 : m ≤ 2000) (hx : isL x (n + m) = true) (hs : Sl w F 2 (.slice A m c) m (pairs L)) :
    Calls Tryd.prog 128 #[cv n A m c B k d, .int .i64 x] w fun e w' => ∃ g, e = .returned (.slice (some ⟨g, 0, none⟩) (n + 1 + m) (n + 1 + m)) ∧ w'.ownsRow w.heap.size 4 1 (.slice (some ⟨g, 0, none⟩) (n + 1 + m) (n + 1 + m)) (n + 1 + m) ((marksL n L x).map .bool) ∧ Frm (fun _ => False) w w' := by
  obtain ⟨i0, hi0, hz0, hz1, hz2⟩ := info_parts infoBoolG
  have hf0 := (Frm.refl (fun _ => False) w).alloc (.cells #[.int .i64 n, .slice A m c, .slice B k d] 40)
  have hb0 : Blk (w.alloc (.cells #[.int .i64 n, .slice A m c, .slice B k d] 40)) w.heap.size 40 [.int .i64 n, .slice A m c, .slice B k d] := Blk.new _ _ _
  have hx2 := isL_iff.1 hx
  have b00 := hb0.at_ 0 rfl
  have b01 := hb0.at_ 1 rfl
  have HM := Lib.hid hm
  have HR := Lib.hid hr
  obtain ⟨q, hq⟩ : ∃ q : Nat, x / 2 = (q : Int) := ⟨(x / 2).toNat, by omega⟩
  have hql : q < n + 1 + m := by omega
  have hqn : (x / 2).toNat = q := by omega
  have hmk : mdown n L ((List.replicate (n + 1 + m) false).set q true) m = marksL n L x := by unfold marksL; rw [hqn, hm]
  have HMK := Lib.hid hmk
  clear hm hr hx hmk hqn
  have wa : IntKind.i64.wrap ((n : Int) + m) = (n : Int) + m := IntWalk.i64_in _ (by omega)
  have wb : IntKind.i64.wrap ((n : Int) + m + 1) = (n : Int) + m + 1 := IntWalk.i64_in _ (by omega)
  have wc : IntKind.i64.wrap ((m : Int) - 1) = (m : Int) - 1 := IntWalk.i64_in _ (by omega)
  have c0 : decide (x < 0) = false := by simp; omega
  have c1 : decide ((n : Int) + m < (q : Int)) = false := by simp; omega
  go_enter Tryd.func128, Tryd.ntmps128
  go_wp2_with (refine wpList_make_z _ rfl _ _ 54 rfl 4 i0 (.bool false) Tryd.underlying54 hi0 hz0 hz1 rfl .i64 .i64 (n + 1 + m) (n + 1 + m) ?ca ?cb (by omega) (by rw [hz2]; omega) (by omega) ?_)
  case ca => go_simp; omega
  case cb => go_simp; omega
  intro w2 hb2 hf2
  have hown0 := own_of_blk (base := w.heap.size + 1) hb2 (n + 1 + m) (n + 1 + m) (by omega) (by simp) (by unfold maxLen; omega) (by have := hb0.lt; omega)
  have hrep : (List.replicate (n + 1 + m) (Value.bool false)).take (n + 1 + m) = (List.replicate (n + 1 + m) false).map .bool := by simp
  rw [hrep] at hown0
  clear hrep
  have hlen0 : (List.replicate (n + 1 + m) false).length = n + 1 + m := by simp
  have hcell := own_at hown0 (bools_at (l := List.replicate (n + 1 + m) false) (k := q) (by simpa using hql))
  have hfree := own_free hown0 q
  have hown1 := own_set hown0 (i := q) (.bool true)
  rw [← List.map_set] at hown1
  have hlt0 := hb0.lt
  clear b00 b01
  have hset : Frm (fun k => k = (w.heap.size + 1)) w2 (w2.setCell ⟨(w.heap.size + 1), q, none⟩ (.bool true)) := (Frm.refl (fun k => k = (w.heap.size + 1)) w2).setCell (p := ⟨(w.heap.size + 1), q, none⟩) (fun _ => rfl) _
  have hb2' := hb0.frm hf2 id
  have hb3 := hb2'.frm hset (by omega)
  have hs0 := hf0.size
  have hfw3 := (hf0.trans hf2).then' hset (fun g hg e => by omega)
  have hln1 : ((List.replicate (n + 1 + m) false).set q true).length = n + 1 + m := by simp
  have hq1 : (q : Int) < (n : Int) + 1 + m := by omega
  have hq0 : (0 : Int) ≤ q := by omega
  have b0 := hb2'.at_ 0 rfl
  have b1 := hb2'.at_ 1 rfl
  have b0' := hb3.at_ 0 rfl
  have b1' := hb3.at_ 1 rfl
  clear hown0 hb2 hf2 hset hlen0 hb0 hf0 hb2'
  generalize (List.replicate (n + 1 + m) false).set q true = v0 at *
  have HLN := Lib.hid hln1
  clear hln1
  generalize hRe : marksL n L x = R at *
  have HRE := Lib.hid hRe
  clear hRe
  go_wp2_with fail
  go_loopw [7] (fun iv wr => ∃ (j : Nat) (cur : List Bool), j ≤ m ∧ iv = .int .i64 ((j : Int) - 1) ∧ Blk wr w.heap.size 40 [.int .i64 n, .slice A m c, .slice B k d] ∧ wr.ownsRow (w.heap.size + 1) 4 1 (.slice (some ⟨w.heap.size + 1, 0, none⟩) (n + 1 + m) (n + 1 + m)) (n + 1 + m) (cur.map .bool) ∧ cur.length = n + 1 + m ∧ mdown n L cur j = R ∧ Frm (fun _ => False) w wr) (fun iv _ => (intOf iv + 1).toNat)
  case atStart => exact ⟨m, v0, by omega, rfl, hb3, hown1, HLN.out, HMK.out, hfw3⟩
  case round =>
    clear hb3 hown1 HLN HMK hfw3 hfree hcell b0 b1 b0' b1'
    obtain ⟨j, cur, hj, rfl, hb, hown, hln, hmk, hfk⟩ := hrel
    have HLN := Lib.hid hln
    have HMK := Lib.hid hmk
    clear hln hmk
    have b0 := hb.at_ 0 rfl
    have b1 := hb.at_ 1 rfl
    by_cases hlt : 0 < j
    · obtain ⟨i, rfl⟩ : ∃ i, j = i + 1 := ⟨j - 1, by omega⟩
      have hil : i < L.length := by rw [HM.out]; omega
      obtain ⟨b, o, rfl, _, q1, q2⟩ := sl_pair (hs.frm hfk (fun _ _ => id)) (k := i) (by omega)
      rw [← Nat.add_assoc] at q2
      have hbw : b < w.heap.size := by
        obtain ⟨b', o', e, _, q1', _⟩ := sl_pair hs (k := i) (by omega)
        cases e
        exact World.block_lt_of_cell? _ _ q1'
      have hrp := HR.out i (L.getD i (0, 0)) (by simp [List.getD, hil])
      have hst : mdown n L cur (i + 1) = mdown n L (mstep n L cur i) i := rfl
      have hms : mstep n L cur i = if cur.getD (n + 1 + i) false = true then (cur.set ((L.getD i (0, 0)).1 / 2).toNat true).set ((L.getD i (0, 0)).2 / 2).toNat true else cur := rfl
      rw [hms] at hst
      clear hms
      obtain ⟨p, hp⟩ : ∃ p, L.getD i (0, 0) = p := ⟨_, rfl⟩
      rw [hp] at q1 q2 hrp hst
      clear hp
      obtain ⟨y1, y2⟩ := p
      simp only at q1 q2 hrp hst
      have HST := Lib.hid (HMK.out.symm.trans hst)
      clear hst HMK
      have hat := own_at hown (bools_at (l := cur) (k := n + 1 + i) (by rw [HLN.out]; omega))
      obtain ⟨z, hz⟩ : ∃ z, z = cur.getD (n + 1 + i) false := ⟨_, rfl⟩
      rw [← hz] at hat HST
      clear hz
      have hiv : (((i + 1 : Nat) : Int) - 1) = (i : Int) := by omega
      rw [hiv]
      clear hiv
      have i0 : (0 : Int) ≤ i := by omega
      have i1 : (i : Int) < m := by omega
      have wa : IntKind.i64.wrap ((n : Int) + i) = (n : Int) + i := IntWalk.i64_in _ (by omega)
      have wb : IntKind.i64.wrap ((n : Int) + i + 1) = (n : Int) + i + 1 := IntWalk.i64_in _ (by omega)
      have wd : IntKind.i64.wrap ((i : Int) - 1) = (i : Int) - 1 := IntWalk.i64_in _ (by omega)
      have j1 : (0 : Int) ≤ (n : Int) + i + 1 := by omega
      have j2 : (n : Int) + i + 1 < (n : Int) + 1 + m := by omega
      have j3 : ((n : Int) + i + 1).toNat = n + 1 + i := by omega
      cases z
      · have hst := HST.out
        simp only [Bool.false_eq_true, if_false] at hst
        have HS2 := Lib.hid hst
        clear hst HST
        go_wp2_with fail
        go_roundw
        case rel => exact ⟨i, cur, by omega, rfl, hb, hown, HLN.out, HS2.out.symm, hfk⟩
        case measure => simp [intOf] <;> omega
      · have hst := HST.out
        simp only [if_true] at hst
        obtain ⟨a1, ha1⟩ : ∃ a1 : Nat, y1 / 2 = (a1 : Int) := ⟨(y1 / 2).toNat, by omega⟩
        obtain ⟨a2, ha2⟩ : ∃ a2 : Nat, y2 / 2 = (a2 : Int) := ⟨(y2 / 2).toNat, by omega⟩
        rw [ha1, ha2] at hst
        simp only [Int.toNat_natCast] at hst
        have l1 : a1 < n + 1 + m := by omega
        have l2 : a2 < n + 1 + m := by omega
        have HS2 := Lib.hid hst
        clear hst HST
        have hglt := (hown.lt _ rfl).2
        have hge := (hown.lt _ rfl).1
        have k1 : (a1 : Int) < (n : Int) + 1 + m := by omega
        have k2 : (a2 : Int) < (n : Int) + 1 + m := by omega
        have k3 : (0 : Int) ≤ a1 := by omega
        have k4 : (0 : Int) ≤ a2 := by omega
        have hc1 : wr.cell? ⟨w.heap.size + 1, a1, none⟩ = some (.bool (cur.getD a1 false)) := own_at hown (bools_at (l := cur) (k := a1) (by rw [HLN.out]; exact l1))
        have hz1 : wr.frozen? ⟨w.heap.size + 1, a1, none⟩ = false := own_free hown a1
        have hown5 := own_set hown (i := a1) (.bool true)
        rw [← List.map_set] at hown5
        have hln5 : (cur.set a1 true).length = n + 1 + m := by rw [List.length_set]; exact HLN.out
        have hc2 : (wr.setCell ⟨w.heap.size + 1, a1, none⟩ (.bool true)).cell? ⟨w.heap.size + 1, a2, none⟩ = some (.bool ((cur.set a1 true).getD a2 false)) := own_at hown5 (bools_at (l := cur.set a1 true) (k := a2) (by omega))
        have hz2 : (wr.setCell ⟨w.heap.size + 1, a1, none⟩ (.bool true)).frozen? ⟨w.heap.size + 1, a2, none⟩ = false := own_free hown5 a2
        have hown6 := own_set hown5 (i := a2) (.bool true)
        rw [← List.map_set] at hown6
        have hln6 : ((cur.set a1 true).set a2 true).length = n + 1 + m := by rw [List.length_set]; exact hln5
        have hs5 : Frm (fun k => k = w.heap.size + 1) wr (wr.setCell ⟨w.heap.size + 1, a1, none⟩ (.bool true)) := (Frm.refl (fun k => k = w.heap.size + 1) _).setCell (p := ⟨w.heap.size + 1, a1, none⟩) (fun _ => rfl) _
        have hs6 : Frm (fun k => k = w.heap.size + 1) wr ((wr.setCell ⟨w.heap.size + 1, a1, none⟩ (.bool true)).setCell ⟨w.heap.size + 1, a2, none⟩ (.bool true)) := ((Frm.refl (fun k => k = w.heap.size + 1) _).setCell (p := ⟨w.heap.size + 1, a1, none⟩) (fun _ => rfl) _).setCell (p := ⟨w.heap.size + 1, a2, none⟩) (fun _ => rfl) (.bool true)
        have hb6 := hb.frm hs6 (by omega)
        have hf6 := hfk.then' hs6 (fun k hk e => by omega)
        have q2' := hs5.cell q2 (by show ¬ b = w.heap.size + 1; omega)
        have b1' := hs5.cell b1 (by show ¬ w.heap.size = w.heap.size + 1; omega)
        have HO6 := Lib.hid hown6
        have HL6 := Lib.hid hln6
        clear hown5 hown6 hln5 hln6 hown hs5 hs6
        generalize (cur.set a1 true).set a2 true = cur2 at *
        generalize (cur.set a1 true).getD a2 false = u2 at *
        generalize cur.getD a1 false = u1 at *
        go_wp2_with fail
        go_roundw
        case rel => exact ⟨i, cur2, by omega, rfl, hb6, HO6.out, HL6.out, HS2.out.symm, hf6⟩
        case measure => simp [intOf] <;> omega
    · have hj0 : j = 0 := by omega
      subst hj0
      have hmk := HMK.out
      rw [mdown] at hmk
      rw [hmk, ← HRE.out] at hown
      have hown2 := own_mono hown (show w.heap.size ≤ w.heap.size + 1 by omega)
      clear hown hlt
      go_wp2_with fail
      go_ret
      exact ⟨_, rfl, hown2, hfk⟩

set_option maxRecDepth 100000 in
set_option maxHeartbeats 4000000 in
theorem rcone_any (n : Nat) (L : List (Int × Int)) (A : Option Addr) (m c : Nat) (B : Option Addr) (k d : Nat) (x : Int) (F : Nat → Prop) (w : World) (hm : L.length = m) (hr : Right n L)
    (hn : n ≤ 2000) (hm4 : m ≤ 2000) (hx : isL x (n + m) = true) (hs : Sl w F 2 (.slice A m c) m (pairs L)) :
    Calls Tryd.prog 89 #[cv n A m c B k d, .int .i64 x] w fun e w' => ∃ A' c', e = .returned (.slice A' (coneL n L x).length c') ∧ w'.ownsRow w.heap.size 3 1 (.slice A' (coneL n L x).length c') (coneL n L x).length ((coneL n L x).map (.int .i64)) ∧ Frm (fun _ => False) w w' := by
  obtain ⟨j0, hj0, hq0, hq1, hq2⟩ := info_parts infoIntG
  have hf0 := (Frm.refl (fun _ => False) w).alloc (.cells #[.int .i64 n, .slice A m c, .slice B k d] 40)
  have hb0 : Blk (w.alloc (.cells #[.int .i64 n, .slice A m c, .slice B k d] 40)) w.heap.size 40 [.int .i64 n, .slice A m c, .slice B k d] := Blk.new _ _ _
  have HMK := Lib.hid (rreach_any n L A m c B k d x F (w.alloc (.cells #[.int .i64 n, .slice A m c, .slice B k d] 40)) hm hr hn hm4 hx (hs.frm hf0 (fun _ _ => id)))
  have b00 := hb0.at_ 0 rfl
  have b01 := hb0.at_ 1 rfl
  have b02 := hb0.at_ 2 rfl
  have hml := marksL_length n L x
  rw [hm] at hml
  have hcd : coneL n L x = coneOf n (marksL n L x) m := by unfold coneL; rw [hm]
  have HCD := Lib.hid hcd
  clear hm hr hs hx hcd
  have wa : IntKind.i64.wrap ((n : Int) + 1) = (n : Int) + 1 := IntWalk.i64_in _ (by omega)
  go_enter Tryd.func89, Tryd.ntmps89
  go_wp2_with fail
  refine HMK.out.mono ?_
  rintro e w1 ⟨g, rfl, hown1, hf1⟩
  generalize marksL n L x = R at *
  have hRs := own_sl hown1
  have hf01 := hf0.trans hf1
  have hb1 := hb0.frm hf1 id
  have b0 := hb1.at_ 0 rfl
  have hsz := hf01.size
  clear HMK hown1 hf0 hf1 hb0 b00 b01 b02 hb1
  go_wp2_with fail
  go_loopw [6, 7] (fun t iv wr => ∃ (i p : Nat) (A' : Option Addr) (c' : Nat), i ≤ m ∧ p ≤ i ∧ iv = .int .i64 ((n : Int) + 1 + i) ∧ t = .slice A' p c' ∧ p = (coneOf n R i).length ∧ wr.ownsRow w1.heap.size 3 1 (.slice A' p c') p ((coneOf n R i).map (.int .i64)) ∧ Frm (fun _ => False) w1 wr) (fun _ iv _ => (1 + (n : Int) + m - intOf iv).toNat)
  case atStart => exact ⟨0, 0, none, 0, by omega, by omega, by go_num, rfl, rfl, World.ownsRow_nil _ _ _ _, Frm.refl _ _⟩
  case round =>
    clear b0
    obtain ⟨i, p, A', c', hi, hpi, rfl, rfl, hp, hown, hfk⟩ := hrel
    have HP := Lib.hid hp
    clear hp
    have hsu := coneOf_succ n R i
    have HSU := Lib.hid hsu
    clear hsu
    by_cases hlt : i < m
    · have hcell := (hRs.frm hfk (fun _ _ => id)).at_ (k := n + 1 + i) (by omega)
      obtain ⟨b, o, u, e1, _, hu, hcell⟩ := hcell
      cases e1
      obtain rfl := at_bool hu
      clear hu
      rw [Nat.zero_add] at hcell
      have k0 : (0 : Int) ≤ (n : Int) + 1 + i := by omega
      have k1 : (n : Int) + 1 + i < (n : Int) + 1 + m := by omega
      have k2 : ((n : Int) + 1 + i).toNat = n + 1 + i := by omega
      obtain ⟨z, hz⟩ : ∃ z, z = R.getD (n + 1 + i) false := ⟨_, rfl⟩
      rw [← hz] at hcell HSU
      clear hz
      cases z
      · have hsu := HSU.out
        simp only [Bool.false_eq_true, if_false] at hsu
        have HS2 := Lib.hid hsu
        clear hsu HSU
        go_wp2_with fail
        go_roundw
        case rel => exact ⟨i + 1, p, A', c', by omega, by omega, by go_num, rfl, by rw [HS2.out]; exact HP.out, by rw [HS2.out]; exact hown, hfk⟩
        case measure => simp [intOf]; omega
      · have hsu := HSU.out
        simp only [if_true] at hsu
        have hsu2 : (coneOf n R i).map (Value.int .i64) ++ [.int .i64 ((n : Int) + 1 + i)] = (coneOf n R (i + 1)).map (.int .i64) := by rw [hsu, List.map_append, List.map_cons, List.map_nil, show ((n + 1 + i : Nat) : Int) = (n : Int) + 1 + i from by omega]
        have hln2 : (coneOf n R (i + 1)).length = (coneOf n R i).length + 1 := by rw [hsu]; simp
        have HS2 := Lib.hid hsu2
        have HL2 := Lib.hid hln2
        clear hsu hsu2 hln2 HSU
        go_wp2_with (at_builtin; refine wpList_append_own _ rfl (.tmp 24) (.tmp 26) 22 rfl w1.heap.size 3 j0 (.int .i64 0) 1 8 Tryd.underlying22 hj0 hq0 hq1 hq2 rfl (by decide) _ _ _ rfl (hown.alloc (.cells #[.int .i64 ((n : Int) + 1 + i)] 3)) ⟨wr.heap.size, 0, none⟩ 1 1 [.int .i64 ((n : Int) + 1 + i)] rfl rfl (cell_one_new _ _ _) ?c2 ?c3 ?c4 ?c5 ?_)
        case c2 => intro u hu; simp at hu; subst hu; rfl
        case c3 => unfold maxLen; omega
        case c4 => omega
        case c5 => have := hfk.size; simp; omega
        intro v' w2 hown2 hgrow _
        rw [HS2.out] at hown2
        obtain ⟨A2, c2, rfl, _⟩ := (Sl.of_own hown2).form
        have hfk2 : Frm (fun _ => False) w1 w2 := (hfk.alloc (.cells #[.int .i64 ((n : Int) + 1 + i)] 3)).grown hgrow (fun g hg hlt => by have := (hown.lt g hg).1; omega)
        clear hgrow hown hfk hcell
        go_wp2_with fail
        go_roundw
        case rel => exact ⟨i + 1, p + 1, A2, c2, by omega, by omega, by go_num, rfl, by rw [HL2.out, ← HP.out], hown2, hfk2⟩
        case measure => simp [intOf]; omega
    · have him : m = i := by omega
      subst him
      have hown2 := own_mono hown (show w.heap.size ≤ w1.heap.size by omega)
      have hcd : coneOf n R m = coneL n L x := HCD.out.symm
      rw [hcd] at hown2
      have hp : p = (coneL n L x).length := by rw [HP.out, hcd]
      subst hp
      have k0 : ¬ (n : Int) + 1 + m < (n : Int) + 1 + m := by omega
      clear hown hcd hlt
      go_wp2_with fail
      go_ret
      exact ⟨A', c', rfl, hown2, hf01.trans hfk⟩

set_option maxRecDepth 100000 in
set_option maxHeartbeats 4000000 in
theorem rsupp_any (n : Nat) (L : List (Int × Int)) (A : Option Addr) (m c : Nat) (B : Option Addr) (k d : Nat) (x : Int) (F : Nat → Prop) (w : World) (hm : L.length = m) (hr : Right n L)
    (hn : n ≤ 2000) (hm4 : m ≤ 2000) (hx : isL x (n + m) = true) (hs : Sl w F 2 (.slice A m c) m (pairs L)) :
    Calls Tryd.prog 88 #[cv n A m c B k d, .int .i64 x] w fun e w' => ∃ A' c', e = .returned (.slice A' (suppL n L x).length c') ∧ w'.ownsRow w.heap.size 3 1 (.slice A' (suppL n L x).length c') (suppL n L x).length ((suppL n L x).map (.int .i64)) ∧ Frm (fun _ => False) w w' := by
  obtain ⟨j0, hj0, hq0, hq1, hq2⟩ := info_parts infoIntG
  have hf0 := (Frm.refl (fun _ => False) w).alloc (.cells #[.int .i64 n, .slice A m c, .slice B k d] 40)
  have hb0 : Blk (w.alloc (.cells #[.int .i64 n, .slice A m c, .slice B k d] 40)) w.heap.size 40 [.int .i64 n, .slice A m c, .slice B k d] := Blk.new _ _ _
  have HMK := Lib.hid (rreach_any n L A m c B k d x F (w.alloc (.cells #[.int .i64 n, .slice A m c, .slice B k d] 40)) hm hr hn hm4 hx (hs.frm hf0 (fun _ _ => id)))
  have b00 := hb0.at_ 0 rfl
  have b01 := hb0.at_ 1 rfl
  have b02 := hb0.at_ 2 rfl
  have hml := marksL_length n L x
  rw [hm] at hml
  have hcd : suppL n L x = suppOf (marksL n L x) n := rfl
  have HCD := Lib.hid hcd
  clear hm hr hs hx hcd
  go_enter Tryd.func88, Tryd.ntmps88
  go_wp2_with fail
  refine HMK.out.mono ?_
  rintro e w1 ⟨g, rfl, hown1, hf1⟩
  generalize marksL n L x = R at *
  have hRs := own_sl hown1
  have hf01 := hf0.trans hf1
  have hb1 := hb0.frm hf1 id
  have hsz := hf01.size
  clear HMK hown1 hf0 hf1 hb0 b00 b01 b02
  go_wp2_with fail
  go_loopw [6, 7] (fun t iv wr => ∃ (i p : Nat) (A' : Option Addr) (c' : Nat), i ≤ n ∧ p ≤ i ∧ iv = .int .i64 (1 + (i : Int)) ∧ t = .slice A' p c' ∧ p = (suppOf R i).length ∧ wr.ownsRow w1.heap.size 3 1 (.slice A' p c') p ((suppOf R i).map (.int .i64)) ∧ Frm (fun _ => False) w1 wr) (fun _ iv _ => (1 + (n : Int) - intOf iv).toNat)
  case atStart => exact ⟨0, 0, none, 0, by omega, by omega, by go_num, rfl, rfl, World.ownsRow_nil _ _ _ _, Frm.refl _ _⟩
  case round =>
    obtain ⟨i, p, A', c', hi, hpi, rfl, rfl, hp, hown, hfk⟩ := hrel
    have HP := Lib.hid hp
    clear hp
    have hsu := suppOf_succ R i
    have HSU := Lib.hid hsu
    clear hsu
    have b0 := (hb1.frm hfk id).at_ 0 rfl
    by_cases hlt : i < n
    · have hcell := (hRs.frm hfk (fun _ _ => id)).at_ (k := i + 1) (by omega)
      obtain ⟨b, o, u, e1, _, hu, hcell⟩ := hcell
      cases e1
      obtain rfl := at_bool hu
      clear hu
      rw [Nat.zero_add] at hcell
      have k0 : (0 : Int) ≤ 1 + (i : Int) := by omega
      have k1 : 1 + (i : Int) < (n : Int) + 1 + m := by omega
      have k1b : 1 + (i : Int) ≤ n := by omega
      have k2 : (1 + (i : Int)).toNat = i + 1 := by omega
      obtain ⟨z, hz⟩ : ∃ z, z = R.getD (i + 1) false := ⟨_, rfl⟩
      rw [← hz] at hcell HSU
      clear hz
      cases z
      · have hsu := HSU.out
        simp only [Bool.false_eq_true, if_false] at hsu
        have HS2 := Lib.hid hsu
        clear hsu HSU
        go_wp2_with fail
        go_roundw
        case rel => exact ⟨i + 1, p, A', c', by omega, by omega, by go_num, rfl, by rw [HS2.out]; exact HP.out, by rw [HS2.out]; exact hown, hfk⟩
        case measure => simp [intOf]; omega
      · have hsu := HSU.out
        simp only [if_true] at hsu
        have hsu2 : (suppOf R i).map (Value.int .i64) ++ [.int .i64 (i : Int)] = (suppOf R (i + 1)).map (.int .i64) := by rw [hsu, List.map_append, List.map_cons, List.map_nil]
        have wi : IntKind.i64.wrap (1 + (i : Int) - 1) = i := by rw [IntWalk.i64_in _ (by omega)]; omega
        have hln2 : (suppOf R (i + 1)).length = (suppOf R i).length + 1 := by rw [hsu]; simp
        have HS2 := Lib.hid hsu2
        have HL2 := Lib.hid hln2
        clear hsu hsu2 hln2 HSU
        go_wp2_with (at_builtin; refine wpList_append_own _ rfl (.tmp 21) (.tmp 24) 22 rfl w1.heap.size 3 j0 (.int .i64 0) 1 8 Tryd.underlying22 hj0 hq0 hq1 hq2 rfl (by decide) _ _ _ rfl (hown.alloc (.cells #[.int .i64 (i : Int)] 3)) ⟨wr.heap.size, 0, none⟩ 1 1 [.int .i64 (i : Int)] rfl rfl (cell_one_new _ _ _) ?c2 ?c3 ?c4 ?c5 ?_)
        case c2 => intro u hu; simp at hu; subst hu; rfl
        case c3 => unfold maxLen; omega
        case c4 => omega
        case c5 => have := hfk.size; simp; omega
        intro v' w2 hown2 hgrow _
        rw [HS2.out] at hown2
        obtain ⟨A2, c2, rfl, _⟩ := (Sl.of_own hown2).form
        have hfk2 : Frm (fun _ => False) w1 w2 := (hfk.alloc (.cells #[.int .i64 (i : Int)] 3)).grown hgrow (fun g hg hlt => by have := (hown.lt g hg).1; omega)
        clear hgrow hown hfk hcell
        go_wp2_with fail
        go_roundw
        case rel => exact ⟨i + 1, p + 1, A2, c2, by omega, by omega, by go_num, rfl, by rw [HL2.out, ← HP.out], hown2, hfk2⟩
        case measure => simp [intOf]; omega
    · have him : n = i := by omega
      subst him
      have hown2 := own_mono hown (show w.heap.size ≤ w1.heap.size by omega)
      have hcd : suppOf R n = suppL n L x := HCD.out.symm
      rw [hcd] at hown2
      have hp : p = (suppL n L x).length := by rw [HP.out, hcd]
      subst hp
      have k0 : ¬ 1 + (n : Int) ≤ n := by omega
      clear hown hcd hlt
      go_wp2_with fail
      go_ret
      exact ⟨A', c', rfl, hown2, hf01.trans hfk⟩

end Go.Proofs.YtkjlgamggkencaaDoor
