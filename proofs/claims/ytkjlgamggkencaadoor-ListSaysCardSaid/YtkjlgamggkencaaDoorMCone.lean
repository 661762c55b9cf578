/-
  The contracts of look.Cone, Support, of skolemref.Has.
-/
import Derived.Test.YtkjlgamggkencaaDoorMMarks
namespace Go.Proofs.YtkjlgamggkencaaDoor
open Go.RowKit

theorem coneOf_succ (n : Nat) (is : List Bool) (i : Nat) : coneOf n is (i + 1) = if is.getD (n + 1 + i) false = true then coneOf n is i ++ [((n + 1 + i : Nat) : Int)] else coneOf n is i := by
  unfold coneOf
  rw [List.range_succ, List.filter_append, List.map_append]
  split
  · rename_i h; simp only [List.filter_cons, h, if_true, List.filter_nil, List.map_cons, List.map_nil]
  · rename_i h; simp only [List.filter_cons, h, Bool.false_eq_true, if_false, List.filter_nil, List.map_nil, List.append_nil]
theorem coneOf_length (n : Nat) (is : List Bool) (i : Nat) : (coneOf n is i).length ≤ i := by
  unfold coneOf
  rw [List.length_map]
  have := List.length_filter_le (fun i => is.getD (n + 1 + i) false) (List.range i)
  simpa using this
theorem suppOf_succ (is : List Bool) (i : Nat) : suppOf is (i + 1) = if is.getD (i + 1) false = true then suppOf is i ++ [(i : Int)] else suppOf is i := by
  unfold suppOf
  rw [List.range_succ, List.filter_append, List.map_append]
  split
  · rename_i h; simp only [List.filter_cons, h, if_true, List.filter_nil, List.map_cons, List.map_nil]
  · rename_i h; simp only [List.filter_cons, h, Bool.false_eq_true, if_false, List.filter_nil, List.map_nil, List.append_nil]
theorem suppOf_length (is : List Bool) (i : Nat) : (suppOf is i).length ≤ i := by
  unfold suppOf
  rw [List.length_map]
  have := List.length_filter_le (fun i => is.getD (i + 1) false) (List.range i)
  simpa using this

set_option maxRecDepth 100000 in
set_option maxHeartbeats 4000000 in
theorem cone_any (n : Nat) (L : List (Int × Int)) (A : Option Addr) (m c : Nat) (B : Option Addr) (k d : Nat) (l : List Int) (x : Int) (F F2 : Nat → Prop) (w : World) (hm : L.length = m) (hk : l.length = k) (hr : Right n L)
    (hn : n ≤ 2000) (hm4 : m ≤ 2000) (hk4 : k ≤ 2000) (hl : ∀ x ∈ l, isL x (n + m) = true) (hx : isL x (n + m) = true) (hs : Sl w F 2 (.slice A m c) m (pairs L)) (ho : Sl w F2 1 (.slice B k d) k (l.map (.int .i64))) :
    Calls Tryd.prog 63 #[cv n A m c B k d, .int .i64 x] w fun e w' => ∃ A' c', e = .returned (.slice A' (coneL n L x).length c') ∧ w'.ownsRow w.heap.size 3 1 (.slice A' (coneL n L x).length c') (coneL n L x).length ((coneL n L x).map (.int .i64)) ∧ Frm (fun _ => False) w w' := by
  obtain ⟨j0, hj0, hq0, hq1, hq2⟩ := info_parts infoIntG
  have hf0 := (Frm.refl (fun _ => False) w).alloc (.cells #[.int .i64 n, .slice A m c, .slice B k d] 40)
  have hb0 : Blk (w.alloc (.cells #[.int .i64 n, .slice A m c, .slice B k d] 40)) w.heap.size 40 [.int .i64 n, .slice A m c, .slice B k d] := Blk.new _ _ _
  have HMK := Lib.hid (marks_any n L A m c B k d l x F F2 (w.alloc (.cells #[.int .i64 n, .slice A m c, .slice B k d] 40)) hm hk hr hn hm4 hk4 hl hx (hs.frm hf0 (fun _ _ => id)) (ho.frm hf0 (fun _ _ => id)))
  have b00 := hb0.at_ 0 rfl
  have b01 := hb0.at_ 1 rfl
  have b02 := hb0.at_ 2 rfl
  have hml := marksL_length n L x
  rw [hm] at hml
  have hcd : coneL n L x = coneOf n (marksL n L x) m := by unfold coneL; rw [hm]
  have HCD := Lib.hid hcd
  clear hm hk hr hl hs ho hx hcd
  have wa : IntKind.i64.wrap (1 + (n : Int)) = 1 + (n : Int) := IntWalk.i64_in _ (by omega)
  go_enter Tryd.func63, Tryd.ntmps63
  go_wp2_with fail
  refine HMK.out.mono ?_
  rintro e w1 ⟨g, rfl, hown1, hf1⟩
  generalize marksL n L x = R at *
  have hRs := own_sl hown1
  have hf01 := hf0.trans hf1
  have hb1 := hb0.frm hf1 id
  have b0 := hb1.at_ 0 rfl
  have hsz := hf01.size
  clear HMK hown1 hf0 hf1 hb0 b00 b01 b02 hb1
  go_wp2_with fail
  go_loopw [6, 7] (fun t iv wr => ∃ (i p : Nat) (A' : Option Addr) (c' : Nat), i ≤ m ∧ p ≤ i ∧ iv = .int .i64 (1 + (n : Int) + i) ∧ t = .slice A' p c' ∧ p = (coneOf n R i).length ∧ wr.ownsRow w1.heap.size 3 1 (.slice A' p c') p ((coneOf n R i).map (.int .i64)) ∧ Frm (fun _ => False) w1 wr) (fun _ iv _ => (1 + (n : Int) + m - intOf iv).toNat)
  case atStart => exact ⟨0, 0, none, 0, by omega, by omega, by go_num, rfl, rfl, World.ownsRow_nil _ _ _ _, Frm.refl _ _⟩
  case round =>
    clear b0
    obtain ⟨i, p, A', c', hi, hpi, rfl, rfl, hp, hown, hfk⟩ := hrel
    have HP := Lib.hid hp
    clear hp
    have hsu := coneOf_succ n R i
    have HSU := Lib.hid hsu
    clear hsu
    by_cases hlt : i < m
    · have hcell := (hRs.frm hfk (fun _ _ => id)).at_ (k := n + 1 + i) (by omega)
      obtain ⟨b, o, u, e1, _, hu, hcell⟩ := hcell
      cases e1
      obtain rfl := at_bool hu
      clear hu
      rw [Nat.zero_add] at hcell
      have k0 : (0 : Int) ≤ 1 + (n : Int) + i := by omega
      have k1 : 1 + (n : Int) + i < (n : Int) + 1 + m := by omega
      have k2 : (1 + (n : Int) + i).toNat = n + 1 + i := by omega
      obtain ⟨z, hz⟩ : ∃ z, z = R.getD (n + 1 + i) false := ⟨_, rfl⟩
      rw [← hz] at hcell HSU
      clear hz
      cases z
      · have hsu := HSU.out
        simp only [Bool.false_eq_true, if_false] at hsu
        have HS2 := Lib.hid hsu
        clear hsu HSU
        go_wp2_with fail
        go_roundw
        case rel => exact ⟨i + 1, p, A', c', by omega, by omega, by go_num, rfl, by rw [HS2.out]; exact HP.out, by rw [HS2.out]; exact hown, hfk⟩
        case measure => simp [intOf]; omega
      · have hsu := HSU.out
        simp only [if_true] at hsu
        have hsu2 : (coneOf n R i).map (Value.int .i64) ++ [.int .i64 (1 + (n : Int) + i)] = (coneOf n R (i + 1)).map (.int .i64) := by rw [hsu, List.map_append, List.map_cons, List.map_nil, show ((n + 1 + i : Nat) : Int) = 1 + (n : Int) + i from by omega]
        have hln2 : (coneOf n R (i + 1)).length = (coneOf n R i).length + 1 := by rw [hsu]; simp
        have HS2 := Lib.hid hsu2
        have HL2 := Lib.hid hln2
        clear hsu hsu2 hln2 HSU
        go_wp2_with (at_builtin; refine wpList_append_own _ rfl (.tmp 24) (.tmp 26) 22 rfl w1.heap.size 3 j0 (.int .i64 0) 1 8 Tryd.underlying22 hj0 hq0 hq1 hq2 rfl (by decide) _ _ _ rfl (hown.alloc (.cells #[.int .i64 (1 + (n : Int) + i)] 3)) ⟨wr.heap.size, 0, none⟩ 1 1 [.int .i64 (1 + (n : Int) + i)] rfl rfl (cell_one_new _ _ _) ?c2 ?c3 ?c4 ?c5 ?_)
        case c2 => intro u hu; simp at hu; subst hu; rfl
        case c3 => unfold maxLen; omega
        case c4 => omega
        case c5 => have := hfk.size; simp; omega
        intro v' w2 hown2 hgrow _
        rw [HS2.out] at hown2
        obtain ⟨A2, c2, rfl, _⟩ := (Sl.of_own hown2).form
        have hfk2 : Frm (fun _ => False) w1 w2 := (hfk.alloc (.cells #[.int .i64 (1 + (n : Int) + i)] 3)).grown hgrow (fun g hg hlt => by have := (hown.lt g hg).1; omega)
        clear hgrow hown hfk hcell
        go_wp2_with fail
        go_roundw
        case rel => exact ⟨i + 1, p + 1, A2, c2, by omega, by omega, by go_num, rfl, by rw [HL2.out, ← HP.out], hown2, hfk2⟩
        case measure => simp [intOf]; omega
    · have him : m = i := by omega
      subst him
      have hown2 := own_mono hown (show w.heap.size ≤ w1.heap.size by omega)
      have hcd : coneOf n R m = coneL n L x := HCD.out.symm
      rw [hcd] at hown2
      have hp : p = (coneL n L x).length := by rw [HP.out, hcd]
      subst hp
      have k0 : ¬ 1 + (n : Int) + m < (n : Int) + 1 + m := by omega
      clear hown hcd hlt
      go_wp2_with fail
      go_ret
      exact ⟨A', c', rfl, hown2, hf01.trans hfk⟩

set_option maxRecDepth 100000 in
set_option maxHeartbeats 4000000 in
theorem supp_any (n : Nat) (L : List (Int × Int)) (A : Option Addr) (m c : Nat) (B : Option Addr) (k d : Nat) (l : List Int) (x : Int) (F F2 : Nat → Prop) (w : World) (hm : L.length = m) (hk : l.length = k) (hr : Right n L)
    (hn : n ≤ 2000) (hm4 : m ≤ 2000) (hk4 : k ≤ 2000) (hl : ∀ x ∈ l, isL x (n + m) = true) (hx : isL x (n + m) = true) (hs : Sl w F 2 (.slice A m c) m (pairs L)) (ho : Sl w F2 1 (.slice B k d) k (l.map (.int .i64))) :
    Calls Tryd.prog 78 #[cv n A m c B k d, .int .i64 x] w fun e w' => ∃ A' c', e = .returned (.slice A' (suppL n L x).length c') ∧ w'.ownsRow w.heap.size 3 1 (.slice A' (suppL n L x).length c') (suppL n L x).length ((suppL n L x).map (.int .i64)) ∧ Frm (fun _ => False) w w' := by
  obtain ⟨j0, hj0, hq0, hq1, hq2⟩ := info_parts infoIntG
  have hf0 := (Frm.refl (fun _ => False) w).alloc (.cells #[.int .i64 n, .slice A m c, .slice B k d] 40)
  have hb0 : Blk (w.alloc (.cells #[.int .i64 n, .slice A m c, .slice B k d] 40)) w.heap.size 40 [.int .i64 n, .slice A m c, .slice B k d] := Blk.new _ _ _
  have HMK := Lib.hid (marks_any n L A m c B k d l x F F2 (w.alloc (.cells #[.int .i64 n, .slice A m c, .slice B k d] 40)) hm hk hr hn hm4 hk4 hl hx (hs.frm hf0 (fun _ _ => id)) (ho.frm hf0 (fun _ _ => id)))
  have b00 := hb0.at_ 0 rfl
  have b01 := hb0.at_ 1 rfl
  have b02 := hb0.at_ 2 rfl
  have hml := marksL_length n L x
  rw [hm] at hml
  have hcd : suppL n L x = suppOf (marksL n L x) n := rfl
  have HCD := Lib.hid hcd
  clear hm hk hr hl hs ho hx hcd
  have wa : IntKind.i64.wrap (1 + (n : Int)) = 1 + (n : Int) := IntWalk.i64_in _ (by omega)
  go_enter Tryd.func78, Tryd.ntmps78
  go_wp2_with fail
  refine HMK.out.mono ?_
  rintro e w1 ⟨g, rfl, hown1, hf1⟩
  generalize marksL n L x = R at *
  have hRs := own_sl hown1
  have hf01 := hf0.trans hf1
  have hb1 := hb0.frm hf1 id
  have b0 := hb1.at_ 0 rfl
  have hsz := hf01.size
  clear HMK hown1 hf0 hf1 hb0 b00 b01 b02
  go_wp2_with fail
  go_loopw [6, 7] (fun t iv wr => ∃ (i p : Nat) (A' : Option Addr) (c' : Nat), i ≤ n ∧ p ≤ i ∧ iv = .int .i64 (1 + (i : Int)) ∧ t = .slice A' p c' ∧ p = (suppOf R i).length ∧ wr.ownsRow w1.heap.size 3 1 (.slice A' p c') p ((suppOf R i).map (.int .i64)) ∧ Frm (fun _ => False) w1 wr) (fun _ iv _ => (1 + (n : Int) - intOf iv).toNat)
  case atStart => exact ⟨0, 0, none, 0, by omega, by omega, by go_num, rfl, rfl, World.ownsRow_nil _ _ _ _, Frm.refl _ _⟩
  case round =>
    clear b0
    obtain ⟨i, p, A', c', hi, hpi, rfl, rfl, hp, hown, hfk⟩ := hrel
    have HP := Lib.hid hp
    clear hp
    have hsu := suppOf_succ R i
    have HSU := Lib.hid hsu
    clear hsu
    by_cases hlt : i < n
    · have b0 := (hb1.frm hfk id).at_ 0 rfl
      have hcell := (hRs.frm hfk (fun _ _ => id)).at_ (k := i + 1) (by omega)
      obtain ⟨b, o, u, e1, _, hu, hcell⟩ := hcell
      cases e1
      obtain rfl := at_bool hu
      clear hu
      rw [Nat.zero_add] at hcell
      have k0 : (0 : Int) ≤ 1 + (i : Int) := by omega
      have k1 : 1 + (i : Int) < (n : Int) + 1 + m := by omega
      have k1b : 1 + (i : Int) ≤ n := by omega
      have k2 : (1 + (i : Int)).toNat = i + 1 := by omega
      obtain ⟨z, hz⟩ : ∃ z, z = R.getD (i + 1) false := ⟨_, rfl⟩
      rw [← hz] at hcell HSU
      clear hz
      cases z
      · have hsu := HSU.out
        simp only [Bool.false_eq_true, if_false] at hsu
        have HS2 := Lib.hid hsu
        clear hsu HSU
        go_wp2_with fail
        go_roundw
        case rel => exact ⟨i + 1, p, A', c', by omega, by omega, by go_num, rfl, by rw [HS2.out]; exact HP.out, by rw [HS2.out]; exact hown, hfk⟩
        case measure => simp [intOf]; omega
      · have hsu := HSU.out
        simp only [if_true] at hsu
        have hsu2 : (suppOf R i).map (Value.int .i64) ++ [.int .i64 (i : Int)] = (suppOf R (i + 1)).map (.int .i64) := by rw [hsu, List.map_append, List.map_cons, List.map_nil]
        have wi : IntKind.i64.wrap (1 + (i : Int) - 1) = i := by rw [IntWalk.i64_in _ (by omega)]; omega
        have hln2 : (suppOf R (i + 1)).length = (suppOf R i).length + 1 := by rw [hsu]; simp
        have HS2 := Lib.hid hsu2
        have HL2 := Lib.hid hln2
        clear hsu hsu2 hln2 HSU
        go_wp2_with (at_builtin; refine wpList_append_own _ rfl (.tmp 27) (.tmp 30) 22 rfl w1.heap.size 3 j0 (.int .i64 0) 1 8 Tryd.underlying22 hj0 hq0 hq1 hq2 rfl (by decide) _ _ _ rfl (hown.alloc (.cells #[.int .i64 (i : Int)] 3)) ⟨wr.heap.size, 0, none⟩ 1 1 [.int .i64 (i : Int)] rfl rfl (cell_one_new _ _ _) ?c2 ?c3 ?c4 ?c5 ?_)
        case c2 => intro u hu; simp at hu; subst hu; rfl
        case c3 => unfold maxLen; omega
        case c4 => omega
        case c5 => have := hfk.size; simp; omega
        intro v' w2 hown2 hgrow _
        rw [HS2.out] at hown2
        obtain ⟨A2, c2, rfl, _⟩ := (Sl.of_own hown2).form
        have hfk2 : Frm (fun _ => False) w1 w2 := (hfk.alloc (.cells #[.int .i64 (i : Int)] 3)).grown hgrow (fun g hg hlt => by have := (hown.lt g hg).1; omega)
        clear hgrow hown hfk hcell
        go_wp2_with fail
        go_roundw
        case rel => exact ⟨i + 1, p + 1, A2, c2, by omega, by omega, by go_num, rfl, by rw [HL2.out, ← HP.out], hown2, hfk2⟩
        case measure => simp [intOf]; omega
    · have him : n = i := by omega
      subst him
      have hown2 := own_mono hown (show w.heap.size ≤ w1.heap.size by omega)
      have hcd : suppOf R n = suppL n L x := HCD.out.symm
      rw [hcd] at hown2
      have hp : p = (suppL n L x).length := by rw [HP.out, hcd]
      subst hp
      have b0 := (hb1.frm hfk id).at_ 0 rfl
      have k0 : ¬ 1 + (n : Int) ≤ n := by omega
      clear hown hcd hlt
      by_cases hm0 : 1 + (n : Int) < (n : Int) + 1 + m
      · go_wp2_with fail
        go_ret
        exact ⟨A', c', rfl, hown2, hf01.trans hfk⟩
      · go_wp2_with fail
        go_ret
        exact ⟨A', c', rfl, hown2, hf01.trans hfk⟩

set_option maxHeartbeats 1000000 in
theorem has_any (A : Option Addr) (n c : Nat) (F : Nat → Prop) (l : List Int) (x : Int) (w : World) (hn : l.length = n) (hn4 : n ≤ 1000000) (hs : Sl w F 1 (.slice A n c) n (l.map (.int .i64))) :
    Calls Tryd.prog 64 #[.slice A n c, .int .i64 x] w fun e w' => e = .returned (.bool (decide (x ∈ l))) ∧ Frm (fun _ => False) w w' := by
  have HN := Lib.hid hn
  clear hn
  go_enter Tryd.func64, Tryd.ntmps64
  go_wp2_with fail
  go_loopw [5] (fun iv wr => ∃ (j : Nat), j ≤ n ∧ iv = .int .i64 (j : Int) ∧ x ∉ l.take j ∧ Frm (fun _ => False) w wr) (fun iv _ => n - (intOf iv).toNat)
  case atStart => exact ⟨0, by omega, rfl, by simp, Frm.refl _ _⟩
  case round =>
    obtain ⟨j, hj, rfl, hno, hfk⟩ := hrel
    have HNO := Lib.hid hno
    clear hno
    by_cases hlt : j < n
    · have hlt2 : j < l.length := by rw [HN.out]; exact hlt
      obtain ⟨b, o, u, rfl, _, hu, hcell⟩ := (hs.frm hfk (fun _ _ => id)).at_ hlt
      obtain rfl := at_getD hu
      have hts : l.take (j + 1) = l.take j ++ [l.getD j 0] := by rw [List.take_succ_eq_append_getElem hlt2]; simp [List.getD, hlt2]
      have hmem : l.getD j 0 ∈ l := by simp [List.getD, hlt2]
      clear hu
      generalize l.getD j 0 = y at *
      have HTS := Lib.hid hts
      have HME := Lib.hid hmem
      clear hts hmem
      have k0 : (0 : Int) ≤ j := by omega
      have k1 : (j : Int) < n := by omega
      by_cases he : y = x
      · subst he
        go_wp2_with fail
        go_ret
        exact ⟨ret_bool (decide_eq_true HME.out).symm, hfk⟩
      · have he1 : (y == x) = false := by simpa using he
        go_wp2_with fail
        go_roundw
        case rel => exact ⟨j + 1, by omega, by go_num, by rw [HTS.out]; simp only [List.mem_append, List.mem_singleton, not_or]; exact ⟨HNO.out, fun h => he h.symm⟩, hfk⟩
        case measure => simp [intOf]; omega
    · have hjn : n = j := by omega
      subst hjn
      have hno := HNO.out
      rw [List.take_of_length_le (by rw [HN.out]; exact Nat.le_refl _)] at hno
      have H2 := Lib.hid hno
      clear hno
      go_wp2_with fail
      go_ret
      exact ⟨ret_bool (decide_eq_false H2.out).symm, hfk⟩

end Go.Proofs.YtkjlgamggkencaaDoor
