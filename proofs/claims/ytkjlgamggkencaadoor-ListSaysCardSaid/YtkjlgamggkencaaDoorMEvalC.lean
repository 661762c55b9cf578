/-
  The contracts of skolemref8.worth, Nodes, Eval, of skolemmake.Values.
-/
import Derived.Test.YtkjlgamggkencaaDoorMCirc
import Derived.Test.YtkjlgamggkencaaDoorMPure
import Derived.Test.YtkjlgamggkencaaDoorMRegion
namespace Go.Proofs.YtkjlgamggkencaaDoor
open Go.RowKit

theorem own_mono {w : World} {base base' : Nat} {e : TypeId} {sz n : Nat} {v : Value} {xs : List Value} (h : w.ownsRow base e sz v n xs) (hb : base' ≤ base) : w.ownsRow base' e sz v n xs := by
  refine ⟨h.1, ?_⟩
  rcases h.2 with hn | ⟨g, cap, cur, rfl, hg, rest⟩
  · exact .inl hn
  · exact .inr ⟨g, cap, cur, rfl, by omega, rest⟩
theorem infoBoolG : (Tryd.prog.info? 4).map (fun i => (i.zero, i.size, i.bytes)) = some (some (.bool false), 1, 1) := by kernel_rfl

theorem at_bool {l : List Bool} {k : Nat} {u : Value} (h : (l.map Value.bool)[k]? = some u) : u = .bool (l.getD k false) := by
  rw [List.getElem?_map] at h
  cases hg : l[k]? with
  | none => rw [hg] at h; cases h
  | some x => rw [hg] at h; simp at h; rw [← h, List.getD, hg]; rfl

theorem bools_snoc {l : List Bool} {k : Nat} (hk : k < l.length) {b : Bool} (hb : b = l.getD k false) : (l.map Value.bool).take k ++ [.bool b] = (l.map Value.bool).take (k + 1) := by
  rw [hb, List.take_succ_eq_append_getElem (by simpa using hk)]; simp [List.getD, hk]

set_option maxRecDepth 100000 in
set_option maxHeartbeats 1000000 in
theorem worth_any (A : Option Addr) (n c : Nat) (F : Nat → Prop) (vs : List Bool) (l : Int) (w : World) (hn : vs.length = n) (h0 : 0 ≤ l) (h1 : (l / 2).toNat < n) (hb : n ≤ 1000000) (hs : Sl w F 1 (.slice A n c) n (vs.map .bool)) :
    Calls Tryd.prog 113 #[.slice A n c, .int .i64 l] w fun e w' => e = .returned (.bool (worth vs l)) ∧ ∃ k, w.drewN k = w' := by
  obtain ⟨b, o, u, rfl, _, hu, hcell⟩ := hs.at_ h1
  obtain rfl := at_bool hu
  have hand := bits_and_one l h0 (by omega)
  have hval : worth vs l = (vs.getD (l / 2).toNat false != decide (l % 2 = 1)) := rfl
  have i0 : (0 : Int) ≤ l / 2 := by omega
  have i1 : l / 2 < (n : Int) := by omega
  clear hu hs
  generalize vs.getD (l / 2).toNat false = x at *
  have HW := Lib.hid hval
  clear hval
  go_enter Tryd.func113, Tryd.ntmps113
  go_wp2_with fail
  go_ret
  refine ⟨ret_bool ?_, 0, rfl⟩
  rw [HW.out]
  rcases (show l % 2 = 0 ∨ l % 2 = 1 from by omega) with h | h <;> rw [h] <;> cases x <;> rfl

theorem vals_take (n : Nat) (inp : List Bool) {k : Nat} (hk : k < n) : ((valsN n inp).map Value.bool).take (k + 1) ++ [.bool (inp.getD k false)] = ((valsN n inp).map Value.bool).take (k + 2) := by
  refine bools_snoc (by rw [valsN_length]; omega) ?_
  simp [valsN, List.getD, hk]

theorem more_take (v : List Bool) (L : List (Int × Int)) {k : Nat} (hk : k < L.length) : more v (L.take (k + 1)) = more v (L.take k) ++ [worth (more v (L.take k)) (L.getD k (0, 0)).1 && worth (more v (L.take k)) (L.getD k (0, 0)).2] := by
  rw [List.take_succ_eq_append_getElem hk, more_append]
  simp [more, List.getD, hk]

set_option maxRecDepth 100000 in
set_option maxHeartbeats 4000000 in
theorem rnodes_any (n : Nat) (L : List (Int × Int)) (A : Option Addr) (m c : Nat) (B : Option Addr) (k d : Nat) (Ai : Option Addr) (li ci : Nat) (inp : List Bool) (F G : Nat → Prop) (w : World) (hm : L.length = m) (hli : inp.length = li) (hr : Right n L)
    (hn : n ≤ 2000) (hm4 : m ≤ 2000) (hs : Sl w F 2 (.slice A m c) m (pairs L)) (hi : Sl w G 1 (.slice Ai li ci) li (inp.map .bool)) :
    Calls Tryd.prog 48 #[cv n A m c B k d, .slice Ai li ci] w fun e w' => ∃ A' c', e = .returned (.slice A' (n + 1 + m) c') ∧ w'.ownsRow w.heap.size 4 1 (.slice A' (n + 1 + m) c') (n + 1 + m) ((nodes n L inp).map .bool) ∧ Frm (fun _ => False) w w' := by
  obtain ⟨i0, hi0, hz0, hz1, hz2⟩ := info_parts infoBoolG
  have HM := Lib.hid hm
  have HLI := Lib.hid hli
  clear hm hli
  have hb0 : Blk ((w.alloc (.cells #[.int .i64 n, .slice A m c, .slice B k d] 40)).alloc (.cells #[.bool false] 4)) w.heap.size 40 [.int .i64 n, .slice A m c, .slice B k d] := (Blk.new _ _ _).alloc _
  have hf0 := ((Frm.refl (fun _ => False) w).alloc (.cells #[.int .i64 n, .slice A m c, .slice B k d] 40)).alloc (.cells #[.bool false] 4)
  have hown0 : ((w.alloc (.cells #[.int .i64 n, .slice A m c, .slice B k d] 40)).alloc (.cells #[.bool false] 4)).ownsRow (w.heap.size + 1) 4 1 (.slice (some ⟨w.heap.size + 1, 0, none⟩) 1 1) 1 [.bool false] := by
    have := World.ownsRow_lit (e := 4) (size := 1) (base := w.heap.size + 1) (w.alloc (.cells #[.int .i64 n, .slice A m c, .slice B k d] 40)) #[.bool false] 1 (by simp) (by unfold maxLen; omega) rfl
    simpa using this
  have e1 : ((valsN n inp).map Value.bool).take 1 = [.bool false] := by simp [valsN]
  rw [← e1] at hown0
  go_enter Tryd.func48, Tryd.ntmps48
  go_wp2_with fail
  go_loopw [5, 6] (fun t i wr => ∃ (j : Nat) (A' : Option Addr) (c' : Nat), j ≤ n ∧ i = .int .i64 j ∧ t = .slice A' (j + 1) c' ∧ Blk wr w.heap.size 40 [.int .i64 n, .slice A m c, .slice B k d] ∧ wr.ownsRow (w.heap.size + 1) 4 1 (.slice A' (j + 1) c') (j + 1) (((valsN n inp).map .bool).take (j + 1)) ∧ Frm (fun _ => False) w wr) (fun _ i _ => n - (intOf i).toNat)
  case atStart => exact ⟨0, _, 1, by omega, rfl, rfl, hb0, hown0, hf0⟩
  case round =>
    clear hb0 hf0 hown0 e1
    obtain ⟨j, A', c', hj, rfl, rfl, hb, hown, hfk⟩ := hrel
    have b0 := hb.at_ 0 rfl
    have b1 := hb.at_ 1 rfl
    by_cases hlt : j < n
    · have j0 : (0 : Int) ≤ j := by omega
      have j1 : (j : Int) < n := by omega
      have hgo : ∀ x : Bool, x = inp.getD j false → ((valsN n inp).map Value.bool).take (j + 1) ++ [.bool x] = ((valsN n inp).map Value.bool).take (j + 2) := by rintro x rfl; exact vals_take n inp hlt
      by_cases hji : j < li
      · obtain ⟨b, o, u, rfl, _, hu, hcell⟩ := (hi.frm hfk (fun _ _ => id)).at_ hji
        obtain rfl := at_bool hu
        clear hu
        have j2 : (j : Int) < li := by omega
        have HG := Lib.hid (hgo _ rfl)
        clear hgo
        generalize inp.getD j false = x at *
        go_wp2_with (at_builtin; refine wpList_append_own _ rfl (.tmp 15) (.tmp 26) 54 rfl (w.heap.size + 1) 4 i0 (.bool false) 1 1 Tryd.underlying54 hi0 hz0 hz1 hz2 rfl (by decide) _ _ _ rfl (hown.alloc (.cells #[.bool x] 4)) ⟨wr.heap.size, 0, none⟩ 1 1 [.bool x] rfl rfl (cell_one_new _ _ _) ?c2 ?c3 ?c4 ?c5 ?_)
        case c2 => intro u hu; simp at hu; subst hu; rfl
        case c3 => unfold maxLen; omega
        case c4 => omega
        case c5 => have := hb.lt; simp; omega
        intro v' w2 hown2 hgrow _
        rw [HG.out] at hown2
        obtain ⟨A2, c2, rfl, _⟩ := (Sl.of_own hown2).form
        have hgr : Frm (fun g => w.heap.size + 1 ≤ g) wr w2 := ((Frm.refl _ wr).alloc (.cells #[.bool x] 4)).grown hgrow (fun g hg hlt => (hown.lt g hg).1)
        have hb2 := hb.frm hgr (by omega)
        have hfk2 := hfk.then' hgr (fun g hg h => by omega)
        clear hgrow hown hcell hb hfk hgr b0 b1
        go_wp2_with fail
        go_roundw
        case rel => exact ⟨j + 1, A2, c2, by omega, by go_num, rfl, hb2, hown2, hfk2⟩
        case measure => simp [intOf]; omega
      · have j2 : ¬ (j : Int) < li := by omega
        have hx : inp.getD j false = false := by simp [List.getD, List.getElem?_eq_none (show inp.length ≤ j by rw [HLI.out]; omega)]
        have HG := Lib.hid (hgo false hx.symm)
        clear hgo hx
        go_wp2_with (at_builtin; refine wpList_append_own _ rfl (.tmp 15) (.tmp 26) 54 rfl (w.heap.size + 1) 4 i0 (.bool false) 1 1 Tryd.underlying54 hi0 hz0 hz1 hz2 rfl (by decide) _ _ _ rfl (hown.alloc (.cells #[.bool false] 4)) ⟨wr.heap.size, 0, none⟩ 1 1 [.bool false] rfl rfl (cell_one_new _ _ _) ?c2 ?c3 ?c4 ?c5 ?_)
        case c2 => first | (intro u hu; simp at hu; subst hu; rfl) | rfl
        case c3 => unfold maxLen; omega
        case c4 => omega
        case c5 => have := hb.lt; simp; omega
        intro v' w2 hown2 hgrow _
        rw [HG.out] at hown2
        obtain ⟨A2, c2, rfl, _⟩ := (Sl.of_own hown2).form
        have hgr : Frm (fun g => w.heap.size + 1 ≤ g) wr w2 := ((Frm.refl _ wr).alloc (.cells #[.bool false] 4)).grown hgrow (fun g hg hlt => (hown.lt g hg).1)
        have hb2 := hb.frm hgr (by omega)
        have hfk2 := hfk.then' hgr (fun g hg h => by omega)
        clear hgrow hown hb hfk hgr b0 b1
        go_wp2_with fail
        go_roundw
        case rel => exact ⟨j + 1, A2, c2, by omega, by go_num, rfl, hb2, hown2, hfk2⟩
        case measure => simp [intOf]; omega
    · obtain rfl : n = j := by omega
      have hvs : ((valsN n inp).map Value.bool).take (n + 1) = (more (valsN n inp) (L.take 0)).map .bool := by rw [List.take_of_length_le (by simp [valsN_length])]; rfl
      rw [hvs] at hown
      clear hvs
      go_wp2_with fail
      go_loopw [5, 7] (fun t i wr => ∃ (j : Nat) (A' : Option Addr) (c' : Nat), j ≤ m ∧ i = .int .i64 j ∧ t = .slice A' (n + 1 + j) c' ∧ Blk wr w.heap.size 40 [.int .i64 n, .slice A m c, .slice B k d] ∧ wr.ownsRow (w.heap.size + 1) 4 1 (.slice A' (n + 1 + j) c') (n + 1 + j) ((more (valsN n inp) (L.take j)).map .bool) ∧ Frm (fun _ => False) w wr) (fun _ i _ => m - (intOf i).toNat)
      case atStart => exact ⟨0, A', c', by omega, rfl, rfl, hb, hown, hfk⟩
      case round =>
        clear hb hown hfk b0 b1
        obtain ⟨j, A', c', hj, rfl, rfl, hb, hown, hfk⟩ := hrel
        have b0 := hb.at_ 0 rfl
        have b1 := hb.at_ 1 rfl
        by_cases hlt : j < m
        · have hlt2 : j < L.length := by rw [HM.out]; exact hlt
          obtain ⟨b, o, rfl, _, q1, q2⟩ := sl_pair (hs.frm hfk (fun _ _ => id)) hlt
          rw [← Nat.add_assoc] at q2
          have hmt := more_take (valsN n inp) L hlt2
          have hrp := hr j (L.getD j (0, 0)) (by simp [List.getD, hlt2])
          have hvl : (more (valsN n inp) (L.take j)).length = n + 1 + j := by rw [more_length, valsN_length]; simp; omega
          generalize L.getD j (0, 0) = p at *
          obtain ⟨x, y⟩ := p
          simp only at q1 q2 hmt hrp
          have j0 : (0 : Int) ≤ j := by omega
          have j1 : (j : Int) < m := by omega
          have HW := Lib.hid (fun (l : Int) (W : World) (h0 : 0 ≤ l) (h1 : (l / 2).toNat < n + 1 + j) (hf : Frm (fun _ => False) wr W) => worth_any A' (n + 1 + j) c' _ _ l W hvl h0 h1 (by omega) ((own_sl hown).frm hf (fun _ _ => id)))
          have HMT := Lib.hid hmt
          clear hmt hvl
          generalize more (valsN n inp) (L.take j) = V at *
          by_cases hv : worth V x = true
          · go_wp2_with fail
            refine (HW.out x _ (by omega) (by omega) (Frm.refl _ _)).mono ?_
            rw [hv]
            rintro e w' ⟨rfl, n1, rfl⟩
            go_wp2_with fail
            refine (HW.out y _ (by omega) (by omega) ((Frm.refl _ _).drewN _)).mono ?_
            rintro e w' ⟨rfl, n2, rfl⟩
            have hmt := HMT.out
            rw [hv, Bool.true_and] at hmt
            generalize worth V y = z at *
            have HMT2 := Lib.hid hmt
            clear hmt
            go_wp2_with (at_builtin; refine wpList_append_own _ rfl (.tmp 35) (.tmp 54) 54 rfl (w.heap.size + 1) 4 i0 (.bool false) 1 1 Tryd.underlying54 hi0 hz0 hz1 hz2 rfl (by decide) _ _ _ rfl ((own_frm hown ((Frm.refl (fun _ => False) wr).drewN (n1 + n2)) (fun _ _ => id)).alloc (.cells #[.bool z] 4)) ⟨wr.heap.size, 0, none⟩ 1 1 [.bool z] rfl rfl (cell_one_new _ _ _) ?c2 ?c3 ?c4 ?c5 ?_)
            case c2 => first | (intro u hu; simp at hu; subst hu; rfl) | rfl
            case c3 => unfold maxLen; omega
            case c4 => omega
            case c5 => have := hb.lt; simp; omega
            intro v' w2 hown2 hgrow _
            have hm2 : (V.map Value.bool) ++ [.bool z] = ((more (valsN n inp) (L.take (j + 1))).map .bool) := by rw [HMT2.out]; simp
            rw [hm2] at hown2
            obtain ⟨A2, c2, rfl, _⟩ := (Sl.of_own hown2).form
            have hgr : Frm (fun g => w.heap.size + 1 ≤ g) wr w2 := (((Frm.refl _ wr).drewN (n1 + n2)).alloc (.cells #[.bool z] 4)).grown hgrow (fun g hg hlt => (hown.lt g hg).1)
            have hb2 := hb.frm hgr (by omega)
            have hfk2 := hfk.then' hgr (fun g hg h => by omega)
            clear hgrow hown hb hfk hgr b0 b1 q1 q2 HW hm2
            go_wp2_with fail
            go_roundw
            case rel => exact ⟨j + 1, A2, c2, by omega, by go_num, rfl, hb2, hown2, hfk2⟩
            case measure => simp [intOf]; omega
          · have hv : worth V x = false := by simpa using hv
            go_wp2_with fail
            refine (HW.out x _ (by omega) (by omega) (Frm.refl _ _)).mono ?_
            rw [hv]
            rintro e w' ⟨rfl, n1, rfl⟩
            have hmt := HMT.out
            rw [hv, Bool.false_and] at hmt
            have HMT2 := Lib.hid hmt
            clear hmt
            go_wp2_with (at_builtin; refine wpList_append_own _ rfl (.tmp 35) (.tmp 54) 54 rfl (w.heap.size + 1) 4 i0 (.bool false) 1 1 Tryd.underlying54 hi0 hz0 hz1 hz2 rfl (by decide) _ _ _ rfl ((own_frm hown ((Frm.refl (fun _ => False) wr).drewN n1) (fun _ _ => id)).alloc (.cells #[.bool false] 4)) ⟨wr.heap.size, 0, none⟩ 1 1 [.bool false] rfl rfl (cell_one_new _ _ _) ?c2 ?c3 ?c4 ?c5 ?_)
            case c2 => first | (intro u hu; simp at hu; subst hu; rfl) | rfl
            case c3 => unfold maxLen; omega
            case c4 => omega
            case c5 => have := hb.lt; simp; omega
            intro v' w2 hown2 hgrow _
            have hm2 : (V.map Value.bool) ++ [.bool false] = ((more (valsN n inp) (L.take (j + 1))).map .bool) := by rw [HMT2.out]; simp
            rw [hm2] at hown2
            obtain ⟨A2, c2, rfl, _⟩ := (Sl.of_own hown2).form
            have hgr : Frm (fun g => w.heap.size + 1 ≤ g) wr w2 := (((Frm.refl _ wr).drewN n1).alloc (.cells #[.bool false] 4)).grown hgrow (fun g hg hlt => (hown.lt g hg).1)
            have hb2 := hb.frm hgr (by omega)
            have hfk2 := hfk.then' hgr (fun g hg h => by omega)
            clear hgrow hown hb hfk hgr b0 b1 q1 q2 HW hm2
            go_wp2_with fail
            go_roundw
            case rel => exact ⟨j + 1, A2, c2, by omega, by go_num, rfl, hb2, hown2, hfk2⟩
            case measure => simp [intOf]; omega
        · obtain rfl : m = j := by omega
          have ht : L.take m = L := List.take_of_length_le (by rw [HM.out]; exact Nat.le_refl _)
          rw [ht] at hown
          have hown2 := own_mono hown (show w.heap.size ≤ w.heap.size + 1 by omega)
          clear hown ht
          go_wp2_with fail
          go_ret
          exact ⟨A', c', rfl, hown2, hfk⟩

theorem outs_take (v : List Bool) (l : List Int) {j : Nat} (hj : j < l.length) : ((evalOuts v l).map Value.bool).take j ++ [.bool (worth v (l.getD j 0))] = ((evalOuts v l).map Value.bool).take (j + 1) := by
  refine bools_snoc (by simpa [evalOuts] using hj) ?_
  simp [evalOuts, List.getD, hj]

set_option maxRecDepth 100000 in
set_option maxHeartbeats 4000000 in
theorem reval_any (n : Nat) (L : List (Int × Int)) (A : Option Addr) (m c : Nat) (B : Option Addr) (k d : Nat) (l : List Int) (Ai : Option Addr) (li ci : Nat) (inp : List Bool) (F F2 G : Nat → Prop) (w : World) (hm : L.length = m) (hl : l.length = k) (hli : inp.length = li) (hr : Right n L)
    (hn : n ≤ 2000) (hm4 : m ≤ 2000) (hk4 : k ≤ 2000) (hlits : ∀ x ∈ l, isL x (n + m) = true) (hs : Sl w F 2 (.slice A m c) m (pairs L)) (ho : Sl w F2 1 (.slice B k d) k (l.map (.int .i64))) (hi : Sl w G 1 (.slice Ai li ci) li (inp.map .bool)) :
    Calls Tryd.prog 47 #[cv n A m c B k d, .slice Ai li ci] w fun e w' => ∃ A' c', e = .returned (.slice A' k c') ∧ w'.ownsRow w.heap.size 4 1 (.slice A' k c') k ((evalOuts (nodes n L inp) l).map .bool) ∧ Frm (fun _ => False) w w' := by
  obtain ⟨i0, hi0, hz0, hz1, hz2⟩ := info_parts infoBoolG
  have hb0 : Blk (w.alloc (.cells #[.int .i64 n, .slice A m c, .slice B k d] 40)) w.heap.size 40 [.int .i64 n, .slice A m c, .slice B k d] := Blk.new _ _ _
  have hf0 := (Frm.refl (fun _ => False) w).alloc (.cells #[.int .i64 n, .slice A m c, .slice B k d] 40)
  have HNC := Lib.hid (rnodes_any n L A m c B k d Ai li ci inp F G (w.alloc (.cells #[.int .i64 n, .slice A m c, .slice B k d] 40)) hm hli hr hn hm4 (hs.frm hf0 (fun _ _ => id)) (hi.frm hf0 (fun _ _ => id)))
  have HL := Lib.hid hl
  clear hm hl hli hr
  have b00 := hb0.at_ 0 rfl
  have b01 := hb0.at_ 1 rfl
  have b02 := hb0.at_ 2 rfl
  go_enter Tryd.func47, Tryd.ntmps47
  go_wp2_with fail
  refine HNC.out.mono ?_
  rintro e w1 ⟨A1, c1, rfl, hown1, hf1⟩
  have hb1 := hb0.frm hf1 id
  have hf01 := hf0.trans hf1
  have hV := own_sl hown1
  have hvl : (nodes n L inp).length = n + 1 + m := by have := hown1.1; simpa using this
  have hsz1 : w.heap.size ≤ w1.heap.size := hf01.size
  clear b00 b01 b02 hb0 hf0 hf1 hown1
  generalize hVe : nodes n L inp = V at *
  have HVE := Lib.hid hVe
  clear hVe
  go_wp2_with fail
  go_loopw [6, 7] (fun t i wr => ∃ (j : Nat) (A' : Option Addr) (c' : Nat), j ≤ k ∧ i = .int .i64 j ∧ t = .slice A' j c' ∧ wr.ownsRow w1.heap.size 4 1 (.slice A' j c') j (((evalOuts V l).map .bool).take j) ∧ Frm (fun _ => False) w1 wr) (fun _ i _ => k - (intOf i).toNat)
  case atStart => exact ⟨0, _, 0, by omega, rfl, rfl, by simpa using World.ownsRow_nil _ _ _ _, Frm.refl _ _⟩
  case round =>
    obtain ⟨j, A', c', hj, rfl, rfl, hown, hfk⟩ := hrel
    have hb := hb1.frm hfk id
    have b2 := hb.at_ 2 rfl
    by_cases hlt : j < k
    · have hlt2 : j < l.length := by rw [HL.out]; exact hlt
      obtain ⟨b, o, u, rfl, _, hu, hcell⟩ := (ho.frm (hf01.trans hfk) (fun _ _ => id)).at_ hlt
      obtain rfl := at_getD hu
      clear hu
      have HG := Lib.hid (outs_take V l hlt2)
      have hx := isL_iff.1 (hlits (l.getD j 0) (by simp [List.getD, hlt2]))
      generalize l.getD j 0 = x at *
      have j0 : (0 : Int) ≤ j := by omega
      have j1 : (j : Int) < k := by omega
      have HW := Lib.hid (worth_any A1 (n + 1 + m) c1 _ V x wr hvl hx.1 (by omega) (by omega) (hV.frm hfk (fun _ _ => id)))
      go_wp2_with fail
      refine HW.out.mono ?_
      rintro e w' ⟨rfl, n1, rfl⟩
      generalize worth V x = z at *
      go_wp2_with (at_builtin; refine wpList_append_own _ rfl (.tmp 18) (.tmp 26) 54 rfl w1.heap.size 4 i0 (.bool false) 1 1 Tryd.underlying54 hi0 hz0 hz1 hz2 rfl (by decide) _ _ _ rfl ((own_frm hown ((Frm.refl (fun _ => False) wr).drewN n1) (fun _ _ => id)).alloc (.cells #[.bool z] 4)) ⟨wr.heap.size, 0, none⟩ 1 1 [.bool z] rfl rfl (cell_one_new _ _ _) ?c2 ?c3 ?c4 ?c5 ?_)
      case c2 => first | (intro u hu; simp at hu; subst hu; rfl) | rfl
      case c3 => unfold maxLen; omega
      case c4 => omega
      case c5 => have := hfk.size; simp; omega
      intro v' w2 hown2 hgrow _
      rw [HG.out] at hown2
      obtain ⟨A2, c2, rfl, _⟩ := (Sl.of_own hown2).form
      have hfk2 : Frm (fun _ => False) w1 w2 := ((hfk.drewN n1).alloc (.cells #[.bool z] 4)).grown hgrow (fun g hg hlt => by have := (hown.lt g hg).1; omega)
      clear hgrow hown hb hfk b2 hcell HW
      go_wp2_with fail
      go_roundw
      case rel => exact ⟨j + 1, A2, c2, by omega, by go_num, rfl, hown2, hfk2⟩
      case measure => simp [intOf]; omega
    · obtain rfl : k = j := by omega
      rw [List.take_of_length_le (by simp [evalOuts, HL.out])] at hown
      have hown2 := own_mono hown hsz1
      clear hown
      rw [← HVE.out] at hown2
      go_wp2_with fail
      go_ret
      exact ⟨A', c', rfl, hown2, hf01.trans hfk⟩

/-- of a circuit's value -/
theorem reval_isC {F G : Nat → Prop} {v : Value} {n : Nat} {L : List (Int × Int)} {l : List Int} {w : World} (hC : IsC w F v n L l) (Ai : Option Addr) (li ci : Nat) (inp : List Bool) (hli : inp.length = li) (hr : Right n L)
    (hn : n ≤ 2000) (hm4 : L.length ≤ 2000) (hk4 : l.length ≤ 2000) (hlits : ∀ x ∈ l, isL x (n + L.length) = true) (hi : Sl w G 1 (.slice Ai li ci) li (inp.map .bool)) :
    Calls Tryd.prog 47 #[v, .slice Ai li ci] w fun e w' => ∃ A' c', e = .returned (.slice A' l.length c') ∧ w'.ownsRow w.heap.size 4 1 (.slice A' l.length c') l.length ((evalOuts (nodes n L inp) l).map .bool) ∧ Frm (fun _ => False) w w' := by
  obtain ⟨A, c, B, d, rfl, h1, h2⟩ := hC
  exact reval_any n L A L.length c B l.length d l Ai li ci inp F F G w rfl rfl hli hr hn hm4 hk4 hlits h1 h2 hi
theorem rnodes_isC {F G : Nat → Prop} {v : Value} {n : Nat} {L : List (Int × Int)} {l : List Int} {w : World} (hC : IsC w F v n L l) (Ai : Option Addr) (li ci : Nat) (inp : List Bool) (hli : inp.length = li) (hr : Right n L)
    (hn : n ≤ 2000) (hm4 : L.length ≤ 2000) (hi : Sl w G 1 (.slice Ai li ci) li (inp.map .bool)) :
    Calls Tryd.prog 48 #[v, .slice Ai li ci] w fun e w' => ∃ A' c', e = .returned (.slice A' (n + 1 + L.length) c') ∧ w'.ownsRow w.heap.size 4 1 (.slice A' (n + 1 + L.length) c') (n + 1 + L.length) ((nodes n L inp).map .bool) ∧ Frm (fun _ => False) w w' := by
  obtain ⟨A, c, B, d, rfl, h1, h2⟩ := hC
  exact rnodes_any n L A L.length c B l.length d Ai li ci inp F G w rfl hli hr hn hm4 h1 hi

set_option maxRecDepth 100000 in
set_option maxHeartbeats 4000000 in
theorem values_any (x : Int) (many : Nat) (hm : many ≤ 2000) (w : World) :
    Calls Tryd.prog 46 #[.int .i64 x, .int .i64 many] w fun e w' => ∃ A c, e = .returned (.slice A many c) ∧ w'.ownsRow w.heap.size 4 1 (.slice A many c) many ((mkVals x many).map .bool) ∧ Frm (fun _ => False) w w' := by
  obtain ⟨i0, hi0, hz0, hz1, hz2⟩ := info_parts infoBoolG
  go_enter Tryd.func46, Tryd.ntmps46
  go_wp2_with fail
  go_loopw [5, 6] (fun t i wr => ∃ (j : Nat) (A' : Option Addr) (c' : Nat), j ≤ many ∧ i = .int .i64 j ∧ t = .slice A' j c' ∧ wr.ownsRow w.heap.size 4 1 (.slice A' j c') j (((mkVals x many).map .bool).take j) ∧ Frm (fun _ => False) w wr) (fun _ i _ => many - (intOf i).toNat)
  case atStart => exact ⟨0, _, 0, by omega, rfl, rfl, by simpa using World.ownsRow_nil _ _ _ _, Frm.refl _ _⟩
  case round =>
    obtain ⟨j, A', c', hj, rfl, rfl, hown, hfk⟩ := hrel
    by_cases hlt : j < many
    · have j0 : (0 : Int) ≤ j := by omega
      have j1 : (j : Int) < many := by omega
      have hvb : vbit x j = (bits BinOp.and IntKind.i64 (x / 2 ^ (j % 60)) 1 == 1) := rfl
      have hg : ((mkVals x many).map Value.bool).take j ++ [.bool (vbit x j)] = ((mkVals x many).map Value.bool).take (j + 1) := by
        refine bools_snoc (by rw [mkVals_length]; exact hlt) ?_
        simp [mkVals, List.getD, hlt]
      have HG := Lib.hid hg
      clear hg
      rw [hvb] at HG
      clear hvb
      go_wp2_with (at_builtin; refine wpList_append_own _ rfl (.tmp 12) (.tmp 20) 54 rfl w.heap.size 4 i0 (.bool false) 1 1 Tryd.underlying54 hi0 hz0 hz1 hz2 rfl (by decide) _ _ _ rfl (hown.alloc (.cells #[.bool (bits BinOp.and IntKind.i64 (x / 2 ^ (j % 60)) 1 == 1)] 4)) ⟨wr.heap.size, 0, none⟩ 1 1 [.bool (bits BinOp.and IntKind.i64 (x / 2 ^ (j % 60)) 1 == 1)] rfl rfl (cell_one_new _ _ _) ?c2 ?c3 ?c4 ?c5 ?_)
      case c2 => first | (intro u hu; simp at hu; subst hu; rfl) | rfl
      case c3 => unfold maxLen; omega
      case c4 => omega
      case c5 => have := hfk.size; simp; omega
      intro v' w2 hown2 hgrow _
      rw [HG.out] at hown2
      obtain ⟨A2, c2, rfl, _⟩ := (Sl.of_own hown2).form
      have hfk2 : Frm (fun _ => False) w w2 := (hfk.alloc (.cells #[.bool (bits BinOp.and IntKind.i64 (x / 2 ^ (j % 60)) 1 == 1)] 4)).grown hgrow (fun g hg hlt => by have := (hown.lt g hg).1; omega)
      clear hgrow hown hfk
      go_wp2_with fail
      go_roundw
      case rel => exact ⟨j + 1, A2, c2, by omega, by go_num, rfl, hown2, hfk2⟩
      case measure => simp [intOf]; omega
    · obtain rfl : many = j := by omega
      rw [List.take_of_length_le (by simp [mkVals])] at hown
      go_wp2_with fail
      go_ret
      exact ⟨A', c', rfl, hown, hfk⟩

end Go.Proofs.YtkjlgamggkencaaDoor
