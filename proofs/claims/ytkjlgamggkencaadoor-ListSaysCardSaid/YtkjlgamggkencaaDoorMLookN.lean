/-
  The contracts of look.worth, Nodes, Eval.
-/
import Derived.Test.YtkjlgamggkencaaDoorMRow
import Derived.Test.YtkjlgamggkencaaDoorMEvalC
import Derived.Test.YtkjlgamggkencaaDoorMCheck
namespace Go.Proofs.YtkjlgamggkencaaDoor
open Go.RowKit

set_option maxRecDepth 100000 in
set_option maxHeartbeats 1000000 in
theorem lworth_any (A : Option Addr) (n c : Nat) (F : Nat → Prop) (vs : List Bool) (l : Int) (w : World) (hn : vs.length = n) (h0 : 0 ≤ l) (h1 : (l / 2).toNat < n) (hb : n ≤ 1000000) (hs : Sl w F 1 (.slice A n c) n (vs.map .bool)) :
    Calls Tryd.prog 125 #[.slice A n c, .int .i64 l] w fun e w' => e = .returned (.bool (worth vs l)) ∧ ∃ k, w.drewN k = w' := by
  obtain ⟨b, o, u, rfl, _, hu, hcell⟩ := hs.at_ h1
  obtain rfl := at_bool hu
  have hand := bits_and_one l h0 (by omega)
  have hval : worth vs l = (vs.getD (l / 2).toNat false != decide (l % 2 = 1)) := rfl
  have i0 : (0 : Int) ≤ l / 2 := by omega
  have i1 : l / 2 < (n : Int) := by omega
  have hd : l.tdiv 2 = l / 2 := by rw [Int.tdiv_eq_ediv_of_nonneg (by omega)]
  clear hu hs
  generalize vs.getD (l / 2).toNat false = x at *
  have HW := Lib.hid hval
  clear hval
  go_enter Tryd.func125, Tryd.ntmps125
  go_wp2_with fail
  go_ret
  refine ⟨ret_bool ?_, 0, rfl⟩
  rw [HW.out]
  rcases (show l % 2 = 0 ∨ l % 2 = 1 from by omega) with h | h <;> rw [h] <;> cases x <;> rfl

theorem cell_one_new' (w : World) (x : Value) (t : TypeId) (b : Nat) (hb : b = w.heap.size) : ∀ j u, [x][j]? = some u → (w.alloc (.cells #[x] t)).cell? ((⟨b, 0, none⟩ : Addr).add j) = some u := by
  subst hb; exact cell_one_new w x t

set_option maxRecDepth 100000 in
set_option maxHeartbeats 4000000 in
theorem lnodes_any (n : Nat) (L : List (Int × Int)) (A : Option Addr) (m c : Nat) (B : Option Addr) (k d : Nat) (l : List Int) (Ai : Option Addr) (li ci : Nat) (inp : List Bool) (F F2 G : Nat → Prop) (w : World) (hm : L.length = m) (hk : l.length = k) (hli : inp.length = li) (hr : Right n L)
    (hn : n ≤ 2000) (hm4 : m ≤ 2000) (hk4 : k ≤ 2000) (hli4 : li ≤ 1000000) (hl : ∀ x ∈ l, isL x (n + m) = true) (hs : Sl w F 2 (.slice A m c) m (pairs L)) (ho : Sl w F2 1 (.slice B k d) k (l.map (.int .i64))) (hi : Sl w G 1 (.slice Ai li ci) li (inp.map .bool)) :
    Calls Tryd.prog 87 #[cv n A m c B k d, .slice Ai li ci] w fun e w' => ∃ A' c', e = .returned (.slice A' (n + 1 + m) c') ∧ w'.ownsRow w.heap.size 4 1 (.slice A' (n + 1 + m) c') (n + 1 + m) ((nodes n L inp).map .bool) ∧ Frm (fun _ => False) w w' := by
  obtain ⟨i0, hi0, hz0, hz1, hz2⟩ := info_parts infoBoolG
  have hck : ckCode n L l = 0 := ckCode_right hr (by omega) (by rw [hm]; exact hl)
  have hf0 := (Frm.refl (fun _ => False) w).alloc (.cells #[.int .i64 n, .slice A m c, .slice B k d] 40)
  have hb0 : Blk (w.alloc (.cells #[.int .i64 n, .slice A m c, .slice B k d] 40)) w.heap.size 40 [.int .i64 n, .slice A m c, .slice B k d] := Blk.new _ _ _
  have HCK := Lib.hid (check_any [102, 104] (fun _ => ⟨0, 0, none⟩) (by simp) (by simp) n A m c B k d L l F F2 (w.alloc (.cells #[.int .i64 n, .slice A m c, .slice B k d] 40)) hm hk (by omega) (by omega) (hs.frm hf0 (fun _ _ => id)) (ho.frm hf0 (fun _ _ => id)) (fun h => absurd hck h))
  rw [hck, PE_zero] at HCK
  have HM := Lib.hid hm
  have HLI := Lib.hid hli
  have HR := Lib.hid hr
  clear hm hk hli hr hl hck ho
  go_enter Tryd.func87, Tryd.ntmps87
  go_wp2_with fail
  refine HCK.out.mono ?_
  rintro e w1 ⟨rfl, hf1⟩
  have hb1 := hb0.frm hf1 id
  have hfw1 := hf0.trans hf1
  have b0 := hb1.at_ 0 rfl
  have b1 := hb1.at_ 1 rfl
  have wa : IntKind.i64.wrap (1 + (n : Int)) = ((n + 1 : Nat) : Int) := by rw [IntWalk.i64_in _ (by omega)]; omega
  have wb : IntKind.i64.wrap (1 + (n : Int) + m) = ((n + 1 + m : Nat) : Int) := by rw [IntWalk.i64_in _ (by omega)]; omega
  clear HCK hb0 hf0 hf1
  go_wp2_with (refine wpList_make_z _ rfl _ _ 54 rfl 4 i0 (.bool false) Tryd.underlying54 hi0 hz0 hz1 rfl .i64 .i64 (n + 1) (n + 1 + m) ?ca ?cb (by omega) (by rw [hz2]; omega) (by omega) ?_)
  case ca => go_simp
  case cb => go_simp
  intro w2 hb2 hf2
  have hcopy : ((inp.take n).map Value.bool).length = Nat.min li n := by simp [HLI.out, Nat.min_comm]
  have hsi2 := hi.frm (hfw1.trans hf2) (fun _ _ => id)
  have hb1' := hb1.frm hf2 id
  have hlt2 := hb2.lt
  have hne := hb1.lt
  have hsp := splice_head (n + 1 + m) n inp (by omega)
  have HSP := Lib.hid hsp
  have hsll : (splice (List.replicate (n + 1 + m) (Value.bool false)) 1 ((inp.take n).map .bool)).length = n + 1 + m := by rw [length_splice _ _ _ (by simp; omega)]; simp
  have HSL := Lib.hid hsll
  have HCP := Lib.hid hcopy
  have hcl : ((inp.take n).map Value.bool).length ≤ n := by simp; omega
  have hcl2 : ((inp.take n).map Value.bool).length ≤ li := by rw [hcopy]; exact Nat.min_le_left _ _
  obtain ⟨cs, hcs⟩ : ∃ cs, cs = (inp.take n).map Value.bool := ⟨_, rfl⟩
  have hcat : ∀ (i : Nat) (u : Value), cs[i]? = some u → (inp.map Value.bool)[i]? = some u := by
    intro i u hu
    rw [hcs, List.map_take, List.getElem?_take] at hu
    split at hu
    · exact hu
    · cases hu
  have hcone : ∀ u ∈ cs, u.oneCell' = true := by intro u hu; rw [hcs] at hu; obtain ⟨x, _, rfl⟩ := List.mem_map.1 hu; rfl
  rw [← hcs] at HSP HSL HCP hcl hcl2
  have HCA := Lib.hid hcat
  have hrl : (List.replicate (n + 1 + m) (Value.bool false)).length = n + 1 + m := by simp
  generalize List.replicate (n + 1 + m) (Value.bool false) = R0 at *
  have HRL := Lib.hid hrl
  clear hrl
  clear hsp hsll hcopy hcs hcat b0 b1
  rcases Classical.em (n + 1 + m = 1) with hcap | hcap
  all_goals
    go_wp2_with (refine wpList_copy_splice rfl (.tmp 23) (.tmp 24) 54 54 rfl 4 Tryd.underlying54 (by rw [hi0]; simp [hz1]) _ _ _ _ _ _ rfl rfl w1.heap.size 1 R0 4 hb2 cs HCP.out ?_ ?_ hcone w1.heap.size w2 (Below.refl _ _) (Nat.le_refl _) ?_)
    · intro hpos
      first
      | (exfalso; clear HCA HSP HSL HCP HM HLI HR; omega)
      | (obtain ⟨bb, oo, uu, rfl, _⟩ := hsi2.at_ (k := 0) (by omega)
         exact ⟨_, rfl, fun j u hu => hsi2.src j u (HCA.out j u hu)⟩)
    · have := HRL.out; omega
    intro w3 HG3 hB3
    have hb3 : Blk w3 w1.heap.size 4 (splice R0 1 cs) := HG3.out
    have hf3 : Frm (fun _ => False) w w3 := (hfw1.trans hf2).then' (Frm.of_below' (S := fun k => w1.heap.size ≤ k) hB3 (fun k _ hk => by omega)) (fun k hk h => by have := hfw1.size; omega)
    have hb13 := hb1'.frm (Frm.of_below' (S := fun k => w1.heap.size ≤ k) hB3 (fun k _ hk => by omega)) (by omega)
    have hown0 := own_of_blk (base := w.heap.size + 1) hb3 (n + 1) (n + 1 + m) (by omega) HSL.out (by unfold maxLen; omega) (by omega)
    rw [HSP.out] at hown0
    try rw [hcap] at hown0
    have hvs : (false :: (List.range n).map fun i => inp.getD i false).map Value.bool = (more (valsN n inp) (L.take 0)).map .bool := rfl
    rw [hvs] at hown0
    clear hcap hvs HSP HSL HCP HCA HRL hcone hcl hcl2 hsi2 hb3 HG3 hB3 hb2 hb1 hb1' hf2 hfw1 hlt2 hne
    have b1 := hb13.at_ 1 rfl
    go_wp2_with fail
    go_loopw [5, 29] (fun t i wr => ∃ (j : Nat) (A' : Option Addr) (c' : Nat), j ≤ m ∧ i = .int .i64 j ∧ t = .slice A' (n + 1 + j) c' ∧ Blk wr w.heap.size 40 [.int .i64 n, .slice A m c, .slice B k d] ∧ wr.ownsRow (w.heap.size + 1) 4 1 (.slice A' (n + 1 + j) c') (n + 1 + j) ((more (valsN n inp) (L.take j)).map .bool) ∧ Frm (fun _ => False) w wr) (fun _ i _ => m - (intOf i).toNat)
    case atStart => exact ⟨0, _, _, by omega, rfl, rfl, hb13, hown0, hf3⟩
    case round =>
      clear hb13 hown0 hf3 b1
      obtain ⟨j, A', c', hj, rfl, rfl, hb, hown, hfk⟩ := hrel
      by_cases hlt : j < m
      · have hlt2 : j < L.length := by rw [HM.out]; exact hlt
        obtain ⟨b, o, rfl, _, q1, q2⟩ := sl_pair (hs.frm hfk (fun _ _ => id)) hlt
        rw [← Nat.add_assoc] at q2
        have hmt := more_take (valsN n inp) L hlt2
        have hrp := HR.out j (L.getD j (0, 0)) (by simp [List.getD, hlt2])
        have hvl : (more (valsN n inp) (L.take j)).length = n + 1 + j := by rw [more_length, valsN_length]; simp; omega
        generalize L.getD j (0, 0) = p at *
        obtain ⟨x, y⟩ := p
        simp only at q1 q2 hmt hrp
        have j0 : (0 : Int) ≤ j := by omega
        have j1 : (j : Int) < m := by omega
        have HW := Lib.hid (fun (l : Int) (W : World) (h0 : 0 ≤ l) (h1 : (l / 2).toNat < n + 1 + j) (hf : Frm (fun _ => False) wr W) => lworth_any A' (n + 1 + j) c' _ _ l W hvl h0 h1 (by omega) ((own_sl hown).frm hf (fun _ _ => id)))
        have HMT := Lib.hid hmt
        clear hmt hvl
        generalize more (valsN n inp) (L.take j) = V at *
        have hal := (Frm.refl (fun _ => False) wr).alloc (.cells #[.int .i64 x, .int .i64 y] 73)
        have hbp : Blk (wr.alloc (.cells #[.int .i64 x, .int .i64 y] 73)) wr.heap.size 73 [.int .i64 x, .int .i64 y] := Blk.new _ _ _
        have p0 := hbp.at_ 0 rfl
        have p1 := hbp.at_ 1 rfl
        by_cases hv : worth V x = true
        · go_wp2_with fail
          refine (HW.out x _ (by omega) (by omega) hal).mono ?_
          rw [hv]
          rintro e w' ⟨rfl, n1, rfl⟩
          have p1' : ((wr.alloc (.cells #[.int .i64 x, .int .i64 y] 73)).drewN n1).cell? ⟨wr.heap.size, 1, none⟩ = some (.int .i64 y) := p1
          go_wp2_with fail
          refine (HW.out y _ (by omega) (by omega) (hal.drewN _)).mono ?_
          rintro e w' ⟨rfl, n2, rfl⟩
          have hmt := HMT.out
          rw [hv, Bool.true_and] at hmt
          generalize worth V y = z at *
          have HMT2 := Lib.hid hmt
          clear hmt p1'
          go_wp2_with (at_builtin; refine wpList_append_own _ rfl (.tmp 33) (.tmp 44) 54 rfl (w.heap.size + 1) 4 i0 (.bool false) 1 1 Tryd.underlying54 hi0 hz0 hz1 hz2 rfl (by decide) _ _ _ rfl ((own_frm hown (hal.drewN (n1 + n2)) (fun _ _ => id)).alloc (.cells #[.bool z] 4)) ⟨wr.heap.size + 1, 0, none⟩ 1 1 [.bool z] rfl rfl (cell_one_new' _ _ _ _ (by simp)) ?_ ?_ ?_ ?_ ?_)
          · first | (intro u hu; simp at hu; subst hu; rfl) | rfl
          · unfold maxLen; omega
          · omega
          · have := hb.lt; simp; omega
          intro v' w2 hown2 hgrow _
          have hm2 : (V.map Value.bool) ++ [.bool z] = ((more (valsN n inp) (L.take (j + 1))).map .bool) := by rw [HMT2.out]; simp
          rw [hm2] at hown2
          obtain ⟨A2, c2, rfl, _⟩ := (Sl.of_own hown2).form
          have hgr : Frm (fun g => w.heap.size + 1 ≤ g) wr w2 := ((hal.any.drewN (n1 + n2)).alloc (.cells #[.bool z] 4)).grown hgrow (fun g hg hlt => (hown.lt g hg).1)
          have hb2 := hb.frm hgr (by omega)
          have hfk2 := hfk.then' hgr (fun g hg h => by omega)
          clear hgrow hown hb hfk hgr q1 q2 HW hm2 p0 p1 hbp hal
          go_wp2_with fail
          go_roundw
          · exact ⟨j + 1, A2, c2, by omega, by go_num, rfl, hb2, hown2, hfk2⟩
          · simp [intOf]; omega
        · have hv : worth V x = false := by simpa using hv
          go_wp2_with fail
          refine (HW.out x _ (by omega) (by omega) hal).mono ?_
          rw [hv]
          rintro e w' ⟨rfl, n1, rfl⟩
          have hmt := HMT.out
          rw [hv, Bool.false_and] at hmt
          have HMT2 := Lib.hid hmt
          clear hmt
          go_wp2_with (at_builtin; refine wpList_append_own _ rfl (.tmp 33) (.tmp 44) 54 rfl (w.heap.size + 1) 4 i0 (.bool false) 1 1 Tryd.underlying54 hi0 hz0 hz1 hz2 rfl (by decide) _ _ _ rfl ((own_frm hown (hal.drewN n1) (fun _ _ => id)).alloc (.cells #[.bool false] 4)) ⟨wr.heap.size + 1, 0, none⟩ 1 1 [.bool false] rfl rfl (cell_one_new' _ _ _ _ (by simp)) ?_ ?_ ?_ ?_ ?_)
          · first | (intro u hu; simp at hu; subst hu; rfl) | rfl
          · unfold maxLen; omega
          · omega
          · have := hb.lt; simp; omega
          intro v' w2 hown2 hgrow _
          have hm2 : (V.map Value.bool) ++ [.bool false] = ((more (valsN n inp) (L.take (j + 1))).map .bool) := by rw [HMT2.out]; simp
          rw [hm2] at hown2
          obtain ⟨A2, c2, rfl, _⟩ := (Sl.of_own hown2).form
          have hgr : Frm (fun g => w.heap.size + 1 ≤ g) wr w2 := ((hal.any.drewN n1).alloc (.cells #[.bool false] 4)).grown hgrow (fun g hg hlt => (hown.lt g hg).1)
          have hb2 := hb.frm hgr (by omega)
          have hfk2 := hfk.then' hgr (fun g hg h => by omega)
          clear hgrow hown hb hfk hgr q1 q2 HW hm2 p0 p1 hbp hal
          go_wp2_with fail
          go_roundw
          · exact ⟨j + 1, A2, c2, by omega, by go_num, rfl, hb2, hown2, hfk2⟩
          · simp [intOf]; omega
      · have hjm : m = j := by omega
        subst hjm
        have ht : L.take m = L := List.take_of_length_le (by rw [HM.out]; exact Nat.le_refl _)
        rw [ht] at hown
        have hown2 := own_mono hown (show w.heap.size ≤ w.heap.size + 1 by omega)
        clear hown ht
        go_wp2_with fail
        go_ret
        exact ⟨A', c', rfl, hown2, hfk⟩

end Go.Proofs.YtkjlgamggkencaaDoor
