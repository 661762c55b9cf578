/-
  The contract of look.Eval.
-/
import Derived.Test.YtkjlgamggkencaaDoorMLookN
namespace Go.Proofs.YtkjlgamggkencaaDoor
open Go.RowKit

set_option maxRecDepth 100000 in
set_option maxHeartbeats 4000000 in
theorem leval_any (n : Nat) (L : List (Int × Int)) (A : Option Addr) (m c : Nat) (B : Option Addr) (k d : Nat) (l : List Int) (Ai : Option Addr) (li ci : Nat) (inp : List Bool) (F F2 G : Nat → Prop) (w : World) (hm : L.length = m) (hl : l.length = k) (hli : inp.length = li) (hr : Right n L)
    (hn : n ≤ 2000) (hm4 : m ≤ 2000) (hk4 : k ≤ 2000) (hli4 : li ≤ 1000000) (hlits : ∀ x ∈ l, isL x (n + m) = true) (hs : Sl w F 2 (.slice A m c) m (pairs L)) (ho : Sl w F2 1 (.slice B k d) k (l.map (.int .i64))) (hi : Sl w G 1 (.slice Ai li ci) li (inp.map .bool)) :
    Calls Tryd.prog 77 #[cv n A m c B k d, .slice Ai li ci] w fun e w' => ∃ A' c', e = .returned (.slice A' k c') ∧ w'.ownsRow w.heap.size 4 1 (.slice A' k c') k ((evalOuts (nodes n L inp) l).map .bool) ∧ Frm (fun _ => False) w w' := by
  obtain ⟨i0, hi0, hz0, hz1, hz2⟩ := info_parts infoBoolG
  have hb0 : Blk (w.alloc (.cells #[.int .i64 n, .slice A m c, .slice B k d] 40)) w.heap.size 40 [.int .i64 n, .slice A m c, .slice B k d] := Blk.new _ _ _
  have hf0 := (Frm.refl (fun _ => False) w).alloc (.cells #[.int .i64 n, .slice A m c, .slice B k d] 40)
  have HNC := Lib.hid (lnodes_any n L A m c B k d l Ai li ci inp F F2 G (w.alloc (.cells #[.int .i64 n, .slice A m c, .slice B k d] 40)) hm hl hli hr hn hm4 hk4 hli4 hlits (hs.frm hf0 (fun _ _ => id)) (ho.frm hf0 (fun _ _ => id)) (hi.frm hf0 (fun _ _ => id)))
  have HL := Lib.hid hl
  clear hm hl hli hr
  have b00 := hb0.at_ 0 rfl
  have b01 := hb0.at_ 1 rfl
  have b02 := hb0.at_ 2 rfl
  go_enter Tryd.func77, Tryd.ntmps77
  go_wp2_with fail
  refine HNC.out.mono ?_
  rintro e w1 ⟨A1, c1, rfl, hown1, hf1⟩
  have hb1 := hb0.frm hf1 id
  have hf01 := hf0.trans hf1
  have hV := own_sl hown1
  have hvl : (nodes n L inp).length = n + 1 + m := by have := hown1.1; simpa using this
  have hsz1 : w.heap.size ≤ w1.heap.size := hf01.size
  have b2 := hb1.at_ 2 rfl
  obtain ⟨bq, oq, uq, rfl, _⟩ := hV.at_ (k := 0) (by omega)
  clear b00 b01 b02 hb0 hf0 hf1 hown1
  generalize hVe : nodes n L inp = V at *
  have HVE := Lib.hid hVe
  clear hVe
  have he : ∀ W : World, (binOp .eql 54 (.slice (some ⟨bq, oq, none⟩) (n + 1 + m) c1) (.slice none 0 0)).run Tryd.prog W = .ok (.bool false) W := fun _ => rfl
  go_wp2_with fail
  clear he
  go_loopw [6, 17] (fun t i wr => ∃ (j : Nat) (A' : Option Addr) (c' : Nat), j ≤ k ∧ i = .int .i64 j ∧ t = .slice A' j c' ∧ wr.ownsRow w1.heap.size 4 1 (.slice A' j c') j (((evalOuts V l).map .bool).take j) ∧ Frm (fun _ => False) w1 wr) (fun _ i _ => k - (intOf i).toNat)
  case atStart => exact ⟨0, _, 0, by omega, rfl, rfl, by simpa using World.ownsRow_nil _ _ _ _, Frm.refl _ _⟩
  case round =>
    clear b2
    obtain ⟨j, A', c', hj, rfl, rfl, hown, hfk⟩ := hrel
    by_cases hlt : j < k
    · have hlt2 : j < l.length := by rw [HL.out]; exact hlt
      obtain ⟨b, o, u, rfl, _, hu, hcell⟩ := (ho.frm (hf01.trans hfk) (fun _ _ => id)).at_ hlt
      obtain rfl := at_getD hu
      clear hu
      have HG := Lib.hid (outs_take V l hlt2)
      have hx := isL_iff.1 (hlits (l.getD j 0) (by simp [List.getD, hlt2]))
      generalize l.getD j 0 = x at *
      have j0 : (0 : Int) ≤ j := by omega
      have j1 : (j : Int) < k := by omega
      have HW := Lib.hid (lworth_any (some ⟨bq, oq, none⟩) (n + 1 + m) c1 _ V x wr hvl hx.1 (by omega) (by omega) (hV.frm hfk (fun _ _ => id)))
      go_wp2_with fail
      refine HW.out.mono ?_
      rintro e w' ⟨rfl, n1, rfl⟩
      generalize worth V x = z at *
      go_wp2_with (at_builtin; refine wpList_append_own _ rfl (.tmp 21) (.tmp 25) 54 rfl w1.heap.size 4 i0 (.bool false) 1 1 Tryd.underlying54 hi0 hz0 hz1 hz2 rfl (by decide) _ _ _ rfl ((own_frm hown ((Frm.refl (fun _ => False) wr).drewN n1) (fun _ _ => id)).alloc (.cells #[.bool z] 4)) ⟨wr.heap.size, 0, none⟩ 1 1 [.bool z] rfl rfl (cell_one_new _ _ _) ?c2 ?c3 ?c4 ?c5 ?_)
      case c2 => first | (intro u hu; simp at hu; subst hu; rfl) | rfl
      case c3 => unfold maxLen; omega
      case c4 => omega
      case c5 => have := hfk.size; simp; omega
      intro v' w2 hown2 hgrow _
      rw [HG.out] at hown2
      obtain ⟨A2, c2, rfl, _⟩ := (Sl.of_own hown2).form
      have hfk2 : Frm (fun _ => False) w1 w2 := ((hfk.drewN n1).alloc (.cells #[.bool z] 4)).grown hgrow (fun g hg hlt => by have := (hown.lt g hg).1; omega)
      clear hgrow hown hfk hcell HW
      go_wp2_with fail
      go_roundw
      case rel => exact ⟨j + 1, A2, c2, by omega, by go_num, rfl, hown2, hfk2⟩
      case measure => simp [intOf]; omega
    · have hjk : k = j := by omega
      subst hjk
      rw [List.take_of_length_le (by simp [evalOuts, HL.out])] at hown
      have hown2 := own_mono hown hsz1
      clear hown
      rw [← HVE.out] at hown2
      go_wp2_with fail
      go_ret
      exact ⟨A', c', rfl, hown2, hf01.trans hfk⟩

end Go.Proofs.YtkjlgamggkencaaDoor
