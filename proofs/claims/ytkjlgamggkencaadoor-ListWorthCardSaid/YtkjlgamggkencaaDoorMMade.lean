/-
  SameBools of what is the same; Made of what a graph made.
-/
import Derived.Test.YtkjlgamggkencaaDoorMGBuild
namespace Go.Proofs.YtkjlgamggkencaaDoor
open Go.RowKit

set_option maxRecDepth 100000 in
set_option maxHeartbeats 2000000 in
theorem sameBools_eq (A B : Option Addr) (n c d : Nat) (F G : Nat → Prop) (l : List Bool) (w : World) (hn : l.length = n) (hb : n ≤ 1000000) (h1 : Sl w F 1 (.slice A n c) n (l.map .bool)) (h2 : Sl w G 1 (.slice B n d) n (l.map .bool)) :
    Calls Tryd.prog 68 #[.slice A n c, .slice B n d] w fun e w' => e = .returned (.bool true) ∧ ∃ k, w.drewN k = w' := by
  have HN := Lib.hid hn
  clear hn
  go_enter Tryd.func68, Tryd.ntmps68
  go_wp2_with fail
  go_loopw [5] (fun i wr => ∃ (k j : Nat), k ≤ n ∧ i = .int .i64 k ∧ wr = w.drewN j) (fun i _ => n - (intOf i).toNat)
  case atStart => exact ⟨0, 0, by omega, rfl, rfl⟩
  case round =>
    obtain ⟨k, j, hk, rfl, rfl⟩ := hrel
    by_cases hlt : k < n
    · obtain ⟨b, o, u, rfl, _, hu, hcell⟩ := h1.at_ hlt
      obtain rfl := at_bool hu
      obtain ⟨b', o', u', rfl, _, hu', hcell'⟩ := h2.at_ hlt
      obtain rfl := at_bool hu'
      clear hu hu'
      have hk0 : (0 : Int) ≤ k := by omega
      have hk1 : (k : Int) < n := by omega
      generalize l.getD k false = x at *
      go_wp2_with fail
      go_quiet (fail)
      go_wp2_with fail
      go_roundw
      case rel => exact ⟨k + 1, _, by omega, by go_num, rfl⟩
      case measure => simp [intOf]; omega
    · go_wp2_with fail
      go_ret
      exact ⟨rfl, _, rfl⟩

theorem asL_range (x : Int) (N : Nat) (h0 : 0 ≤ x) (h1 : x ≤ 2 * (N : Int) + 1) : asL ((List.range (N + 1)).map fun (i : Nat) => 2 * (i : Int)) x = x := by
  have : ((List.range (N + 1)).map fun (i : Nat) => 2 * (i : Int)).getD (x / 2).toNat 0 = 2 * (x / 2) := by
    rw [List.getD, List.getElem?_map, List.getElem?_range (by omega)]
    simp; omega
  unfold asL
  rw [this]
  unfold notL
  split
  · rw [if_pos (by omega)]; omega
  · omega
theorem made_outs {n : Nat} {L : List (Int × Int)} {l : List Int} (hl : ∀ x ∈ l, isL x (n + L.length) = true) : l.map (asL ((List.range (n + 1 + L.length)).map fun (i : Nat) => 2 * (i : Int))) = l := by
  rw [show n + 1 + L.length = (n + L.length) + 1 from by omega]
  have : ∀ x ∈ l, asL ((List.range ((n + L.length) + 1)).map fun (i : Nat) => 2 * (i : Int)) x = x := fun x hx => by
    have := isL_iff.1 (hl x hx)
    exact asL_range x _ this.1 this.2
  exact (List.map_congr_left this).trans (List.map_id l)

theorem isC_mk (n : Int) (A : Option Addr) (m c : Nat) (B : Option Addr) (k d : Nat) (L : List (Int × Int)) (l : List Int) (F G : Nat → Prop) (w : World) (hm : L.length = m) (hk : l.length = k) (hs : Sl w F 2 (.slice A m c) m (pairs L)) (ho : Sl w G 1 (.slice B k d) k (l.map (.int .i64))) :
    IsC w (fun g => F g ∨ G g) (cv n A m c B k d) n L l := by
  subst hm
  subst hk
  exact ⟨A, c, B, d, rfl, hs.mono (fun _ _ h => .inl h), ho.mono (fun _ _ h => .inr h)⟩

set_option maxRecDepth 100000 in
set_option maxHeartbeats 2000000 in
theorem made_any (n : Nat) (A : Option Addr) (m c : Nat) (B : Option Addr) (k d : Nat) (L : List (Int × Int)) (l : List Int) (F G : Nat → Prop) (w : World) (hm : L.length = m) (hk : l.length = k)
    (hnm : n + m ≤ 4000) (hk4 : k ≤ 4000) (hmd : Made n L) (hlits : ∀ x ∈ l, isL x (n + m) = true) (hs : Sl w F 2 (.slice A m c) m (pairs L)) (ho : Sl w G 1 (.slice B k d) k (l.map (.int .i64))) :
    Calls Tryd.prog 69 #[cv n A m c B k d] w fun e w' => e = .returned (.bool true) ∧ Frm (fun _ => False) w w' := by
  have hcode : ckCode n L l = 0 := ckCode_right hmd.right (by omega) (by rw [hm]; exact hlits)
  have hbm := bld_made hmd (by omega)
  have houts := made_outs (n := n) (L := L) (l := l) (by rw [hm]; exact hlits)
  have hf0 := (Frm.refl (fun _ => False) w).alloc (.cells #[.int .i64 n, .slice A m c, .slice B k d] 40)
  have hb0 : Blk (w.alloc (.cells #[.int .i64 n, .slice A m c, .slice B k d] 40)) w.heap.size 40 [.int .i64 n, .slice A m c, .slice B k d] := Blk.new _ _ _
  have b00 := hb0.at_ 0 rfl
  have b01 := hb0.at_ 1 rfl
  have b02 := hb0.at_ 2 rfl
  have hs0 := hs.frm hf0 (fun _ _ => id)
  have ho0 := ho.frm hf0 (fun _ _ => id)
  have HC := Lib.hid (rcheck_any n A m c B k d L l F G _ hm hk (by omega) (by omega) hs0 ho0)
  rw [hcode] at HC
  have HB := Lib.hid (fun W (hf : Frm (fun _ => False) (w.alloc (.cells #[.int .i64 n, .slice A m c, .slice B k d] 40)) W) => rbuild_any n A m c B k d L l F G W hm hk hnm hk4 hmd.right hlits (hs0.frm hf (fun _ _ => id)) (ho0.frm hf (fun _ _ => id)))
  rw [hbm] at HB
  simp only [houts] at HB
  have HM := Lib.hid hm
  have HK := Lib.hid hk
  have HS0 := Lib.hid hs0
  have HO0 := Lib.hid ho0
  clear hcode hbm houts hm hk hs ho hs0 ho0
  go_enter Tryd.func69, Tryd.ntmps69
  go_wp2_with fail
  refine HC.out.mono ?_
  rintro e w1 ⟨rfl, hf1⟩
  have hb1 := hb0.frm hf1 id
  have b10 := hb1.at_ 0 rfl
  have b11 := hb1.at_ 1 rfl
  have b12 := hb1.at_ 2 rfl
  clear b00 b01 b02
  go_wp2_with fail
  refine (HB.out _ hf1).mono ?_
  rintro e w2 ⟨gx, xp, O, q, rfl, hX, hxp, hO, hf2⟩
  have hf02 := (hf0.trans hf1).trans hf2
  have hf12 := hf1.trans hf2
  have hb2 := hb1.frm hf2 id
  have c0 := hb2.at_ 0 rfl
  have c1 := hb2.at_ 1 rfl
  have c2 := hb2.at_ 2 rfl
  clear b10 b11 b12 hb0 hb1 hf0 hf1 hf2
  have HXC := Lib.hid (xcircuit_any xp gx ⟨n, L, 0⟩ w2.drew (hX.drewN 1) O k q _ l HK.out (by omega) (hO.drewN 1))
  go_wp2_with fail
  have hH0 : w2.drew.cell? ⟨w.heap.size, 0, none⟩ = some (.int .i64 (n : Int)) ∧ w2.drew.cell? ⟨w.heap.size, 1, none⟩ = some (.slice A m c) ∧ w2.drew.cell? ⟨w.heap.size, 2, none⟩ = some (.slice B k d) := ⟨c0, c1, c2⟩
  have hHeld := hH0
  refine Held.begin (fun w' => w'.cell? ⟨w.heap.size, 0, none⟩ = some (.int .i64 (n : Int)) ∧ w'.cell? ⟨w.heap.size, 1, none⟩ = some (.slice A m c) ∧ w'.cell? ⟨w.heap.size, 2, none⟩ = some (.slice B k d)) 6 (by kernel_rfl) ?_
  refine Held.take (i := 0) (oi := ?oa0) (v := ?va0) ?hia0 (by kernel_rfl) (by kernel_rfl) (by kernel_rfl) (by kernel_rfl) (fun _ _ _ h => h) (Or.inl ⟨?hwa0, ?hya0⟩) (by assumption) ?resta0
  case hia0 => (simp only [List.getElem?_toArray, List.getElem?_cons_zero]; rfl)
  case hwa0 => rfl
  case hya0 => (intro w hSw; (try dsimp only at hSw); go_simp; try with_reducible rfl)
  (try simp only [Act.put, List.setIfInBounds_toArray, List.set_cons_zero, List.set_cons_succ])
  refine Held.take (i := 1) (oi := ?oa1) (v := ?va1) ?hia1 (by kernel_rfl) (by kernel_rfl) (by kernel_rfl) (by kernel_rfl) (fun _ _ _ h => h) (Or.inl ⟨?hwa1, ?hya1⟩) (by assumption) ?resta1
  case hia1 => (simp only [List.getElem?_toArray, List.getElem?_cons_succ, List.getElem?_cons_zero]; rfl)
  case hwa1 => rfl
  case hya1 => (intro w hSw; (try dsimp only at hSw); go_simp; try with_reducible rfl)
  (try simp only [Act.put, List.setIfInBounds_toArray, List.set_cons_zero, List.set_cons_succ])
  refine Held.take (i := 3) (oi := ?oa3) (v := ?va3) ?hia3 (by kernel_rfl) (by kernel_rfl) (by kernel_rfl) (by kernel_rfl) (fun _ _ _ h => h) (Or.inl ⟨?hwa3, ?hya3⟩) (by assumption) ?resta3
  case hia3 => (simp only [List.getElem?_toArray, List.getElem?_cons_succ, List.getElem?_cons_zero]; rfl)
  case hwa3 => rfl
  case hya3 => (intro w hSw; (try dsimp only at hSw); go_simp; try with_reducible rfl)
  (try simp only [Act.put, List.setIfInBounds_toArray, List.set_cons_zero, List.set_cons_succ])
  refine Held.next (i := 2) (o := ?oa2) (by kernel_rfl) ?hia2 (fun K hK => ?sta2)
  case hia2 => (simp only [List.getElem?_toArray, List.getElem?_cons_succ, List.getElem?_cons_zero]; rfl)
  go_simp
  (go_at_call 39; refine HXC.out.mono ?_; rintro e w3 ⟨v, rfl, hC, hf3⟩)
  (try go_wp2_with fail)
  refine hK.out _ _ (fun _ => by exact ⟨hf3.cell hHeld.1 id, hf3.cell hHeld.2.1 id, hf3.cell hHeld.2.2 id⟩) ?_
  clear hK K
  (try simp only [Act.put, List.setIfInBounds_toArray, List.set_cons_zero, List.set_cons_succ])
  have hH2 := And.intro (hf3.cell hHeld.1 id) (And.intro (hf3.cell hHeld.2.1 id) (hf3.cell hHeld.2.2 id))
  have hfa3 := (hf12.drewN 1).trans hf3
  have hCC := isC_mk n A m c B k d L l _ _ w3 HM.out HK.out (HS0.out.frm hfa3 (fun _ _ => id)) (HO0.out.frm hfa3 (fun _ _ => id))
  refine Held.next (i := 4) (o := ?oa4) (by kernel_rfl) ?hia4 (fun K hK => ?sta4)
  case hia4 => (simp only [List.getElem?_toArray, List.getElem?_cons_succ, List.getElem?_cons_zero]; rfl)
  go_simp
  (go_at_call 38; refine (sameCircuit_any (by rw [HM.out]; omega) (by rw [HK.out]; omega) hC hCC).mono ?_; rintro e w4 ⟨rfl, hf4⟩)
  (try go_wp2_with fail)
  refine hK.out _ _ (fun _ => by exact ⟨hf4.cell hH2.1 id, hf4.cell hH2.2.1 id, hf4.cell hH2.2.2 id⟩) ?_
  clear hK K
  (try simp only [Act.put, List.setIfInBounds_toArray, List.set_cons_zero, List.set_cons_succ])
  have hH3 := And.intro (hf4.cell hH2.1 id) (And.intro (hf4.cell hH2.2.1 id) (hf4.cell hH2.2.2 id))
  refine Held.take (i := 5) (oi := ?oa5) (v := ?va5) ?hia5 (by kernel_rfl) (by kernel_rfl) (by kernel_rfl) (by kernel_rfl) (fun _ _ _ h => h) (Or.inl ⟨?hwa5, ?hya5⟩) (by assumption) ?resta5
  case hia5 => (simp only [List.getElem?_toArray, List.getElem?_cons_succ, List.getElem?_cons_zero]; rfl)
  case hwa5 => rfl
  case hya5 => (intro w hSw; (try dsimp only at hSw); go_simp; try with_reducible rfl)
  (try simp only [Act.put, List.setIfInBounds_toArray, List.set_cons_zero, List.set_cons_succ])
  refine Held.done (by kernel_rfl) ?_ _
  refine NoPanic.normal ?_
  go_wp2_with fail
  go_ret
  exact ⟨rfl, ((hf02.drewN 1).trans hf3).trans hf4⟩

end Go.Proofs.YtkjlgamggkencaaDoor
