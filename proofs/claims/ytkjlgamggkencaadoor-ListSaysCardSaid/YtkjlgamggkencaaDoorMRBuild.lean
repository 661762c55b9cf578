/-
  The contract of skolemref8.Build.
-/
import Derived.Test.YtkjlgamggkencaaDoorMRCheck
import Derived.Test.YtkjlgamggkencaaDoorMRefAll
import Derived.Test.YtkjlgamggkencaaDoorMRegion
import Derived.Test.YtkjlgamggkencaaDoorMEvalC
import Derived.Deep.AppendLies
namespace Go.Proofs.YtkjlgamggkencaaDoor
open Go.RowKit

theorem bits_xor_zero (l : Int) (h0 : 0 ≤ l) (h1 : l ≤ 4000000000000) : bits .xor .i64 l 0 = l := by
  obtain ⟨a, rfl⟩ := Int.eq_ofNat_of_zero_le h0
  have ha : a % 2 ^ IntKind.i64.bits = a := Nat.mod_eq_of_lt (by simp [IntKind.bits]; omega)
  have h1' : (0 : Int) = ((0 : Nat) : Int) := rfl
  unfold bits
  rw [h1']
  simp only [BitVec.ofInt_natCast, BitVec.toNat_xor, BitVec.toNat_ofNat, ha]
  rw [show (0 % 2 ^ IntKind.i64.bits) = 0 from by decide, Nat.xor_zero]
  have hp : (2 : Int) ^ 62 = 4611686018427387904 := by decide
  exact wrap_i64_small _ (by omega) (by omega)

set_option maxRecDepth 100000 in
set_option maxHeartbeats 1000000 in
theorem as_any (A : Option Addr) (n c : Nat) (F : Nat → Prop) (bys : List Int) (l : Int) (w : World) (hn : bys.length = n) (h0 : 0 ≤ l) (h1 : (l / 2).toNat < n) (hb : n ≤ 1000000) (hx : ∀ x ∈ bys, 0 ≤ x ∧ x ≤ 1000000) (hs : Sl w F 1 (.slice A n c) n (bys.map (.int .i64))) :
    Calls Tryd.prog 114 #[.slice A n c, .int .i64 l] w fun e w' => e = .returned (.int .i64 (asL bys l)) ∧ w = w' := by
  obtain ⟨b, o, u, rfl, _, hu, hcell⟩ := hs.at_ h1
  obtain rfl := at_getD hu
  have hand := bits_and_one l h0 (by omega)
  have hval : asL bys l = if l % 2 = 1 then notL (bys.getD (l / 2).toNat 0) else bys.getD (l / 2).toNat 0 := rfl
  have hxr := hx (bys.getD (l / 2).toNat 0) (by simp [List.getD, show (l / 2).toNat < bys.length by omega])
  have i0 : (0 : Int) ≤ l / 2 := by omega
  have i1 : l / 2 < (n : Int) := by omega
  clear hu hs hx
  generalize bys.getD (l / 2).toNat 0 = x at *
  have HW := Lib.hid hval
  clear hval
  rcases (show l % 2 = 0 ∨ l % 2 = 1 from by omega) with h | h
  · rw [h] at hand
    have hxz := bits_xor_zero x hxr.1 (by omega)
    go_enter Tryd.func114, Tryd.ntmps114
    go_wp2_with fail
    go_ret
    exact ⟨ret_int (by rw [HW.out, if_neg (by omega)]), rfl⟩
  · rw [h] at hand
    have hxz := bits_xor_one x hxr.1 (by omega)
    go_enter Tryd.func114, Tryd.ntmps114
    go_wp2_with fail
    go_ret
    exact ⟨ret_int (by rw [HW.out, if_pos h]), rfl⟩

theorem range2_take (n : Nat) {j : Nat} (hj : j < n) : ((List.range (n + 1)).map fun (i : Nat) => 2 * (i : Int)).take (j + 1) ++ [2 * ((j : Int) + 1)] = ((List.range (n + 1)).map fun (i : Nat) => 2 * (i : Int)).take (j + 2) := by
  rw [List.take_succ_eq_append_getElem (show j + 1 < _ by simp; omega)]
  simp

theorem bld_take (n : Nat) (L : List (Int × Int)) {j : Nat} (hj : j < L.length) : bld n (L.take (j + 1)) = bldStep (bld n (L.take j)) (L.getD j (0, 0)) := by
  rw [List.take_succ_eq_append_getElem hj, bld_snoc]
  simp [List.getD, hj]
theorem Right.take {n : Nat} {L : List (Int × Int)} (h : Right n L) (j : Nat) : Right n (L.take j) := by
  have := List.take_append_drop j L
  rw [← this] at h
  exact h.front

set_option maxRecDepth 100000 in
set_option maxHeartbeats 4000000 in
theorem rbuild_any (n : Nat) (A : Option Addr) (m c : Nat) (B : Option Addr) (k d : Nat) (L : List (Int × Int)) (l : List Int) (F G : Nat → Prop) (w : World) (hm : L.length = m) (hk : l.length = k)
    (hnm : n + m ≤ 4000) (hk4 : k ≤ 4000) (hr : Right n L) (hlits : ∀ x ∈ l, isL x (n + m) = true) (hs : Sl w F 2 (.slice A m c) m (pairs L)) (ho : Sl w G 1 (.slice B k d) k (l.map (.int .i64))) :
    Calls Tryd.prog 50 #[cv n A m c B k d] w fun e w' => ∃ gx xp O q, e = .returned (.tuple #[.pointer (some ⟨gx, 0, none⟩), .slice O k q]) ∧ IsX w' xp gx (bld n L).1 ∧ (∀ g, xp g → w.heap.size ≤ g ∧ g < w'.heap.size) ∧
      Sl w' (fun g => w.heap.size ≤ g ∧ ¬ xp g) 1 (.slice O k q) k ((l.map (asL (bld n L).2)).map (.int .i64)) ∧ Frm (fun _ => False) w w' := by
  obtain ⟨i0, hi0, hz0, hz1, hz2⟩ := info_parts infoIntG
  have HM := Lib.hid hm
  have HK := Lib.hid hk
  have hf0 := (Frm.refl (fun _ => False) w).alloc (.cells #[.int .i64 n, .slice A m c, .slice B k d] 40)
  have hb0 : Blk (w.alloc (.cells #[.int .i64 n, .slice A m c, .slice B k d] 40)) w.heap.size 40 [.int .i64 n, .slice A m c, .slice B k d] := Blk.new _ _ _
  have b00 := hb0.at_ 0 rfl
  clear hm hk
  go_enter Tryd.func50, Tryd.ntmps50
  go_wp2_with fail
  refine (xnew_any n _).mono ?_
  rintro e w1 ⟨rfl, hX, hf1, hsz⟩
  rw [show clamp (n : Int) = n from by unfold clamp; omega] at hX
  have hb1 := hb0.frm hf1 id
  have hf01 := hf0.trans hf1
  have hsz0 : (w.alloc (.cells #[.int .i64 n, .slice A m c, .slice B k d] 40)).heap.size = w.heap.size + 1 := by simp
  rw [hsz0] at hX hsz
  rw [hsz0]
  have hown0 : (w1.alloc (.cells #[.int .i64 0] 3)).ownsRow (w.heap.size + 2) 3 1 (.slice (some ⟨w1.heap.size, 0, none⟩) 1 1) 1 [.int .i64 0] := by
    have := World.ownsRow_lit (e := 3) (size := 1) (base := w.heap.size + 2) w1 #[.int .i64 0] 1 (by omega) (by unfold maxLen; omega) rfl
    simpa using this
  have hfa := hf01.alloc (.cells #[.int .i64 0] 3)
  have hba := hb1.alloc (.cells #[.int .i64 0] 3)
  have hXa := hX.frm ((Frm.refl (fun _ => False) w1).alloc (.cells #[.int .i64 0] 3)) (fun _ _ => id)
  have e1 : (((List.range (n + 1)).map fun (i : Nat) => 2 * (i : Int)).map (Value.int .i64)).take 1 = [.int .i64 0] := by simp [List.range_succ_eq_map]
  have hown1 : (w1.alloc (.cells #[.int .i64 0] 3)).ownsRow (w.heap.size + 2) 3 1 (.slice (some ⟨w1.heap.size, 0, none⟩) 1 1) 1 ((((List.range (n + 1)).map fun (i : Nat) => 2 * (i : Int)).map (Value.int .i64)).take 1) := by rw [e1]; exact hown0
  clear hown0
  clear hf0 hb0 b00 hf1 hb1 hf01 hX hsz0 e1
  rw [hsz] at hown1
  have HSZ := Lib.hid hsz
  go_wp2_with fail
  clear hsz
  go_loopw [5, 6] (fun t i wr => ∃ (j : Nat) (A' : Option Addr) (c' : Nat), j ≤ n ∧ i = .int .i64 j ∧ t = .slice A' (j + 1) c' ∧ Blk wr w.heap.size 40 [.int .i64 n, .slice A m c, .slice B k d] ∧ IsX wr (fun g => g = w.heap.size + 1) (w.heap.size + 1) ⟨n, [], 0⟩ ∧
    wr.ownsRow (w.heap.size + 2) 3 1 (.slice A' (j + 1) c') (j + 1) ((((List.range (n + 1)).map fun (i : Nat) => 2 * (i : Int)).map (.int .i64)).take (j + 1)) ∧ w.heap.size + 2 ≤ wr.heap.size ∧ Frm (fun _ => False) w wr) (fun _ i _ => n - (intOf i).toNat)
  case atStart => exact ⟨0, _, 1, by omega, rfl, rfl, hba, hXa, hown1, by have := HSZ.out; simp; omega, hfa⟩
  case round =>
    clear hba hXa hown1 hfa
    obtain ⟨j, A', c', hj, rfl, rfl, hb, hX, hown, hzr, hfk⟩ := hrel
    have b0 := hb.at_ 0 rfl
    by_cases hlt : j < n
    · have j0 : (0 : Int) ≤ j := by omega
      have j1 : (j : Int) < n := by omega
      have hin : (⟨n, [], 0⟩ : Gr).input j = (2 * ((j : Int) + 1), ⟨n, [], 0⟩) := by unfold Gr.input; rw [if_pos (by show 0 ≤ (j : Int) ∧ (j : Int) < n; omega)]
      have HI := Lib.hid (xinput_any _ (w.heap.size + 1) ⟨n, [], 0⟩ wr j hX)
      rw [hin] at HI
      have hr2 := range2_take n hlt
      have hr3 : ((((List.range (n + 1)).map fun (i : Nat) => 2 * (i : Int)).map (Value.int .i64)).take (j + 1)) ++ [.int .i64 (2 * ((j : Int) + 1))] = ((((List.range (n + 1)).map fun (i : Nat) => 2 * (i : Int)).map (Value.int .i64)).take (j + 2)) := by
        have := congrArg (List.map (Value.int .i64)) hr2
        rw [List.map_append, List.map_take, List.map_take] at this
        exact this
      have HR := Lib.hid hr3
      clear hin hr2 hr3
      generalize ((List.range (n + 1)).map fun (i : Nat) => 2 * (i : Int)) = R at *
      go_wp2_with fail
      refine HI.out.mono ?_
      rintro e w2 ⟨rfl, hX2, hf2⟩
      have hown2 := own_frm hown hf2 (fun g hg e => by have := (hown.lt g hg).1; omega)
      have hb2 := hb.frm hf2 (by omega)
      have hz2' := hf2.size
      have hfk2 := hfk.then' hf2 (fun g hg e => by omega)
      clear hown hX hf2 hb b0
      go_wp2_with (at_builtin; refine wpList_append_own_at _ rfl (.tmp 20) (.tmp 24) 22 rfl (w.heap.size + 2) 3 i0 (.int .i64 0) 1 8 Tryd.underlying22 hi0 hz0 hz1 hz2 rfl (by decide) _ _ _ rfl (hown2.alloc (.cells #[.int .i64 (2 * ((j : Int) + 1))] 3)) ⟨w2.heap.size, 0, none⟩ 1 1 [.int .i64 (2 * ((j : Int) + 1))] rfl rfl (cell_one_new _ _ _) ?c2 ?c3 ?c4 ?c5 ?_)
      case c2 => intro u hu; simp at hu; subst hu; rfl
      case c3 => unfold maxLen; omega
      case c4 => omega
      case c5 => simp; omega
      intro v' w3 hown3 hgrow _ _
      have hgr : Frm (fun g => w.heap.size + 2 ≤ g) w2 w3 := (((Frm.refl (fun g => w.heap.size + 2 ≤ g) w2).alloc (.cells #[.int .i64 (2 * ((j : Int) + 1))] 3)).grown hgrow (fun g hg hlt => (hown2.lt g hg).1))
      rw [HR.out] at hown3
      obtain ⟨A2, c2, rfl, _⟩ := (Sl.of_own hown3).form
      have hb3 := hb2.frm hgr (by omega)
      have hX3 := hX2.frm hgr (fun g hg h => by omega)
      have hfk3 := hfk2.then' hgr (fun g hg h => by omega)
      have hz3 := hgr.size
      clear hown2 hgrow hgr hb2 hX2 hfk2 hfk
      go_wp2_with fail
      go_roundw
      case rel => exact ⟨j + 1, A2, c2, by omega, by go_num, rfl, hb3, hX3, hown3, by omega, hfk3⟩
      case measure => simp [intOf]; omega
    · obtain rfl : n = j := by omega
      rw [List.take_of_length_le (by simp)] at hown
      have hown2 : wr.ownsRow (w.heap.size + 2) 3 1 (.slice A' (n + 1) c') (n + 1) (((bld n (L.take 0)).2).map (.int .i64)) := hown
      have hX2 : IsX wr (fun g => g = w.heap.size + 1) (w.heap.size + 1) (bld n (L.take 0)).1 := hX
      clear hown hX
      go_wp2_with fail
      go_loopw [5, 7] (fun t i wr => ∃ (j : Nat) (A' : Option Addr) (c' : Nat) (xp : Nat → Prop), j ≤ m ∧ i = .int .i64 j ∧ t = .slice A' (n + 1 + j) c' ∧ Blk wr w.heap.size 40 [.int .i64 n, .slice A m c, .slice B k d] ∧ IsX wr xp (w.heap.size + 1) (bld n (L.take j)).1 ∧ (∀ g, xp g → w.heap.size + 1 ≤ g ∧ g < wr.heap.size) ∧
        wr.ownsRow (w.heap.size + 2) 3 1 (.slice A' (n + 1 + j) c') (n + 1 + j) (((bld n (L.take j)).2).map (.int .i64)) ∧ (∀ g, (Value.slice A' (n + 1 + j) c').ownBlock = some g → ¬ xp g) ∧ w.heap.size + 2 ≤ wr.heap.size ∧ Frm (fun _ => False) w wr) (fun _ i _ => m - (intOf i).toNat)
      case atStart => exact ⟨0, A', c', _, by omega, rfl, rfl, hb, hX2, fun g hg => by omega, hown2, fun g hg e => by have := (hown2.lt g hg).1; omega, hzr, hfk⟩
      case round =>
        clear hb hX2 hown2 b0 hzr hfk
        obtain ⟨j, A', c', xp, hj, rfl, rfl, hb, hX, hxp, hown, hdis, hzr, hfk⟩ := hrel
        have b0 := hb.at_ 0 rfl
        have b1 := hb.at_ 1 rfl
        have hinv := bld_inv (hr.take j) (show n + (L.take j).length ≤ 8000 by rw [List.length_take]; omega)
        by_cases hlt : j < m
        · have hlt2 : j < L.length := by rw [HM.out]; exact hlt
          obtain ⟨b, o, rfl, _, q1, q2⟩ := sl_pair (hs.frm hfk (fun _ _ => id)) hlt
          rw [← Nat.add_assoc] at q2
          have hbw : b < w.heap.size := by
            obtain ⟨b', o', e', _, q1w, _⟩ := sl_pair hs hlt
            cases e'
            exact World.block_lt_of_cell? _ _ q1w
          have hst := bld_take n L hlt2
          have hrp := hr j (L.getD j (0, 0)) (by simp [List.getD, hlt2])
          have hby := hinv.many
          rw [List.length_take, Nat.min_eq_left (Nat.le_of_lt hlt2)] at hby
          have hglen : (bld n (L.take j)).1.len ≤ n + j := by
            have h1 := hinv.num
            have h2 := hinv.len
            rw [List.length_take] at h2
            show (bld n (L.take j)).1.n + (bld n (L.take j)).1.ands.length ≤ n + j
            omega
          have hlit := hinv.lits
          have hsmall : ∀ x ∈ (bld n (L.take j)).2, 0 ≤ x ∧ x ≤ 1000000 := fun x hx => by have := isL_iff.1 (hlit x hx); omega
          clear hinv
          generalize hpv : L.getD j (0, 0) = p at *
          obtain ⟨x, y⟩ := p
          simp only at q1 q2 hrp
          have HST := Lib.hid hst
          clear hst hpv
          generalize bld n (L.take j) = s at *
          obtain ⟨g, bys⟩ := s
          simp only at hX hown hby hglen hlit hsmall
          have j0 : (0 : Int) ≤ j := by omega
          have j1 : (j : Int) < m := by omega
          have hbsl := own_sl hown
          have HA := Lib.hid (fun (l : Int) (W : World) (h0 : 0 ≤ l) (h1 : (l / 2).toNat < n + 1 + j) (hf : Frm (fun _ => False) wr W) => as_any A' (n + 1 + j) c' _ bys l W hby h0 h1 (by omega) hsmall (hbsl.frm hf (fun _ _ => id)))
          have HAX := Lib.hid (fun W hf => HA.out x W (by omega) (by omega) hf)
          have HAY := Lib.hid (fun W hf => HA.out y W (by omega) (by omega) hf)
          clear HA
          have hlx := asL_isL (l := x) hlit
          have hly := asL_isL (l := y) hlit
          have HX := Lib.hid (xand_any xp (w.heap.size + 1) g wr.drew (asL bys x) (asL bys y) (hX.drewN 1) (fun g hg => (hxp g hg).2) (by omega))
          have hbst : bldStep (g, bys) (x, y) = ((g.and (asL bys x) (asL bys y)).2, bys ++ [(g.and (asL bys x) (asL bys y)).1]) := rfl
          have hst2 := HST.out
          rw [hbst] at hst2
          have HST2 := Lib.hid hst2
          clear hst2 hbst HST hX hlit hsmall
          generalize asL bys x = X at *
          generalize asL bys y = Y at *
          generalize g.and X Y = R at *
          obtain ⟨r, g2⟩ := R
          simp only at *
          have hH0 : wr.drew.cell? ⟨w.heap.size, 1, none⟩ = some (.slice (some ⟨b, o, none⟩) m c) ∧ wr.drew.cell? ⟨b, o + j * 2, none⟩ = some (.int .i64 x) ∧ wr.drew.cell? ⟨b, o + j * 2 + 1, none⟩ = some (.int .i64 y) := ⟨b1, q1, q2⟩
          go_wp2_with fail
          have hHeld := hH0
          refine Held.begin (fun w' => w'.cell? ⟨w.heap.size, 1, none⟩ = some (.slice (some ⟨b, o, none⟩) m c) ∧ w'.cell? ⟨b, o + j * 2, none⟩ = some (.int .i64 x) ∧ w'.cell? ⟨b, o + j * 2 + 1, none⟩ = some (.int .i64 y)) 22 (by kernel_rfl) ?_
          refine Held.take (i := 0) (oi := ?oa0) (v := ?va0) ?hia0 (by kernel_rfl) (by kernel_rfl) (by kernel_rfl) (by kernel_rfl) (fun _ _ _ h => h) (Or.inl ⟨?hwa0, ?hya0⟩) (by assumption) ?resta0
          case hia0 => (simp only [List.getElem?_toArray, List.getElem?_cons_zero]; rfl)
          case hwa0 => rfl
          case hya0 => (intro w hSw; (try dsimp only at hSw); go_simp; try with_reducible rfl)
          (try simp only [Act.put, List.setIfInBounds_toArray, List.set_cons_zero, List.set_cons_succ])
          refine Held.take (i := 1) (oi := ?oa1) (v := ?va1) ?hia1 (by kernel_rfl) (by kernel_rfl) (by kernel_rfl) (by kernel_rfl) (fun _ _ _ h => h) (Or.inl ⟨?hwa1, ?hya1⟩) (by assumption) ?resta1
          case hia1 => (simp only [List.getElem?_toArray, List.getElem?_cons_succ, List.getElem?_cons_zero]; rfl)
          case hwa1 => rfl
          case hya1 => (intro w hSw; (try dsimp only at hSw); go_simp; try with_reducible rfl)
          (try simp only [Act.put, List.setIfInBounds_toArray, List.set_cons_zero, List.set_cons_succ])
          refine Held.take (i := 2) (oi := ?oa2) (v := ?va2) ?hia2 (by kernel_rfl) (by kernel_rfl) (by kernel_rfl) (by kernel_rfl) (fun _ _ _ h => h) (Or.inl ⟨?hwa2, ?hya2⟩) (by assumption) ?resta2
          case hia2 => (simp only [List.getElem?_toArray, List.getElem?_cons_succ, List.getElem?_cons_zero]; rfl)
          case hwa2 => rfl
          case hya2 => (intro w hSw; (try dsimp only at hSw); go_simp; try with_reducible rfl)
          (try simp only [Act.put, List.setIfInBounds_toArray, List.set_cons_zero, List.set_cons_succ])
          refine Held.take (i := 3) (oi := ?oa3) (v := ?va3) ?hia3 (by kernel_rfl) (by kernel_rfl) (by kernel_rfl) (by kernel_rfl) (fun _ _ _ h => h) (Or.inl ⟨?hwa3, ?hya3⟩) (by assumption) ?resta3
          case hia3 => (simp only [List.getElem?_toArray, List.getElem?_cons_succ, List.getElem?_cons_zero]; rfl)
          case hwa3 => rfl
          case hya3 => (intro w hSw; (try dsimp only at hSw); go_simp; try with_reducible rfl)
          (try simp only [Act.put, List.setIfInBounds_toArray, List.set_cons_zero, List.set_cons_succ])
          refine Held.take (i := 4) (oi := ?oa4) (v := ?va4) ?hia4 (by kernel_rfl) (by kernel_rfl) (by kernel_rfl) (by kernel_rfl) (fun _ _ _ h => h) (Or.inl ⟨?hwa4, ?hya4⟩) (by assumption) ?resta4
          case hia4 => (simp only [List.getElem?_toArray, List.getElem?_cons_succ, List.getElem?_cons_zero]; rfl)
          case hwa4 => rfl
          case hya4 => (intro w hSw; (try dsimp only at hSw); go_simp; try with_reducible rfl)
          (try simp only [Act.put, List.setIfInBounds_toArray, List.set_cons_zero, List.set_cons_succ])
          refine Held.take (i := 5) (oi := ?oa5) (v := ?va5) ?hia5 (by kernel_rfl) (by kernel_rfl) (by kernel_rfl) (by kernel_rfl) (fun _ _ _ h => h) (Or.inl ⟨?hwa5, ?hya5⟩) (by assumption) ?resta5
          case hia5 => (simp only [List.getElem?_toArray, List.getElem?_cons_succ, List.getElem?_cons_zero]; rfl)
          case hwa5 => rfl
          case hya5 => (intro w hSw; (try dsimp only at hSw); go_simp; try with_reducible rfl)
          (try simp only [Act.put, List.setIfInBounds_toArray, List.set_cons_zero, List.set_cons_succ])
          refine Held.take (i := 6) (oi := ?oa6) (v := ?va6) ?hia6 (by kernel_rfl) (by kernel_rfl) (by kernel_rfl) (by kernel_rfl) (fun _ _ _ h => h) (Or.inl ⟨?hwa6, ?hya6⟩) (by assumption) ?resta6
          case hia6 => (simp only [List.getElem?_toArray, List.getElem?_cons_succ, List.getElem?_cons_zero]; rfl)
          case hwa6 => rfl
          case hya6 => (intro w hSw; (try dsimp only at hSw); go_simp; try with_reducible rfl)
          (try simp only [Act.put, List.setIfInBounds_toArray, List.set_cons_zero, List.set_cons_succ])
          refine Held.take (i := 7) (oi := ?oa7) (v := ?va7) ?hia7 (by kernel_rfl) (by kernel_rfl) (by kernel_rfl) (by kernel_rfl) (fun _ _ _ h => h) (Or.inl ⟨?hwa7, ?hya7⟩) (by assumption) ?resta7
          case hia7 => (simp only [List.getElem?_toArray, List.getElem?_cons_succ, List.getElem?_cons_zero]; rfl)
          case hwa7 => rfl
          case hya7 => (intro w hSw; (try dsimp only at hSw); go_simp; try with_reducible rfl)
          (try simp only [Act.put, List.setIfInBounds_toArray, List.set_cons_zero, List.set_cons_succ])
          refine Held.take (i := 8) (oi := ?oa8) (v := ?va8) ?hia8 (by kernel_rfl) (by kernel_rfl) (by kernel_rfl) (by kernel_rfl) (fun _ _ _ h => h) (Or.inl ⟨?hwa8, ?hya8⟩) (by assumption) ?resta8
          case hia8 => (simp only [List.getElem?_toArray, List.getElem?_cons_succ, List.getElem?_cons_zero]; rfl)
          case hwa8 => rfl
          case hya8 => (intro w hSw; (try dsimp only at hSw); go_simp; try with_reducible rfl)
          (try simp only [Act.put, List.setIfInBounds_toArray, List.set_cons_zero, List.set_cons_succ])
          refine Held.take (i := 10) (oi := ?oa10) (v := ?va10) ?hia10 (by kernel_rfl) (by kernel_rfl) (by kernel_rfl) (by kernel_rfl) (fun _ _ _ h => h) (Or.inl ⟨?hwa10, ?hya10⟩) (by assumption) ?resta10
          case hia10 => (simp only [List.getElem?_toArray, List.getElem?_cons_succ, List.getElem?_cons_zero]; rfl)
          case hwa10 => rfl
          case hya10 => (intro w hSw; (try dsimp only at hSw); go_simp; try with_reducible rfl)
          (try simp only [Act.put, List.setIfInBounds_toArray, List.set_cons_zero, List.set_cons_succ])
          refine Held.take (i := 11) (oi := ?oa11) (v := ?va11) ?hia11 (by kernel_rfl) (by kernel_rfl) (by kernel_rfl) (by kernel_rfl) (fun _ _ _ h => h) (Or.inl ⟨?hwa11, ?hya11⟩) (by assumption) ?resta11
          case hia11 => (simp only [List.getElem?_toArray, List.getElem?_cons_succ, List.getElem?_cons_zero]; rfl)
          case hwa11 => rfl
          case hya11 => (intro w hSw; (try dsimp only at hSw); go_simp; try with_reducible rfl)
          (try simp only [Act.put, List.setIfInBounds_toArray, List.set_cons_zero, List.set_cons_succ])
          refine Held.take (i := 12) (oi := ?oa12) (v := ?va12) ?hia12 (by kernel_rfl) (by kernel_rfl) (by kernel_rfl) (by kernel_rfl) (fun _ _ _ h => h) (Or.inl ⟨?hwa12, ?hya12⟩) (by assumption) ?resta12
          case hia12 => (simp only [List.getElem?_toArray, List.getElem?_cons_succ, List.getElem?_cons_zero]; rfl)
          case hwa12 => rfl
          case hya12 => (intro w hSw; (try dsimp only at hSw); go_simp; try with_reducible rfl)
          (try simp only [Act.put, List.setIfInBounds_toArray, List.set_cons_zero, List.set_cons_succ])
          refine Held.take (i := 13) (oi := ?oa13) (v := ?va13) ?hia13 (by kernel_rfl) (by kernel_rfl) (by kernel_rfl) (by kernel_rfl) (fun _ _ _ h => h) (Or.inl ⟨?hwa13, ?hya13⟩) (by assumption) ?resta13
          case hia13 => (simp only [List.getElem?_toArray, List.getElem?_cons_succ, List.getElem?_cons_zero]; rfl)
          case hwa13 => rfl
          case hya13 => (intro w hSw; (try dsimp only at hSw); go_simp; try with_reducible rfl)
          (try simp only [Act.put, List.setIfInBounds_toArray, List.set_cons_zero, List.set_cons_succ])
          refine Held.take (i := 14) (oi := ?oa14) (v := ?va14) ?hia14 (by kernel_rfl) (by kernel_rfl) (by kernel_rfl) (by kernel_rfl) (fun _ _ _ h => h) (Or.inl ⟨?hwa14, ?hya14⟩) (by assumption) ?resta14
          case hia14 => (simp only [List.getElem?_toArray, List.getElem?_cons_succ, List.getElem?_cons_zero]; rfl)
          case hwa14 => rfl
          case hya14 => (intro w hSw; (try dsimp only at hSw); go_simp; try with_reducible rfl)
          (try simp only [Act.put, List.setIfInBounds_toArray, List.set_cons_zero, List.set_cons_succ])
          refine Held.take (i := 15) (oi := ?oa15) (v := ?va15) ?hia15 (by kernel_rfl) (by kernel_rfl) (by kernel_rfl) (by kernel_rfl) (fun _ _ _ h => h) (Or.inl ⟨?hwa15, ?hya15⟩) (by assumption) ?resta15
          case hia15 => (simp only [List.getElem?_toArray, List.getElem?_cons_succ, List.getElem?_cons_zero]; rfl)
          case hwa15 => rfl
          case hya15 => (intro w hSw; (try dsimp only at hSw); go_simp; try with_reducible rfl)
          (try simp only [Act.put, List.setIfInBounds_toArray, List.set_cons_zero, List.set_cons_succ])
          refine Held.take (i := 16) (oi := ?oa16) (v := ?va16) ?hia16 (by kernel_rfl) (by kernel_rfl) (by kernel_rfl) (by kernel_rfl) (fun _ _ _ h => h) (Or.inl ⟨?hwa16, ?hya16⟩) (by assumption) ?resta16
          case hia16 => (simp only [List.getElem?_toArray, List.getElem?_cons_succ, List.getElem?_cons_zero]; rfl)
          case hwa16 => rfl
          case hya16 => (intro w hSw; (try dsimp only at hSw); go_simp; try with_reducible rfl)
          (try simp only [Act.put, List.setIfInBounds_toArray, List.set_cons_zero, List.set_cons_succ])
          refine Held.next (i := 9) (o := ?oa9) (by kernel_rfl) ?hia9 (fun K hK => ?sta9)
          case hia9 => (simp only [List.getElem?_toArray, List.getElem?_cons_succ, List.getElem?_cons_zero]; rfl)
          go_simp
          (go_at_call 114; refine (HAX.out _ ((Frm.refl _ _).drewN 1)).mono ?_; rintro e w' ⟨rfl, rfl⟩)
          (try go_wp2_with fail)
          refine hK.out _ _ (fun _ => by assumption) ?_
          clear hK K
          (try simp only [Act.put, List.setIfInBounds_toArray, List.set_cons_zero, List.set_cons_succ])
          refine Held.next (i := 17) (o := ?oa17) (by kernel_rfl) ?hia17 (fun K hK => ?sta17)
          case hia17 => (simp only [List.getElem?_toArray, List.getElem?_cons_succ, List.getElem?_cons_zero]; rfl)
          go_simp
          (go_at_call 114; refine (HAY.out _ ((Frm.refl _ _).drewN 1)).mono ?_; rintro e w' ⟨rfl, rfl⟩)
          (try go_wp2_with fail)
          refine hK.out _ _ (fun _ => by assumption) ?_
          clear hK K
          (try simp only [Act.put, List.setIfInBounds_toArray, List.set_cons_zero, List.set_cons_succ])
          refine Held.next (i := 18) (o := ?oa18) (by kernel_rfl) ?hia18 (fun K hK => ?sta18)
          case hia18 => (simp only [List.getElem?_toArray, List.getElem?_cons_succ, List.getElem?_cons_zero]; rfl)
          go_simp
          (go_at_call 33; refine HX.out.mono ?_; rintro e w2 ⟨rfl, xp2, hX2, hg2, hf2⟩; have hne : ¬ xp b := (fun h => by have := (hxp b h).1; omega); have hnc : ¬ xp w.heap.size := (fun h => by have := (hxp _ h).1; omega))
          (try go_wp2_with fail)
          refine hK.out _ _ (fun _ => by exact ⟨hf2.cell hHeld.1 hnc, hf2.cell hHeld.2.1 hne, hf2.cell hHeld.2.2 hne⟩) ?_
          clear hK K
          (try simp only [Act.put, List.setIfInBounds_toArray, List.set_cons_zero, List.set_cons_succ])
          have hH2 := And.intro (hf2.cell hHeld.1 hnc) (And.intro (hf2.cell hHeld.2.1 hne) (hf2.cell hHeld.2.2 hne))
          have hown2 : w2.ownsRow (w.heap.size + 2) 3 1 (.slice A' (n + 1 + j) c') (n + 1 + j) (bys.map (.int .i64)) := own_frm (own_frm hown ((Frm.refl (fun _ => False) wr).drewN 1) (fun _ _ => id)) hf2 (fun g hg => hdis g hg)
          have hb2 := (hb.drewN 1).frm hf2 hnc
          have hz2' := hf2.size
          have hsdw : wr.drew.heap.size = wr.heap.size := rfl
          have hfk2 := (hfk.drewN 1).then' hf2 (fun g hg e => by have := (hxp g e).1; omega)
          have hxp2 : ∀ g, xp2 g → w.heap.size + 1 ≤ g ∧ g < w2.heap.size := fun g hg => by rcases hg2 g hg with h | h; exact ⟨(hxp g h).1, by have := (hxp g h).2; omega⟩; exact ⟨by omega, h.2⟩
          have hdis2 : ∀ g, (Value.slice A' (n + 1 + j) c').ownBlock = some g → ¬ xp2 g := fun g hg hx => by rcases hg2 g hx with h | h; exact hdis g hg h; have := (hown.lt g hg).2; omega
          refine Held.next (i := 19) (o := ?oa19) (by kernel_rfl) ?hia19 (fun K hK => ?sta19)
          case hia19 => (simp only [List.getElem?_toArray, List.getElem?_cons_succ, List.getElem?_cons_zero]; rfl)
          go_simp
          refine hK.out _ _ (fun _ => by exact ⟨(World.cell?_alloc_lt _ _ _ (World.block_lt_of_cell? _ _ hH2.1)).trans hH2.1, (World.cell?_alloc_lt _ _ _ (World.block_lt_of_cell? _ _ hH2.2.1)).trans hH2.2.1, (World.cell?_alloc_lt _ _ _ (World.block_lt_of_cell? _ _ hH2.2.2)).trans hH2.2.2⟩) ?_
          clear hK K
          (try simp only [Act.put, List.setIfInBounds_toArray, List.set_cons_zero, List.set_cons_succ])
          refine Held.next (i := 20) (o := ?oa20) (by kernel_rfl) ?hia20 (fun K hK => ?sta20)
          case hia20 => (simp only [List.getElem?_toArray, List.getElem?_cons_succ, List.getElem?_cons_zero]; rfl)
          (rw [if_pos (by rfl)]; refine wp_append_lies _ (.tmp 33) (.tmp 52) 22 rfl (w.heap.size + 2) 3 i0 (.int .i64 0) 1 8 Tryd.underlying22 hi0 hz0 hz1 hz2 rfl (by decide) _ _ _ rfl (hown2.alloc (.cells #[.int .i64 r] 3)) ⟨w2.heap.size, 0, none⟩ 1 1 [.int .i64 r] rfl rfl (cell_one_new _ _ _) (by intro u hu; simp at hu; subst hu; rfl) (by decide) (by unfold maxLen; omega) (by omega) (by simp; omega) _ rfl ?_; intro gg cap w3 hown3 hgrow hat hglt; have hgr : Frm (fun g => w.heap.size + 2 ≤ g ∧ (Value.slice A' (n + 1 + j) c').ownBlock = some g) w2 w3 := (((Frm.refl _ w2).alloc (.cells #[.int .i64 r] 3)).grown hgrow (fun g hg hlt => ⟨(hown2.lt g hg).1, hg⟩)))
          refine hK.out _ _ (fun _ => by exact ⟨hgr.cell hH2.1 (fun h => by have := h.1; simp at this; omega), hgr.cell hH2.2.1 (fun h => by have := h.1; simp at this; omega), hgr.cell hH2.2.2 (fun h => by have := h.1; simp at this; omega)⟩) ?_
          clear hK K
          (try simp only [Act.put, List.setIfInBounds_toArray, List.set_cons_zero, List.set_cons_succ])
          have hH3 := And.intro (hgr.cell hH2.1 (fun h => by have := h.1; simp at this; omega)) (And.intro (hgr.cell hH2.2.1 (fun h => by have := h.1; simp at this; omega)) (hgr.cell hH2.2.2 (fun h => by have := h.1; simp at this; omega)))
          have hb3 := hb2.frm hgr (fun h => by have := h.1; omega)
          have hX3 := hX2.frm hgr (fun g hg h => hdis2 g h.2 hg)
          have hz3 := hgr.size
          have hfk3 := hfk2.then' hgr (fun g hg h => by have := h.1; omega)
          have hdis3 : ∀ g, (Value.slice (some ⟨gg, 0, none⟩) (n + 1 + j + 1) cap).ownBlock = some g → ¬ xp2 g := fun g hg hx => by simp [Value.ownBlock] at hg; subst hg; rcases hat with h | h; exact hdis2 gg h hx; have := (hxp2 gg hx).2; simp at h; omega
          have hm3 : (bys.map (Value.int .i64)) ++ [.int .i64 r] = (bys ++ [r]).map (.int .i64) := by simp
          rw [hm3] at hown3
          refine Held.take (i := 21) (oi := ?oa21) (v := ?va21) ?hia21 (by kernel_rfl) (by kernel_rfl) (by kernel_rfl) (by kernel_rfl) (fun _ _ _ h => h) (Or.inl ⟨?hwa21, ?hya21⟩) (by assumption) ?resta21
          case hia21 => (simp only [List.getElem?_toArray, List.getElem?_cons_succ, List.getElem?_cons_zero]; rfl)
          case hwa21 => rfl
          case hya21 => (intro w hSw; (try dsimp only at hSw); go_simp; try with_reducible rfl)
          (try simp only [Act.put, List.setIfInBounds_toArray, List.set_cons_zero, List.set_cons_succ])
          refine Held.done (by kernel_rfl) ?_ _
          refine NoPanic.normal ?_
          go_wp2_with fail
          exact ⟨⟨j + 1, some ⟨gg, 0, none⟩, cap, xp2, by omega, by go_num, rfl, hb3, by rw [HST2.out]; exact hX3, fun g hg => by have := hxp2 g hg; omega, by rw [HST2.out]; exact hown3, hdis3, by omega, hfk3⟩, by simp [intOf]; omega⟩
        · obtain ⟨W1, rfl⟩ : ∃ W1, W1 = wr := ⟨_, rfl⟩
          have hjm : j = m := by omega
          have ht : L.take j = L := List.take_of_length_le (by rw [HM.out]; omega)
          rw [ht] at hX hown hinv
          have hby := hinv.many
          rw [HM.out] at hby
          have hsmall : ∀ x ∈ (bld n L).2, 0 ≤ x ∧ x ≤ 1000000 := fun x hx => by
            have h1 := isL_iff.1 (hinv.lits x hx)
            have h2 := hinv.num
            have h3 := hinv.len
            have h4 : (bld n L).1.len = (bld n L).1.n + (bld n L).1.ands.length := rfl
            rw [HM.out] at h3
            omega
          have hbsl := own_sl hown
          have hge : ¬ (j : Int) < m := by omega
          have hjn : n + 1 + j = n + 1 + m := by omega
          rw [hjn] at hbsl
          have hbw := hb
          have HA := Lib.hid (fun (l : Int) (W : World) (h0 : 0 ≤ l) (h1 : (l / 2).toNat < n + 1 + m) (hf : Frm (fun _ => False) W1 W) => as_any A' (n + 1 + m) c' _ (bld n L).2 l W hby h0 h1 (by omega) hsmall (hbsl.frm hf (fun _ _ => id)))
          have hma : ∀ i, i < k → ((l.map (asL (bld n L).2)).map (Value.int .i64)).take i ++ [.int .i64 (asL (bld n L).2 (l.getD i 0))] = ((l.map (asL (bld n L).2)).map (Value.int .i64)).take (i + 1) := by
            intro i hi
            have hi2 : i < l.length := by rw [HK.out]; exact hi
            rw [List.take_succ_eq_append_getElem (by simpa using hi2)]
            simp [List.getD, hi2]
          have HMA := Lib.hid hma
          have HXX := Lib.hid hX
          have HINV := Lib.hid hinv
          clear hinv hsmall hown hdis hbsl hma hX hs hlt ht
          generalize hbl : bld n L = s at *
          obtain ⟨g, bys⟩ := s
          have HBL := Lib.hid hbl
          clear hbl
          simp only at HMA
          generalize hml : l.map (asL bys) = M at *
          have hMl : M.length = k := by rw [← hml, List.length_map]; exact HK.out
          have HML := Lib.hid hml
          have HMl := Lib.hid hMl
          clear hml hMl
          rw [hjn]
          have b2 := hb.at_ 2 rfl
          go_wp2_with fail
          go_loopw [8, 9] (fun t i wr => ∃ (q : Nat) (O : Option Addr) (oc : Nat), q ≤ k ∧ i = .int .i64 q ∧ t = .slice O q oc ∧ wr.ownsRow W1.heap.size 3 1 (.slice O q oc) q ((M.map (.int .i64)).take q) ∧ Frm (fun _ => False) W1 wr) (fun _ i _ => k - (intOf i).toNat)
          case atStart => exact ⟨0, none, 0, by omega, rfl, rfl, by simpa using World.ownsRow_nil _ _ _ _, Frm.refl _ _⟩
          case round =>
            clear b0 b1 b2
            obtain ⟨q, O, oc, hq, rfl, rfl, hown, hfq⟩ := hrel
            have b2 := (hb.frm hfq id).at_ 2 rfl
            by_cases hlt : q < k
            · have hlt2 : q < l.length := by rw [HK.out]; exact hlt
              obtain ⟨b, o, u, rfl, _, hu, hcell⟩ := (ho.frm (hfk.trans hfq) (fun _ _ => id)).at_ hlt
              obtain rfl := at_getD hu
              have hx := isL_iff.1 (hlits (l.getD q 0) (by simp [List.getD, hlt2]))
              have HG := Lib.hid (HMA.out q hlt)
              clear hu
              generalize l.getD q 0 = x at *
              have q0 : (0 : Int) ≤ q := by omega
              have q1 : (q : Int) < k := by omega
              have HAX := Lib.hid (HA.out x wr (by omega) (by omega) hfq)
              generalize asL bys x = X at *
              go_wp2_with fail
              refine HAX.out.mono ?_
              rintro e w' ⟨rfl, rfl⟩
              go_wp2_with (at_builtin; refine wpList_append_own _ rfl (.tmp 61) (.tmp 69) 22 rfl W1.heap.size 3 i0 (.int .i64 0) 1 8 Tryd.underlying22 hi0 hz0 hz1 hz2 rfl (by decide) _ _ _ rfl (hown.alloc (.cells #[.int .i64 X] 3)) ⟨wr.heap.size, 0, none⟩ 1 1 [.int .i64 X] rfl rfl (cell_one_new _ _ _) ?c2 ?c3 ?c4 ?c5 ?_)
              case c2 => intro u hu; simp at hu; subst hu; rfl
              case c3 => unfold maxLen; omega
              case c4 => omega
              case c5 => have := hfq.size; simp; omega
              intro v' w3 hown3 hgrow _
              rw [HG.out] at hown3
              obtain ⟨A2, c2, rfl, _⟩ := (Sl.of_own hown3).form
              have hfq3 : Frm (fun _ => False) W1 w3 := (hfq.alloc (.cells #[.int .i64 X] 3)).grown hgrow (fun g hg hlt => by have := (hown.lt g hg).1; omega)
              clear hown hgrow hfq hcell b2
              go_wp2_with fail
              go_roundw
              case rel => exact ⟨q + 1, A2, c2, by omega, by go_num, rfl, hown3, hfq3⟩
              case measure => simp [intOf]; omega
            · obtain rfl : k = q := by omega
              rw [List.take_of_length_le (by simp [HMl.out])] at hown
              have hXf := HXX.out.frm hfq (fun _ _ => id)
              have hzq := hfq.size
              have hosl := own_sl hown
              go_wp2_with fail
              refine bodyPost_ret (v := .tuple #[.pointer (some ⟨w.heap.size + 1, 0, none⟩), .slice O k oc]) (by simp [results, Tryd.results50, go_sem]) rfl ⟨w.heap.size + 1, xp, O, oc, rfl, ?_, fun g hg => by have := hxp g hg; omega, ?_, hfk.trans hfq⟩
              · rw [HBL.out]; exact hXf
              · rw [HBL.out]; simp only; rw [HML.out]; exact hosl.mono (fun g _ h => ⟨by have := hfk.size; omega, fun hx => by have := (hxp g hx).2; omega⟩)

end Go.Proofs.YtkjlgamggkencaaDoor
