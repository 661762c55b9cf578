/-
  The contract of graph.Build.
-/
import Derived.Test.YtkjlgamggkencaaDoorMRBuild
import Derived.Test.YtkjlgamggkencaaDoorMAnd
namespace Go.Proofs.YtkjlgamggkencaaDoor
open Go.RowKit

set_option maxRecDepth 100000 in
set_option maxHeartbeats 1000000 in
/-- the closure: what a literal is by its node's -/
theorem lit_any (ab : Nat) (A : Option Addr) (n c : Nat) (F : Nat → Prop) (bys : List Int) (l : Int) (w : World) (hn : bys.length = n) (h0 : 0 ≤ l) (h1 : (l / 2).toNat < n) (hb : n ≤ 1000000) (hx : ∀ x ∈ bys, 0 ≤ x ∧ x ≤ 1000000)
    (ha : w.cell? ⟨ab, 0, none⟩ = some (.slice A n c)) (hs : Sl w F 1 (.slice A n c) n (bys.map (.int .i64))) :
    Calls Tryd.prog 119 #[.int .i64 l, .pointer (some ⟨ab, 0, none⟩)] w fun e w' => e = .returned (.int .i64 (asL bys l)) ∧ w = w' := by
  obtain ⟨b, o, u, rfl, _, hu, hcell⟩ := hs.at_ h1
  obtain rfl := at_getD hu
  have hand := bits_and_one l h0 (by omega)
  have hval : asL bys l = if l % 2 = 1 then notL (bys.getD (l / 2).toNat 0) else bys.getD (l / 2).toNat 0 := rfl
  have hxr := hx (bys.getD (l / 2).toNat 0) (by simp [List.getD, show (l / 2).toNat < bys.length by omega])
  have i0 : (0 : Int) ≤ l / 2 := by omega
  have i1 : l / 2 < (n : Int) := by omega
  clear hu hs hx
  generalize bys.getD (l / 2).toNat 0 = x at *
  have HW := Lib.hid hval
  clear hval
  rcases (show l % 2 = 0 ∨ l % 2 = 1 from by omega) with h | h
  · rw [h] at hand
    have hxz := bits_xor_zero x hxr.1 (by omega)
    go_enter Tryd.func119, Tryd.ntmps119
    go_wp2_with fail
    go_ret
    exact ⟨ret_int (by rw [HW.out, if_neg (by omega)]), rfl⟩
  · rw [h] at hand
    have hxz := bits_xor_one x hxr.1 (by omega)
    go_enter Tryd.func119, Tryd.ntmps119
    go_wp2_with fail
    go_ret
    exact ⟨ret_int (by rw [HW.out, if_pos h]), rfl⟩

theorem range2_all (n : Nat) {j : Nat} (hj : j < n + 1) : (((List.range (n + 1)).map fun (i : Nat) => 2 * (i : Int)).map (Value.int .i64)).take j ++ [.int .i64 (2 * (j : Int))] = (((List.range (n + 1)).map fun (i : Nat) => 2 * (i : Int)).map (Value.int .i64)).take (j + 1) := by
  rw [List.take_succ_eq_append_getElem (show j < _ by simpa using hj)]
  simp

set_option maxRecDepth 100000 in
set_option maxHeartbeats 4000000 in
theorem build_any (E : Nat → Value) (hE : E 0 = .nilIface) (n : Nat) (A : Option Addr) (m c : Nat) (B : Option Addr) (k d : Nat) (L : List (Int × Int)) (l : List Int) (F G : Nat → Prop) (w : World) (hm : L.length = m) (hk : l.length = k)
    (hnm : n + m ≤ 8000) (hk4 : k ≤ 4000) (hr : Right n L) (hlits : ∀ x ∈ l, isL x (n + m) = true) (hs : Sl w F 2 (.slice A m c) m (pairs L)) (ho : Sl w G 1 (.slice B k d) k (l.map (.int .i64))) :
    Calls Tryd.prog 66 #[cv n A m c B k d] w fun e w' => ∃ gb fp O q, e = .returned (.tuple #[.pointer (some ⟨gb, 0, none⟩), .slice O k q, .nilIface]) ∧ IsGr E w' fp gb (bld n L).1 ∧ (∀ g, fp g → w.heap.size ≤ g ∧ g < w'.heap.size) ∧
      Sl w' (fun g => w.heap.size ≤ g ∧ ¬ fp g) 1 (.slice O k q) k ((l.map (asL (bld n L).2)).map (.int .i64)) ∧ Frm (fun _ => False) w w' := by
  obtain ⟨i0, hi0, hz0, hz1, hz2⟩ := info_parts infoIntG
  have hcode : ckCode n L l = 0 := ckCode_right hr (by omega) (by rw [hm]; exact hlits)
  have HM := Lib.hid hm
  have HK := Lib.hid hk
  have hf0 := (Frm.refl (fun _ => False) w).alloc (.cells #[.int .i64 n, .slice A m c, .slice B k d] 40)
  have hb0 : Blk (w.alloc (.cells #[.int .i64 n, .slice A m c, .slice B k d] 40)) w.heap.size 40 [.int .i64 n, .slice A m c, .slice B k d] := Blk.new _ _ _
  have b00 := hb0.at_ 0 rfl
  have b01 := hb0.at_ 1 rfl
  have b02 := hb0.at_ 2 rfl
  have HCK := Lib.hid (check_any [102, 104] (fun _ => ⟨0, 0, none⟩) (by simp) (by simp) n A m c B k d L l F G (w.alloc (.cells #[.int .i64 n, .slice A m c, .slice B k d] 40)) hm hk (by omega) (by omega) (hs.frm hf0 (fun _ _ => id)) (ho.frm hf0 (fun _ _ => id)) (fun h => absurd hcode h))
  rw [hcode, PE_zero] at HCK
  clear hm hk hcode
  go_enter Tryd.func66, Tryd.ntmps66
  go_wp2_with fail
  refine HCK.out.mono ?_
  rintro e w1 ⟨rfl, hf1⟩
  have hb1 := hb0.frm hf1 id
  have hf01 := hf0.trans hf1
  have b0 := hb1.at_ 0 rfl
  have b1 := hb1.at_ 1 rfl
  clear b00 b01 b02 hb0 hf0 hf1
  go_wp2_with fail
  refine (new_any E hE n w1).mono ?_
  rintro e w2 ⟨gb, fp, rfl, hG, hfp, hf2⟩
  rw [show clamp (n : Int) = n from by unfold clamp; omega] at hG
  have hb2 := hb1.frm hf2 id
  have hf02 := hf01.trans hf2
  have hsz01 := hf01.size
  have hsz2 := hf2.size
  have hcb := hb1.lt
  clear hb1 hf2 hf01 b0 b1
  have b0 := hb2.at_ 0 rfl
  have b1 := hb2.at_ 1 rfl
  go_wp2_with (at_make; refine wpList_make_own _ rfl _ _ 22 rfl w2.heap.size 3 i0 (.int .i64 0) 1 Tryd.underlying22 hi0 hz0 hz1 .i64 .i64 _ (1 + n + m) rfl (by go_num) (by omega) (by rw [hz2]; omega) (by unfold maxLen; omega) (Nat.le_refl _) ?_; intro w3 hown3 hgrow3; have hgr3 : Frm (fun _ => False) w2 w3 := (Frm.refl _ w2).grown hgrow3 (fun k hk => by cases hk); have hb3 := (hb2.frm hgr3 id).alloc (.cells #[.slice (some ⟨w2.heap.size, 0, none⟩) 0 (1 + n + m)] 22); have b03 := hb3.at_ 0 rfl; have b13 := hb3.at_ 1 rfl; clear hgrow3)
  have hb4 : Blk (w3.alloc (.cells #[.slice (some ⟨w2.heap.size, 0, none⟩) 0 (1 + n + m)] 22)) w3.heap.size 22 [.slice (some ⟨w2.heap.size, 0, none⟩) 0 (1 + n + m)] := Blk.new _ _ _
  have hf04 := (hf02.trans hgr3).alloc (.cells #[.slice (some ⟨w2.heap.size, 0, none⟩) 0 (1 + n + m)] 22)
  have hG4 := (hG.frm hgr3 (fun _ _ => id)).frm ((Frm.refl (fun _ => False) w3).alloc (.cells #[.slice (some ⟨w2.heap.size, 0, none⟩) 0 (1 + n + m)] 22)) (fun _ _ => id)
  have hown4 := hown3.alloc (.cells #[.slice (some ⟨w2.heap.size, 0, none⟩) 0 (1 + n + m)] 22)
  have hlt3 : w2.heap.size < w3.heap.size := by have := (hown3.lt w2.heap.size rfl).2; exact this
  have hsz4 : (w3.alloc (.cells #[.slice (some ⟨w2.heap.size, 0, none⟩) 0 (1 + n + m)] 22)).heap.size = w3.heap.size + 1 := by simp
  clear hown3 hf02 hgr3 hG hb2
  go_loopw [34] (fun iv wr => ∃ (j : Nat) (A' : Option Addr) (c' : Nat), j ≤ n + 1 ∧ iv = .int .i64 (j : Int) ∧ Blk wr w.heap.size 40 [.int .i64 n, .slice A m c, .slice B k d] ∧ Blk wr w3.heap.size 22 [.slice A' j c'] ∧ IsGr E wr fp gb ⟨n, [], 0⟩ ∧
    wr.ownsRow w2.heap.size 3 1 (.slice A' j c') j ((((List.range (n + 1)).map fun (i : Nat) => 2 * (i : Int)).map (Value.int .i64)).take j) ∧ (∀ g, (Value.slice A' j c').ownBlock = some g → g ≠ w3.heap.size) ∧ w3.heap.size < wr.heap.size ∧ Frm (fun _ => False) w wr) (fun iv _ => n + 1 - (intOf iv).toNat)
  case atStart => exact ⟨0, _, _, by omega, rfl, hb3, hb4, hG4, by simpa using hown4, fun g hg e => by simp [Value.ownBlock] at hg; omega, by omega, hf04⟩
  case round =>
    clear hb3 b03 b13 b0 b1 hb4 hf04 hG4 hown4 hsz4
    obtain ⟨j, A', c', hj, rfl, hb, hba, hG, hown, hdis, hzr, hfk⟩ := hrel
    by_cases hlt : j < n + 1
    · have j0 : (0 : Int) ≤ j := by omega
      have j1 : (j : Int) < 1 + (n : Int) := by omega
      have HR := Lib.hid (range2_all n hlt)
      generalize ((List.range (n + 1)).map fun (i : Nat) => 2 * (i : Int)) = R at *
      have a0 := hba.at_ 0 rfl
      have hwa : ∀ o, Frm (fun _ => False) wr (wr.alloc o) := fun o => (Frm.refl _ wr).alloc o
      go_wp2_with (at_builtin; refine wpList_append_own_at _ rfl (.tmp 37) (.tmp 40) 22 rfl w2.heap.size 3 i0 (.int .i64 0) 1 8 Tryd.underlying22 hi0 hz0 hz1 hz2 rfl (by decide) _ _ _ rfl (hown.alloc (.cells #[.int .i64 (2 * (j : Int))] 3)) ⟨wr.heap.size, 0, none⟩ 1 1 [.int .i64 (2 * (j : Int))] rfl rfl (cell_one_new _ _ _) ?c2 ?c3 ?c4 ?c5 ?_)
      case c2 => intro u hu; simp at hu; subst hu; rfl
      case c3 => unfold maxLen; omega
      case c4 => omega
      case c5 => simp; omega
      intro v' w4 hown4 hgrow _ hat
      have hgr : Frm (fun g => w2.heap.size ≤ g ∧ (Value.slice A' j c').ownBlock = some g) wr w4 := ((Frm.refl _ wr).alloc (.cells #[.int .i64 (2 * (j : Int))] 3)).grown hgrow (fun g hg hlt => ⟨(hown.lt g hg).1, hg⟩)
      rw [HR.out] at hown4
      obtain ⟨A2, c2, rfl, _⟩ := (Sl.of_own hown4).form
      have hb5 := hb.frm hgr (fun h => by have := h.1; omega)
      have hba5 := hba.frm hgr (fun h => hdis _ h.2 rfl)
      have hG5 := hG.frm hgr (fun g hg h => by have := (hfp g hg).2; have := h.1; omega)
      have hfk5 := hfk.then' hgr (fun g hg h => by have := h.1; omega)
      have hdis5 : ∀ g, (Value.slice A2 (j + 1) c2).ownBlock = some g → g ≠ w3.heap.size := fun g hg e => by
        rcases hat with h | h
        · exact hdis g (h.symm.trans hg) e
        · have := h.symm.trans hg; simp at this; omega
      have hz5 := hgr.size
      have a5 := hba5.at_ 0 rfl
      have af := hba5.frozen 0
      have hset : Frm (fun g => g = w3.heap.size) w4 (w4.setCell ⟨w3.heap.size, 0, none⟩ (.slice A2 (j + 1) c2)) := (Frm.refl (fun g => g = w3.heap.size) w4).setCell (p := ⟨w3.heap.size, 0, none⟩) (fun _ => rfl) _
      have hba6 := hba5.set_ 0 (.slice A2 (j + 1) c2)
      have hb6 := hb5.frm hset (by omega)
      have hG6 := hG5.frm hset (fun g hg h => by have := (hfp g hg).2; omega)
      have hown6 := own_frm hown4 hset (fun g hg => hdis5 g hg)
      have hfk6 := hfk5.then' hset (fun g hg h => by omega)
      clear hown hgrow hgr hb hba hG hfk hb5 hba5 hG5 hfk5 hown4 a0 hat
      go_wp2_with fail
      go_roundw
      case rel => exact ⟨j + 1, A2, c2, by omega, by go_num, hb6, hba6, hG6, hown6, hdis5, by rw [World.setCell]; simp; omega, hfk6⟩
      case measure => simp [intOf]; omega
    · obtain rfl : j = n + 1 := by omega
      rw [List.take_of_length_le (by simp)] at hown
      have hown2 : wr.ownsRow w2.heap.size 3 1 (.slice A' (n + 1) c') (n + 1) (((bld n (L.take 0)).2).map (.int .i64)) := hown
      have hG2 : IsGr E wr fp gb (bld n (L.take 0)).1 := hG
      have b1 := hb.at_ 1 rfl
      have hge : ¬ (((n + 1 : Nat) : Int) < 1 + (n : Int)) := by omega
      clear hown hG
      go_wp2_with fail
      go_loopw [47] (fun iv wr => ∃ (j : Nat) (A' : Option Addr) (c' : Nat) (fq : Nat → Prop), j ≤ m ∧ iv = .int .i64 (j : Int) ∧ Blk wr w.heap.size 40 [.int .i64 n, .slice A m c, .slice B k d] ∧ Blk wr w3.heap.size 22 [.slice A' (n + 1 + j) c'] ∧ IsGr E wr fq gb (bld n (L.take j)).1 ∧
        (∀ g, fq g → w1.heap.size ≤ g ∧ g < wr.heap.size ∧ g ≠ w3.heap.size) ∧ wr.ownsRow w2.heap.size 3 1 (.slice A' (n + 1 + j) c') (n + 1 + j) (((bld n (L.take j)).2).map (.int .i64)) ∧ (∀ g, (Value.slice A' (n + 1 + j) c').ownBlock = some g → g ≠ w3.heap.size ∧ ¬ fq g) ∧ w3.heap.size < wr.heap.size ∧ Frm (fun _ => False) w wr) (fun iv _ => m - (intOf iv).toNat)
      case atStart => exact ⟨0, A', c', fp, by omega, rfl, hb, hba, hG2, fun g hg => by have := hfp g hg; omega, hown2, fun g hg => ⟨hdis g hg, fun h => by have := (hown2.lt g hg).1; have := (hfp g h).2; omega⟩, hzr, hfk⟩
      case round =>
        clear hb hba hG2 hown2 hdis hzr hfk b1 hge hlt hfp
        obtain ⟨j, A', c', fq, hj, rfl, hb, hba, hG, hfq, hown, hdis, hzr, hfk⟩ := hrel
        have hinv := bld_inv (hr.take j) (show n + (L.take j).length ≤ 8000 by rw [List.length_take]; omega)
        by_cases hlt : j < m
        · have hlt2 : j < L.length := by rw [HM.out]; exact hlt
          obtain ⟨b, o, rfl, _, q1, q2⟩ := sl_pair (hs.frm hfk (fun _ _ => id)) hlt
          rw [← Nat.add_assoc] at q2
          have hst := bld_take n L hlt2
          have hrp := hr j (L.getD j (0, 0)) (by simp [List.getD, hlt2])
          have hby := hinv.many
          rw [List.length_take, Nat.min_eq_left (Nat.le_of_lt hlt2)] at hby
          have hglen : (bld n (L.take j)).1.len ≤ n + j := by
            have h1 := hinv.num
            have h2 := hinv.len
            rw [List.length_take] at h2
            show (bld n (L.take j)).1.n + (bld n (L.take j)).1.ands.length ≤ n + j
            omega
          have hlit := hinv.lits
          have hsmall : ∀ x ∈ (bld n (L.take j)).2, 0 ≤ x ∧ x ≤ 1000000 := fun x hx => by have := isL_iff.1 (hlit x hx); omega
          clear hinv
          generalize hpv : L.getD j (0, 0) = p at *
          obtain ⟨x, y⟩ := p
          simp only at q1 q2 hrp
          have HST := Lib.hid hst
          clear hst hpv
          generalize bld n (L.take j) = s at *
          obtain ⟨g, bys⟩ := s
          simp only at hG hown hby hglen hlit hsmall
          have j0 : (0 : Int) ≤ j := by omega
          have j1 : (j : Int) < m := by omega
          have hwA : Frm (fun _ => False) wr (wr.alloc (.cells #[.int .i64 x, .int .i64 y] 73)) := (Frm.refl _ wr).alloc _
          have hbA := hb.alloc (.cells #[.int .i64 x, .int .i64 y] 73)
          have hbaA := hba.alloc (.cells #[.int .i64 x, .int .i64 y] 73)
          have htA : Blk (wr.alloc (.cells #[.int .i64 x, .int .i64 y] 73)) wr.heap.size 73 [.int .i64 x, .int .i64 y] := Blk.new _ _ _
          have hGA := hG.frm hwA (fun _ _ => id)
          have hownA := hown.alloc (.cells #[.int .i64 x, .int .i64 y] 73)
          have hfkA := hfk.trans hwA
          have hzA : (wr.alloc (.cells #[.int .i64 x, .int .i64 y] 73)).heap.size = wr.heap.size + 1 := by simp
          have hbsl := own_sl hownA
          have a0 := hbaA.at_ 0 rfl
          have HA := Lib.hid (fun (l : Int) (W : World) (h0 : 0 ≤ l) (h1 : (l / 2).toNat < n + 1 + j) (hf : Frm (fun _ => False) (wr.alloc (.cells #[.int .i64 x, .int .i64 y] 73)) W) => lit_any w3.heap.size A' (n + 1 + j) c' _ bys l W hby h0 h1 (by omega) hsmall (hf.cell a0 id) (hbsl.frm hf (fun _ _ => id)))
          have HAX := Lib.hid (fun W hf => HA.out x W (by omega) (by omega) hf)
          have HAY := Lib.hid (fun W hf => HA.out y W (by omega) (by omega) hf)
          clear HA
          have hlx := asL_isL (l := x) hlit
          have hly := asL_isL (l := y) hlit
          have HX := Lib.hid (and_any E fq gb g (wr.alloc (.cells #[.int .i64 x, .int .i64 y] 73)).drew (asL bys x) (asL bys y) (hGA.drewN 1) hlx hly (by omega))
          have hbst : bldStep (g, bys) (x, y) = ((g.and (asL bys x) (asL bys y)).2, bys ++ [(g.and (asL bys x) (asL bys y)).1]) := rfl
          have hst2 := HST.out
          rw [hbst] at hst2
          have HST2 := Lib.hid hst2
          clear hst2 hbst HST hG hGA hlit hsmall hlx hly hb hba hfk hbsl
          generalize asL bys x = X at *
          generalize asL bys y = Y at *
          generalize g.and X Y = R at *
          obtain ⟨r, g2⟩ := R
          simp only at HX HST2
          have x0 := htA.at_ 0 rfl
          have x1 := htA.at_ 1 rfl
          have hH0 : (wr.alloc (.cells #[.int .i64 x, .int .i64 y] 73)).drew.cell? ⟨w3.heap.size, 0, none⟩ = some (.slice A' (n + 1 + j) c') ∧ (wr.alloc (.cells #[.int .i64 x, .int .i64 y] 73)).drew.cell? ⟨wr.heap.size, 0, none⟩ = some (.int .i64 x) ∧ (wr.alloc (.cells #[.int .i64 x, .int .i64 y] 73)).drew.cell? ⟨wr.heap.size, 1, none⟩ = some (.int .i64 y) := ⟨a0, x0, x1⟩
          go_wp2_with fail
          have hHeld := hH0
          refine Held.begin (fun w' => w'.cell? ⟨w3.heap.size, 0, none⟩ = some (.slice A' (n + 1 + j) c') ∧ w'.cell? ⟨wr.heap.size, 0, none⟩ = some (.int .i64 x) ∧ w'.cell? ⟨wr.heap.size, 1, none⟩ = some (.int .i64 y)) 13 (by kernel_rfl) ?_
          refine Held.take (i := 0) (oi := ?oa0) (v := ?va0) ?hia0 (by kernel_rfl) (by kernel_rfl) (by kernel_rfl) (by kernel_rfl) (fun _ _ _ h => h) (Or.inl ⟨?hwa0, ?hya0⟩) (by assumption) ?resta0
          case hia0 => (simp only [List.getElem?_toArray, List.getElem?_cons_zero]; rfl)
          case hwa0 => rfl
          case hya0 => (intro w hSw; (try dsimp only at hSw); go_simp; try with_reducible rfl)
          (try simp only [Act.put, List.setIfInBounds_toArray, List.set_cons_zero, List.set_cons_succ])
          refine Held.take (i := 1) (oi := ?oa1) (v := ?va1) ?hia1 (by kernel_rfl) (by kernel_rfl) (by kernel_rfl) (by kernel_rfl) (fun _ _ _ h => h) (Or.inl ⟨?hwa1, ?hya1⟩) (by assumption) ?resta1
          case hia1 => (simp only [List.getElem?_toArray, List.getElem?_cons_succ, List.getElem?_cons_zero]; rfl)
          case hwa1 => rfl
          case hya1 => (intro w hSw; (try dsimp only at hSw); go_simp; try with_reducible rfl)
          (try simp only [Act.put, List.setIfInBounds_toArray, List.set_cons_zero, List.set_cons_succ])
          refine Held.take (i := 2) (oi := ?oa2) (v := ?va2) ?hia2 (by kernel_rfl) (by kernel_rfl) (by kernel_rfl) (by kernel_rfl) (fun _ _ _ h => h) (Or.inl ⟨?hwa2, ?hya2⟩) (by assumption) ?resta2
          case hia2 => (simp only [List.getElem?_toArray, List.getElem?_cons_succ, List.getElem?_cons_zero]; rfl)
          case hwa2 => rfl
          case hya2 => (intro w hSw; (try dsimp only at hSw); go_simp; try with_reducible rfl)
          (try simp only [Act.put, List.setIfInBounds_toArray, List.set_cons_zero, List.set_cons_succ])
          refine Held.take (i := 3) (oi := ?oa3) (v := ?va3) ?hia3 (by kernel_rfl) (by kernel_rfl) (by kernel_rfl) (by kernel_rfl) (fun _ _ _ h => h) (Or.inl ⟨?hwa3, ?hya3⟩) (by assumption) ?resta3
          case hia3 => (simp only [List.getElem?_toArray, List.getElem?_cons_succ, List.getElem?_cons_zero]; rfl)
          case hwa3 => rfl
          case hya3 => (intro w hSw; (try dsimp only at hSw); go_simp; try with_reducible rfl)
          (try simp only [Act.put, List.setIfInBounds_toArray, List.set_cons_zero, List.set_cons_succ])
          refine Held.take (i := 4) (oi := ?oa4) (v := ?va4) ?hia4 (by kernel_rfl) (by kernel_rfl) (by kernel_rfl) (by kernel_rfl) (fun _ _ _ h => h) (Or.inl ⟨?hwa4, ?hya4⟩) (by assumption) ?resta4
          case hia4 => (simp only [List.getElem?_toArray, List.getElem?_cons_succ, List.getElem?_cons_zero]; rfl)
          case hwa4 => rfl
          case hya4 => (intro w hSw; (try dsimp only at hSw); go_simp; try with_reducible rfl)
          (try simp only [Act.put, List.setIfInBounds_toArray, List.set_cons_zero, List.set_cons_succ])
          refine Held.take (i := 6) (oi := ?oa6) (v := ?va6) ?hia6 (by kernel_rfl) (by kernel_rfl) (by kernel_rfl) (by kernel_rfl) (fun _ _ _ h => h) (Or.inl ⟨?hwa6, ?hya6⟩) (by assumption) ?resta6
          case hia6 => (simp only [List.getElem?_toArray, List.getElem?_cons_succ, List.getElem?_cons_zero]; rfl)
          case hwa6 => rfl
          case hya6 => (intro w hSw; (try dsimp only at hSw); go_simp; try with_reducible rfl)
          (try simp only [Act.put, List.setIfInBounds_toArray, List.set_cons_zero, List.set_cons_succ])
          refine Held.take (i := 7) (oi := ?oa7) (v := ?va7) ?hia7 (by kernel_rfl) (by kernel_rfl) (by kernel_rfl) (by kernel_rfl) (fun _ _ _ h => h) (Or.inl ⟨?hwa7, ?hya7⟩) (by assumption) ?resta7
          case hia7 => (simp only [List.getElem?_toArray, List.getElem?_cons_succ, List.getElem?_cons_zero]; rfl)
          case hwa7 => rfl
          case hya7 => (intro w hSw; (try dsimp only at hSw); go_simp; try with_reducible rfl)
          (try simp only [Act.put, List.setIfInBounds_toArray, List.set_cons_zero, List.set_cons_succ])
          refine Held.take (i := 8) (oi := ?oa8) (v := ?va8) ?hia8 (by kernel_rfl) (by kernel_rfl) (by kernel_rfl) (by kernel_rfl) (fun _ _ _ h => h) (Or.inl ⟨?hwa8, ?hya8⟩) (by assumption) ?resta8
          case hia8 => (simp only [List.getElem?_toArray, List.getElem?_cons_succ, List.getElem?_cons_zero]; rfl)
          case hwa8 => rfl
          case hya8 => (intro w hSw; (try dsimp only at hSw); go_simp; try with_reducible rfl)
          (try simp only [Act.put, List.setIfInBounds_toArray, List.set_cons_zero, List.set_cons_succ])
          refine Held.next (i := 5) (o := ?oa5) (by kernel_rfl) ?hia5 (fun K hK => ?sta5)
          case hia5 => (simp only [List.getElem?_toArray, List.getElem?_cons_succ, List.getElem?_cons_zero]; rfl)
          go_simp
          (go_at_call 119; refine (HAX.out _ ((Frm.refl _ _).drewN 1)).mono ?_; rintro e w' ⟨rfl, rfl⟩)
          (try go_wp2_with fail)
          refine hK.out _ _ (fun _ => by assumption) ?_
          clear hK K
          (try simp only [Act.put, List.setIfInBounds_toArray, List.set_cons_zero, List.set_cons_succ])
          refine Held.next (i := 9) (o := ?oa9) (by kernel_rfl) ?hia9 (fun K hK => ?sta9)
          case hia9 => (simp only [List.getElem?_toArray, List.getElem?_cons_succ, List.getElem?_cons_zero]; rfl)
          go_simp
          (go_at_call 119; refine (HAY.out _ ((Frm.refl _ _).drewN 1)).mono ?_; rintro e w' ⟨rfl, rfl⟩)
          (try go_wp2_with fail)
          refine hK.out _ _ (fun _ => by assumption) ?_
          clear hK K
          (try simp only [Act.put, List.setIfInBounds_toArray, List.set_cons_zero, List.set_cons_succ])
          refine Held.next (i := 10) (o := ?oa10) (by kernel_rfl) ?hia10 (fun K hK => ?sta10)
          case hia10 => (simp only [List.getElem?_toArray, List.getElem?_cons_succ, List.getElem?_cons_zero]; rfl)
          go_simp
          (go_at_call 27; refine HX.out.mono ?_; rintro e w5 ⟨rfl, fr, hG5, hg5, hf5⟩; have hnt : ¬ fq wr.heap.size := (fun h => by have := (hfq _ h).2.1; omega); have hna : ¬ fq w3.heap.size := (fun h => (hfq _ h).2.2 rfl))
          (try go_wp2_with fail)
          refine hK.out _ _ (fun _ => by exact ⟨hf5.cell hHeld.1 hna, hf5.cell hHeld.2.1 hnt, hf5.cell hHeld.2.2 hnt⟩) ?_
          clear hK K
          (try simp only [Act.put, List.setIfInBounds_toArray, List.set_cons_zero, List.set_cons_succ])
          have hH2 := And.intro (hf5.cell hHeld.1 hna) (And.intro (hf5.cell hHeld.2.1 hnt) (hf5.cell hHeld.2.2 hnt))
          have hsd : (wr.alloc (.cells #[.int .i64 x, .int .i64 y] 73)).drew.heap.size = wr.heap.size + 1 := hzA
          have hz5 := hf5.size
          have hown5 : w5.ownsRow w2.heap.size 3 1 (.slice A' (n + 1 + j) c') (n + 1 + j) (bys.map (.int .i64)) := own_frm (own_frm hownA ((Frm.refl (fun _ => False) _).drewN 1) (fun _ _ => id)) hf5 (fun g hg => (hdis g hg).2)
          have hb5 := (hbA.drewN 1).frm hf5 (fun h => by have := (hfq _ h).1; omega)
          have hba5 := (hbaA.drewN 1).frm hf5 hna
          have hfk5 := (hfkA.drewN 1).then' hf5 (fun g hg e => by have := (hfq g e).1; omega)
          have hfr : ∀ g, fr g → w1.heap.size ≤ g ∧ g < w5.heap.size ∧ g ≠ w3.heap.size := fun g hg => by rcases hg5 g hg with h | h; have := hfq g h; omega; omega
          have hdis5 : ∀ g, (Value.slice A' (n + 1 + j) c').ownBlock = some g → g ≠ w3.heap.size ∧ ¬ fr g := fun g hg => ⟨(hdis g hg).1, fun hx => by rcases hg5 g hx with h | h; exact (hdis g hg).2 h; have := (hownA.lt g hg).2; omega⟩
          refine Held.next (i := 11) (o := ?oa11) (by kernel_rfl) ?hia11 (fun K hK => ?sta11)
          case hia11 => (simp only [List.getElem?_toArray, List.getElem?_cons_succ, List.getElem?_cons_zero]; rfl)
          go_simp
          refine hK.out _ _ (fun _ => by exact ⟨(World.cell?_alloc_lt _ _ _ (World.block_lt_of_cell? _ _ hH2.1)).trans hH2.1, (World.cell?_alloc_lt _ _ _ (World.block_lt_of_cell? _ _ hH2.2.1)).trans hH2.2.1, (World.cell?_alloc_lt _ _ _ (World.block_lt_of_cell? _ _ hH2.2.2)).trans hH2.2.2⟩) ?_
          clear hK K
          (try simp only [Act.put, List.setIfInBounds_toArray, List.set_cons_zero, List.set_cons_succ])
          refine Held.next (i := 12) (o := ?oa12) (by kernel_rfl) ?hia12 (fun K hK => ?sta12)
          case hia12 => (simp only [List.getElem?_toArray, List.getElem?_cons_succ, List.getElem?_cons_zero]; rfl)
          (rw [if_pos (by rfl)]; refine wp_append_lies _ (.tmp 51) (.tmp 62) 22 rfl w2.heap.size 3 i0 (.int .i64 0) 1 8 Tryd.underlying22 hi0 hz0 hz1 hz2 rfl (by decide) _ _ _ rfl (hown5.alloc (.cells #[.int .i64 r] 3)) ⟨w5.heap.size, 0, none⟩ 1 1 [.int .i64 r] rfl rfl (cell_one_new _ _ _) (by intro u hu; simp at hu; subst hu; rfl) (by decide) (by unfold maxLen; omega) (by omega) (by simp; omega) _ rfl ?_; intro gg cap w6 hown6 hgrow hat hglt; have hgr : Frm (fun g => w2.heap.size ≤ g ∧ (Value.slice A' (n + 1 + j) c').ownBlock = some g) w5 w6 := (((Frm.refl _ w5).alloc (.cells #[.int .i64 r] 3)).grown hgrow (fun g hg hlt => ⟨(hown5.lt g hg).1, hg⟩)); have hnr : ¬ (Value.slice A' (n + 1 + j) c').ownBlock = some wr.heap.size := (fun h => by have := (hown.lt _ h).2; omega))
          refine hK.out _ _ (fun _ => by exact ⟨hgr.cell hH2.1 (fun h => (hdis5 _ h.2).1 rfl), hgr.cell hH2.2.1 (fun h => hnr h.2), hgr.cell hH2.2.2 (fun h => hnr h.2)⟩) ?_
          clear hK K
          (try simp only [Act.put, List.setIfInBounds_toArray, List.set_cons_zero, List.set_cons_succ])
          have hb6 := hb5.frm hgr (fun h => by have := h.1; omega)
          have hba6 := hba5.frm hgr (fun h => (hdis5 _ h.2).1 rfl)
          have hG6 := hG5.frm hgr (fun g hg h => (hdis5 g h.2).2 hg)
          have hz6 := hgr.size
          have hfk6 := hfk5.then' hgr (fun g hg h => by have := h.1; omega)
          have hdis6 : ∀ g, (Value.slice (some ⟨gg, 0, none⟩) (n + 1 + j + 1) cap).ownBlock = some g → g ≠ w3.heap.size ∧ ¬ fr g := fun g hg => by simp [Value.ownBlock] at hg; subst hg; rcases hat with h | h; exact hdis5 gg h; simp at h; exact ⟨by omega, fun hx => by have := (hfr gg hx).2.1; omega⟩
          have hm6 : (bys.map (Value.int .i64)) ++ [.int .i64 r] = (bys ++ [r]).map (.int .i64) := by simp
          rw [hm6] at hown6
          have a6 := hba6.at_ 0 rfl
          have af := hba6.frozen 0
          clear hgrow hm6
          refine Held.next (i := 13) (o := ?oa13) (by kernel_rfl) ?hia13 (fun K hK => ?sta13)
          case hia13 => (simp only [List.getElem?_toArray, List.getElem?_cons_succ, List.getElem?_cons_zero]; rfl)
          go_simp
          refine hK.out _ _ (fun h => absurd h (by decide)) ?_
          clear hK K
          (try simp only [Act.put, List.setIfInBounds_toArray, List.set_cons_zero, List.set_cons_succ])
          refine Held.done (by kernel_rfl) ?_ _
          refine NoPanic.normal ?_
          have hset : Frm (fun g => g = w3.heap.size) w6 (w6.setCell ⟨w3.heap.size, 0, none⟩ (.slice (some ⟨gg, 0, none⟩) (n + 1 + j + 1) cap)) := (Frm.refl (fun g => g = w3.heap.size) w6).setCell (p := ⟨w3.heap.size, 0, none⟩) (fun _ => rfl) _
          have hsz7 : (w6.setCell ⟨w3.heap.size, 0, none⟩ (.slice (some ⟨gg, 0, none⟩) (n + 1 + j + 1) cap)).heap.size = w6.heap.size := by simp [World.setCell]
          go_wp2_with fail
          exact ⟨⟨j + 1, some ⟨gg, 0, none⟩, cap, fr, by omega, by go_num, hb6.frm hset (by omega), hba6.set_ 0 _, by rw [HST2.out]; exact hG6.frm hset (fun g hg h => (hfr g hg).2.2 h), fun g hg => by have := hfr g hg; omega, by rw [HST2.out]; exact own_frm hown6 hset (fun g hg => (hdis6 g hg).1), hdis6, by omega, hfk6.then' hset (fun g hg h => by omega)⟩, by simp [intOf]; omega⟩
        · obtain ⟨W1, rfl⟩ : ∃ W1, W1 = wr := ⟨_, rfl⟩
          have hjm : j = m := by omega
          have ht : L.take j = L := List.take_of_length_le (by rw [HM.out]; omega)
          rw [ht] at hG hown hinv
          have hby := hinv.many
          rw [HM.out] at hby
          have hsmall : ∀ x ∈ (bld n L).2, 0 ≤ x ∧ x ≤ 1000000 := fun x hx => by
            have h1 := isL_iff.1 (hinv.lits x hx)
            have h2 := hinv.num
            have h3 := hinv.len
            have h4 : (bld n L).1.len = (bld n L).1.n + (bld n L).1.ands.length := rfl
            rw [HM.out] at h3
            omega
          have hbsl := own_sl hown
          have a0 := hba.at_ 0 rfl
          have hge : ¬ (j : Int) < m := by omega
          have hjn : n + 1 + j = n + 1 + m := by omega
          rw [hjn] at hbsl a0
          have hbw := hb
          have HA := Lib.hid (fun (l : Int) (W : World) (h0 : 0 ≤ l) (h1 : (l / 2).toNat < n + 1 + m) (hf : Frm (fun _ => False) W1 W) => lit_any w3.heap.size A' (n + 1 + m) c' _ (bld n L).2 l W hby h0 h1 (by omega) hsmall (hf.cell a0 id) (hbsl.frm hf (fun _ _ => id)))
          have hma : ∀ i, i < k → ((l.map (asL (bld n L).2)).map (Value.int .i64)).take i ++ [.int .i64 (asL (bld n L).2 (l.getD i 0))] = ((l.map (asL (bld n L).2)).map (Value.int .i64)).take (i + 1) := by
            intro i hi
            have hi2 : i < l.length := by rw [HK.out]; exact hi
            rw [List.take_succ_eq_append_getElem (by simpa using hi2)]
            simp [List.getD, hi2]
          have HMA := Lib.hid hma
          have HXX := Lib.hid hG
          have HINV := Lib.hid hinv
          clear hinv hsmall hown hdis hbsl hma hG hs hlt ht a0 hba
          generalize hbl : bld n L = s at *
          obtain ⟨g, bys⟩ := s
          have HBL := Lib.hid hbl
          clear hbl
          simp only at HMA
          generalize hml : l.map (asL bys) = M at *
          have hMl : M.length = k := by rw [← hml, List.length_map]; exact HK.out
          have HML := Lib.hid hml
          have HMl := Lib.hid hMl
          clear hml hMl
          have b2 := hb.at_ 2 rfl
          go_wp2_with fail
          go_loopw [12, 68] (fun t i wr => ∃ (q : Nat) (O : Option Addr) (oc : Nat), q ≤ k ∧ i = .int .i64 q ∧ t = .slice O q oc ∧ wr.ownsRow W1.heap.size 3 1 (.slice O q oc) q ((M.map (.int .i64)).take q) ∧ Frm (fun _ => False) W1 wr) (fun _ i _ => k - (intOf i).toNat)
          case atStart => exact ⟨0, none, 0, by omega, rfl, rfl, by simpa using World.ownsRow_nil _ _ _ _, Frm.refl _ _⟩
          case round =>
            clear b2
            obtain ⟨q, O, oc, hq, rfl, rfl, hown, hfqq⟩ := hrel
            have b2 := (hb.frm hfqq id).at_ 2 rfl
            by_cases hlt : q < k
            · have hlt2 : q < l.length := by rw [HK.out]; exact hlt
              obtain ⟨b, o, u, rfl, _, hu, hcell⟩ := (ho.frm (hfk.trans hfqq) (fun _ _ => id)).at_ hlt
              obtain rfl := at_getD hu
              have hx := isL_iff.1 (hlits (l.getD q 0) (by simp [List.getD, hlt2]))
              have HG := Lib.hid (HMA.out q hlt)
              clear hu
              generalize l.getD q 0 = x at *
              have q0 : (0 : Int) ≤ q := by omega
              have q1 : (q : Int) < k := by omega
              have HAX := Lib.hid (HA.out x wr (by omega) (by omega) hfqq)
              generalize asL bys x = X at *
              go_wp2_with fail
              refine HAX.out.mono ?_
              rintro e w' ⟨rfl, rfl⟩
              go_wp2_with (at_builtin; refine wpList_append_own _ rfl (.tmp 72) (.tmp 76) 22 rfl W1.heap.size 3 i0 (.int .i64 0) 1 8 Tryd.underlying22 hi0 hz0 hz1 hz2 rfl (by decide) _ _ _ rfl (hown.alloc (.cells #[.int .i64 X] 3)) ⟨wr.heap.size, 0, none⟩ 1 1 [.int .i64 X] rfl rfl (cell_one_new _ _ _) ?c2 ?c3 ?c4 ?c5 ?_)
              case c2 => intro u hu; simp at hu; subst hu; rfl
              case c3 => unfold maxLen; omega
              case c4 => omega
              case c5 => have := hfqq.size; simp; omega
              intro v' w3 hown3 hgrow _
              rw [HG.out] at hown3
              obtain ⟨A2, c2, rfl, _⟩ := (Sl.of_own hown3).form
              have hfq3 : Frm (fun _ => False) W1 w3 := (hfqq.alloc (.cells #[.int .i64 X] 3)).grown hgrow (fun g hg hlt => by have := (hown.lt g hg).1; omega)
              clear hown hgrow hfqq hcell b2
              go_wp2_with fail
              go_roundw
              case rel => exact ⟨q + 1, A2, c2, by omega, by go_num, rfl, hown3, hfq3⟩
              case measure => simp [intOf]; omega
            · obtain rfl : k = q := by omega
              rw [List.take_of_length_le (by simp [HMl.out])] at hown
              have hXf := HXX.out.frm hfqq (fun _ _ => id)
              have hzq := hfqq.size
              have hosl := own_sl hown
              go_wp2_with fail
              refine bodyPost_ret (v := .tuple #[.pointer (some ⟨gb, 0, none⟩), .slice O k oc, .nilIface]) (by simp [results, Tryd.results66, go_sem]) rfl ⟨gb, fq, O, oc, rfl, ?_, fun g hg => by have := hfq g hg; omega, ?_, hfk.trans hfqq⟩
              · rw [HBL.out]; exact hXf
              · rw [HBL.out]; simp only; rw [HML.out]; exact hosl.mono (fun g _ h => ⟨by have := hfk.size; omega, fun hx => by have := (hfq g hx).2.1; omega⟩)

end Go.Proofs.YtkjlgamggkencaaDoor
