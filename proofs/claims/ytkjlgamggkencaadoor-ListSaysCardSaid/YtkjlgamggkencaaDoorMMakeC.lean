/-
  The contract of skolemmake.Circuit.
-/
import Derived.Test.YtkjlgamggkencaaDoorMCirc
import Derived.Test.YtkjlgamggkencaaDoorMPure
import Derived.Test.YtkjlgamggkencaaDoorMRegion
namespace Go.Proofs.YtkjlgamggkencaaDoor
open Go.RowKit

theorem gate_hi_lo (X Y : Int) : ∃ hi lo : Int, (max X Y, min X Y) = (hi, lo) ∧ ((hi = X ∧ lo = Y ∧ Y ≤ X) ∨ (hi = Y ∧ lo = X ∧ X < Y)) := by
  by_cases h : Y ≤ X
  · exact ⟨X, Y, by rw [Int.max_eq_left h, Int.min_eq_right h], .inl ⟨rfl, rfl, h⟩⟩
  · exact ⟨Y, X, by rw [Int.max_eq_right (by omega), Int.min_eq_left (by omega)], .inr ⟨rfl, rfl, by omega⟩⟩

set_option maxRecDepth 100000 in
set_option maxHeartbeats 4000000 in
theorem make_any (i : Nat) (a0 : Option Addr) (len0 cap0 : Nat) (z0 : List Int) (hz0 : z0.length = len0) (a1 : Option Addr) (len1 cap1 : Nat) (z1 : List Int) (hz1 : z1.length = len1) (F G : Nat → Prop) (w : World)
    (s0 : Sl w F 1 (.slice a0 len0 cap0) len0 (z0.map (.int .i64))) (s1 : Sl w G 1 (.slice a1 len1 cap1) len1 (z1.map (.int .i64))) (h0 : len0 ≤ 400) (h1 : len1 ≤ 400) (hi : i ≤ 400) :
    Calls Tryd.prog 44 #[.int .i64 i, .slice a0 len0 cap0, .slice a1 len1 cap1] w fun e w' => ∃ v, e = .returned v ∧ IsC w' (fun k => w.heap.size ≤ k) v i (mkAnds i z0) (mkOuts i z0 z1) ∧ Frm (fun _ => False) w w' := by
  have HZ0 := Lib.hid hz0
  have HZ1 := Lib.hid hz1
  clear hz0 hz1
  obtain ⟨i0, hi0, hp0, hp1, hp2⟩ := info_parts infoPair
  obtain ⟨j0, hj0, hq0, hq1, hq2⟩ := info_parts infoIntG
  go_enter Tryd.func44, Tryd.ntmps44
  go_wp2_with fail
  have hf0 := ((Frm.refl (fun _ => False) w).alloc (.cells #[.int .i64 0, .slice none 0 0, .slice none 0 0] 40)).alloc (.cells #[.int .i64 i, .slice none 0 0, .slice none 0 0] 40)
  have hb0 : Blk ((w.alloc (.cells #[.int .i64 0, .slice none 0 0, .slice none 0 0] 40)).alloc (.cells #[.int .i64 i, .slice none 0 0, .slice none 0 0] 40)) (w.heap.size + 1) 40 [.int .i64 i, .slice none 0 0, .slice none 0 0] := Blk.new_at _ _ _ _ (by simp)
  have hr0 : Blk ((w.alloc (.cells #[.int .i64 0, .slice none 0 0, .slice none 0 0] 40)).alloc (.cells #[.int .i64 i, .slice none 0 0, .slice none 0 0] 40)) w.heap.size 40 [.int .i64 0, .slice none 0 0, .slice none 0 0] := (Blk.new _ _ _).alloc _
  go_loopw [8] (fun iv wr => ∃ (k : Nat) (A : Option Addr) (c : Nat), 2 * k ≤ len0 ∧ iv = .int .i64 (2 * (k : Int)) ∧ Blk wr w.heap.size 40 [.int .i64 0, .slice none 0 0, .slice none 0 0] ∧ Blk wr (w.heap.size + 1) 40 [.int .i64 i, .slice A k c, .slice none 0 0] ∧ wr.ownsRow (w.heap.size + 2) 73 2 (.slice A k c) k (pairs (mkFew i z0 k)) ∧ Frm (fun _ => False) w wr) (fun iv _ => (2 * len0 + 2 - intOf iv).toNat)
  case atStart => exact ⟨0, none, 0, by omega, rfl, hr0, hb0, World.ownsRow_nil _ _ _ _, hf0⟩
  case round =>
    clear hb0 hf0 hr0
    obtain ⟨W1, rfl⟩ : ∃ W1, W1 = wr := ⟨_, rfl⟩
    obtain ⟨k, A, c, hk, rfl, hr, hb, hown, hfk⟩ := hrel
    have b0 := hb.at_ 0 rfl
    have b1 := hb.at_ 1 rfl
    have fr1 := hb.frozen 1
    by_cases hlt : 2 * k + 1 < len0
    · have sk := s0.frm hfk (fun _ _ => id)
      obtain ⟨bk, o, u, rfl, hbF, hu, hcell⟩ := sk.at_ (k := 2 * k) (by omega)
      obtain rfl := at_getD hu
      obtain ⟨bk', o', u', e', hbF', hu', hcell'⟩ := sk.at_ (k := 2 * k + 1) (by omega)
      cases e'
      obtain rfl := at_getD hu'
      clear hu hu' sk hbF hbF'
      have hmg : mkGate i z0 k = (max (z0.getD (2 * k) 0 % (2 * ((i : Int) + k + 1))) (z0.getD (2 * k + 1) 0 % (2 * ((i : Int) + k + 1))), min (z0.getD (2 * k) 0 % (2 * ((i : Int) + k + 1))) (z0.getD (2 * k + 1) 0 % (2 * ((i : Int) + k + 1)))) := rfl
      generalize z0.getD (2 * k) 0 = x at *
      generalize z0.getD (2 * k + 1) 0 = y at *
      have hlt' : 2 * (k : Int) + 1 < len0 := by omega
      have wk : IntKind.i64.wrap (2 * (k : Int) + 1) = 2 * (k : Int) + 1 := IntWalk.i64_in _ (by omega)
      have k0 : (0 : Int) ≤ 2 * (k : Int) := by omega
      have k1 : (0 : Int) ≤ 2 * (k : Int) + 1 := by omega
      have k2 : 2 * (k : Int) < len0 := by omega
      have k3 : (2 * (k : Int)).toNat = 2 * k := by omega
      have k4 : (2 * (k : Int) + 1).toNat = 2 * k + 1 := by omega
      have HN := Lib.hid (fun x W => number_any x (2 * ((i : Int) + k + 1)) W (by omega) (by omega))
      obtain ⟨hi, lo, hhl, ho⟩ := gate_hi_lo (x % (2 * ((i : Int) + k + 1))) (y % (2 * ((i : Int) + k + 1)))
      rw [hhl] at hmg
      have hts : pairs (mkFew i z0 (k + 1)) = pairs (mkFew i z0 k) ++ [.int .i64 hi, .int .i64 lo] := by rw [mkFew_succ, hmg, pairs_append]; simp [pairs]
      have HT := Lib.hid hts
      clear hmg hhl hts
      go_wp2_with fail
      refine (HN.out _ _).mono ?_
      rintro e w' ⟨rfl, rfl⟩
      go_wp2_with fail
      refine (HN.out _ _).mono ?_
      rintro e w' ⟨rfl, rfl⟩
      generalize x % (2 * ((i : Int) + k + 1)) = X at *
      generalize y % (2 * ((i : Int) + k + 1)) = Y at *
      rcases ho with ⟨e1, e2, ho⟩ | ⟨e1, e2, ho⟩
      all_goals
        subst e1
        subst e2
        have hmn1 : (if lo < hi then lo else hi) = lo := by split <;> omega
        have hmn2 : (if hi < lo then hi else lo) = lo := by rw [if_neg (by omega)]
        go_wp2_with (at_builtin; (refine wpList_append_own_at _ rfl (.tmp 43) (.tmp 51) 35 rfl (w.heap.size + 2) 73 i0 (.agg #[.int .i64 0, .int .i64 0]) 2 16 Tryd.underlying35 hi0 hp0 hp1 hp2 rfl (by decide) _ _ _ rfl (hown.alloc (.cells #[.int .i64 hi, .int .i64 lo] 73)) ⟨W1.heap.size, 0, none⟩ 1 1 [.int .i64 hi, .int .i64 lo] rfl rfl ?c1 ?c2 ?c3 ?c4 ?c5 ?_))
        case c1 => intro j u hu; rw [addr_add, Nat.zero_add]; exact ((Blk.new W1 73 [.int .i64 hi, .int .i64 lo]).cell j).trans hu
        case c2 => intro u hu; simp at hu; rcases hu with rfl | rfl <;> rfl
        case c3 => unfold maxLen; omega
        case c4 => omega
        case c5 => have := hb.lt; simp at this ⊢; omega
        intro v' w2 hown2 hgrow _ _
        have hgr : Frm (fun g => w.heap.size + 2 ≤ g) W1 w2 := ((Frm.refl _ W1).alloc (.cells #[.int .i64 hi, .int .i64 lo] 73)).grown hgrow (fun g hg hlt => (hown.lt g hg).1)
        have hb2 := hb.frm hgr (by omega)
        have hfk2 := hfk.then' hgr (fun g hg h => by omega)
        rw [← HT.out] at hown2
        obtain ⟨A', c', rfl, _⟩ := (Sl.of_own hown2).form
        have g1 := hb2.at_ 1 rfl
        have gf := hb2.frozen 1
        have hset : Frm (fun g => g = w.heap.size + 1) w2 (w2.setCell ⟨w.heap.size + 1, 1, none⟩ (.slice A' (k + 1) c')) := (Frm.refl (fun g => g = w.heap.size + 1) w2).setCell (p := ⟨w.heap.size + 1, 1, none⟩) (fun _ => rfl) _
        have hb3 := hb2.set_ 1 (.slice A' (k + 1) c')
        have hown3 := own_frm hown2 hset (fun g hg e => by have := (hown2.lt g hg).1; omega)
        have hfk3 := hfk2.then' hset (fun g hg h => by omega)
        have hr3 := (hr.frm hgr (by omega)).frm hset (by omega)
        clear hr hb hown hb2 hown2 hgrow hgr hset hfk hfk2 b0 b1 fr1
        go_wp2_with fail
        go_roundw
        case rel => exact ⟨k + 1, A', c', by omega, by go_num, hr3, hb3, hown3, hfk3⟩
        case measure => simp [intOf]; omega
    · have hM : k = z0.length / 2 := by have := HZ0.out; omega
      have hands := own_sl hown
      rw [hM, mkFew_all, ← hM] at hands
      have HM := Lib.hid hM
      clear hown s0 hM
      have hge : ¬ 2 * (k : Int) + 1 < len0 := by omega
      have hsz0 := hb.lt
      go_wp2_with fail
      go_loopw [12] (fun iv wr => ∃ (m : Nat) (B : Option Addr) (d : Nat), m ≤ len1 ∧ iv = .int .i64 (m : Int) ∧ Blk wr (w.heap.size + 1) 40 [.int .i64 i, .slice A k c, .slice B m d] ∧ wr.ownsRow W1.heap.size 3 1 (.slice B m d) m (((mkOuts i z0 z1).map (.int .i64)).take m) ∧ Frm (fun g => g = w.heap.size + 1) W1 wr) (fun iv _ => len1 - (intOf iv).toNat)
      case atStart => exact ⟨0, none, 0, by omega, rfl, hb, by simpa using World.ownsRow_nil _ _ _ _, Frm.refl _ _⟩
      case round =>
        clear hb b0 b1 fr1
        obtain ⟨m, B, d, hm, rfl, hb, hown, hfx⟩ := hrel
        have b1 := hb.at_ 1 rfl
        have b2 := hb.at_ 2 rfl
        have hfwx := hfk.then' hfx (fun g hg h => by omega)
        by_cases hlt : m < len1
        · obtain ⟨bk, o, u, rfl, hbF, hu, hcell0⟩ := s1.at_ (k := m) hlt
          obtain rfl := at_getD hu
          have hbk : bk < w.heap.size := World.block_lt_of_cell? _ _ hcell0
          have hcell := hfwx.cell hcell0 id
          have hszw := hfk.size
          clear hu hbF hcell0
          have hmo : (mkOuts i z0 z1).getD m 0 = z1.getD m 0 % (2 * ((i : Int) + k + 1)) := by
            rw [HM.out]
            unfold mkOuts
            have hl : m < z1.length := by rw [HZ1.out]; exact hlt
            simp [List.getD, hl]
          have HMO := Lib.hid hmo
          clear hmo
          generalize z1.getD m 0 = x at *
          have hm0 : (0 : Int) ≤ m := by omega
          have hm1 : (m : Int) < len1 := by omega
          have HN := Lib.hid (fun x W => number_any x (2 * ((i : Int) + k + 1)) W (by omega) (by omega))
          have wa : IntKind.i64.wrap ((i : Int) + k) = (i : Int) + k := IntWalk.i64_in _ (by omega)
          have wb : IntKind.i64.wrap ((i : Int) + k + 1) = (i : Int) + k + 1 := IntWalk.i64_in _ (by omega)
          have wc : IntKind.i64.wrap (2 * ((i : Int) + k + 1)) = 2 * ((i : Int) + k + 1) := IntWalk.i64_in _ (by omega)
          have hHeld0 : wr.drew.cell? ⟨bk, o + m, none⟩ = some (.int .i64 x) ∧ wr.drew.cell? ⟨w.heap.size + 1, 1, none⟩ = some (.slice A k c) ∧ wr.drew.cell? ⟨w.heap.size + 1, 2, none⟩ = some (.slice B m d) := ⟨hcell, b1, b2⟩
          go_wp2_with fail
          have hHeld := hHeld0
          refine Held.begin (fun w' => w'.cell? ⟨bk, o + m, none⟩ = some (.int .i64 x) ∧ w'.cell? ⟨w.heap.size + 1, 1, none⟩ = some (.slice A k c) ∧ w'.cell? ⟨w.heap.size + 1, 2, none⟩ = some (.slice B m d)) 16 (by kernel_rfl) ?_
          refine Held.take (i := 0) (oi := ?oa0) (v := ?va0) ?hia0 (by kernel_rfl) (by kernel_rfl) (by kernel_rfl) (by kernel_rfl) (fun _ _ _ h => h) (Or.inl ⟨?hwa0, ?hya0⟩) (by assumption) ?resta0
          case hia0 => (simp only [List.getElem?_toArray, List.getElem?_cons_zero]; rfl)
          case hwa0 => rfl
          case hya0 => (intro w hSw; (try dsimp only at hSw); go_simp; try with_reducible rfl)
          (try simp only [Act.put, List.setIfInBounds_toArray, List.set_cons_zero, List.set_cons_succ])
          refine Held.take (i := 1) (oi := ?oa1) (v := ?va1) ?hia1 (by kernel_rfl) (by kernel_rfl) (by kernel_rfl) (by kernel_rfl) (fun _ _ _ h => h) (Or.inl ⟨?hwa1, ?hya1⟩) (by assumption) ?resta1
          case hia1 => (simp only [List.getElem?_toArray, List.getElem?_cons_succ, List.getElem?_cons_zero]; rfl)
          case hwa1 => rfl
          case hya1 => (intro w hSw; (try dsimp only at hSw); go_simp; try with_reducible rfl)
          (try simp only [Act.put, List.setIfInBounds_toArray, List.set_cons_zero, List.set_cons_succ])
          refine Held.take (i := 2) (oi := ?oa2) (v := ?va2) ?hia2 (by kernel_rfl) (by kernel_rfl) (by kernel_rfl) (by kernel_rfl) (fun _ _ _ h => h) (Or.inl ⟨?hwa2, ?hya2⟩) (by assumption) ?resta2
          case hia2 => (simp only [List.getElem?_toArray, List.getElem?_cons_succ, List.getElem?_cons_zero]; rfl)
          case hwa2 => rfl
          case hya2 => (intro w hSw; (try dsimp only at hSw); go_simp; try with_reducible rfl)
          (try simp only [Act.put, List.setIfInBounds_toArray, List.set_cons_zero, List.set_cons_succ])
          refine Held.take (i := 3) (oi := ?oa3) (v := ?va3) ?hia3 (by kernel_rfl) (by kernel_rfl) (by kernel_rfl) (by kernel_rfl) (fun _ _ _ h => h) (Or.inl ⟨?hwa3, ?hya3⟩) (by assumption) ?resta3
          case hia3 => (simp only [List.getElem?_toArray, List.getElem?_cons_succ, List.getElem?_cons_zero]; rfl)
          case hwa3 => rfl
          case hya3 => (intro w hSw; (try dsimp only at hSw); go_simp; try with_reducible rfl)
          (try simp only [Act.put, List.setIfInBounds_toArray, List.set_cons_zero, List.set_cons_succ])
          refine Held.take (i := 4) (oi := ?oa4) (v := ?va4) ?hia4 (by kernel_rfl) (by kernel_rfl) (by kernel_rfl) (by kernel_rfl) (fun _ _ _ h => h) (Or.inl ⟨?hwa4, ?hya4⟩) (by assumption) ?resta4
          case hia4 => (simp only [List.getElem?_toArray, List.getElem?_cons_succ, List.getElem?_cons_zero]; rfl)
          case hwa4 => rfl
          case hya4 => (intro w hSw; (try dsimp only at hSw); go_simp; try with_reducible rfl)
          (try simp only [Act.put, List.setIfInBounds_toArray, List.set_cons_zero, List.set_cons_succ])
          refine Held.take (i := 5) (oi := ?oa5) (v := ?va5) ?hia5 (by kernel_rfl) (by kernel_rfl) (by kernel_rfl) (by kernel_rfl) (fun _ _ _ h => h) (Or.inl ⟨?hwa5, ?hya5⟩) (by assumption) ?resta5
          case hia5 => (simp only [List.getElem?_toArray, List.getElem?_cons_succ, List.getElem?_cons_zero]; rfl)
          case hwa5 => rfl
          case hya5 => (intro w hSw; (try dsimp only at hSw); go_simp; try with_reducible rfl)
          (try simp only [Act.put, List.setIfInBounds_toArray, List.set_cons_zero, List.set_cons_succ])
          refine Held.take (i := 6) (oi := ?oa6) (v := ?va6) ?hia6 (by kernel_rfl) (by kernel_rfl) (by kernel_rfl) (by kernel_rfl) (fun _ _ _ h => h) (Or.inl ⟨?hwa6, ?hya6⟩) (by assumption) ?resta6
          case hia6 => (simp only [List.getElem?_toArray, List.getElem?_cons_succ, List.getElem?_cons_zero]; rfl)
          case hwa6 => rfl
          case hya6 => (intro w hSw; (try dsimp only at hSw); go_simp; try with_reducible rfl)
          (try simp only [Act.put, List.setIfInBounds_toArray, List.set_cons_zero, List.set_cons_succ])
          refine Held.take (i := 7) (oi := ?oa7) (v := ?va7) ?hia7 (by kernel_rfl) (by kernel_rfl) (by kernel_rfl) (by kernel_rfl) (fun _ _ _ h => h) (Or.inl ⟨?hwa7, ?hya7⟩) (by assumption) ?resta7
          case hia7 => (simp only [List.getElem?_toArray, List.getElem?_cons_succ, List.getElem?_cons_zero]; rfl)
          case hwa7 => rfl
          case hya7 => (intro w hSw; (try dsimp only at hSw); go_simp; try with_reducible rfl)
          (try simp only [Act.put, List.setIfInBounds_toArray, List.set_cons_zero, List.set_cons_succ])
          refine Held.take (i := 8) (oi := ?oa8) (v := ?va8) ?hia8 (by kernel_rfl) (by kernel_rfl) (by kernel_rfl) (by kernel_rfl) (fun _ _ _ h => h) (Or.inl ⟨?hwa8, ?hya8⟩) (by assumption) ?resta8
          case hia8 => (simp only [List.getElem?_toArray, List.getElem?_cons_succ, List.getElem?_cons_zero]; rfl)
          case hwa8 => rfl
          case hya8 => (intro w hSw; (try dsimp only at hSw); go_simp; try with_reducible rfl)
          (try simp only [Act.put, List.setIfInBounds_toArray, List.set_cons_zero, List.set_cons_succ])
          refine Held.take (i := 9) (oi := ?oa9) (v := ?va9) ?hia9 (by kernel_rfl) (by kernel_rfl) (by kernel_rfl) (by kernel_rfl) (fun _ _ _ h => h) (Or.inl ⟨?hwa9, ?hya9⟩) (by assumption) ?resta9
          case hia9 => (simp only [List.getElem?_toArray, List.getElem?_cons_succ, List.getElem?_cons_zero]; rfl)
          case hwa9 => rfl
          case hya9 => (intro w hSw; (try dsimp only at hSw); go_simp; try with_reducible rfl)
          (try simp only [Act.put, List.setIfInBounds_toArray, List.set_cons_zero, List.set_cons_succ])
          refine Held.take (i := 10) (oi := ?oa10) (v := ?va10) ?hia10 (by kernel_rfl) (by kernel_rfl) (by kernel_rfl) (by kernel_rfl) (fun _ _ _ h => h) (Or.inl ⟨?hwa10, ?hya10⟩) (by assumption) ?resta10
          case hia10 => (simp only [List.getElem?_toArray, List.getElem?_cons_succ, List.getElem?_cons_zero]; rfl)
          case hwa10 => rfl
          case hya10 => (intro w hSw; (try dsimp only at hSw); go_simp; try with_reducible rfl)
          (try simp only [Act.put, List.setIfInBounds_toArray, List.set_cons_zero, List.set_cons_succ])
          refine Held.take (i := 11) (oi := ?oa11) (v := ?va11) ?hia11 (by kernel_rfl) (by kernel_rfl) (by kernel_rfl) (by kernel_rfl) (fun _ _ _ h => h) (Or.inl ⟨?hwa11, ?hya11⟩) (by assumption) ?resta11
          case hia11 => (simp only [List.getElem?_toArray, List.getElem?_cons_succ, List.getElem?_cons_zero]; rfl)
          case hwa11 => rfl
          case hya11 => (intro w hSw; (try dsimp only at hSw); go_simp; try with_reducible rfl)
          (try simp only [Act.put, List.setIfInBounds_toArray, List.set_cons_zero, List.set_cons_succ])
          refine Held.take (i := 12) (oi := ?oa12) (v := ?va12) ?hia12 (by kernel_rfl) (by kernel_rfl) (by kernel_rfl) (by kernel_rfl) (fun _ _ _ h => h) (Or.inl ⟨?hwa12, ?hya12⟩) (by assumption) ?resta12
          case hia12 => (simp only [List.getElem?_toArray, List.getElem?_cons_succ, List.getElem?_cons_zero]; rfl)
          case hwa12 => rfl
          case hya12 => (intro w hSw; (try dsimp only at hSw); go_simp; try with_reducible rfl)
          (try simp only [Act.put, List.setIfInBounds_toArray, List.set_cons_zero, List.set_cons_succ])
          refine Held.next (i := 13) (o := ?oa13) (by kernel_rfl) ?hia13 (fun K hK => ?sta13)
          case hia13 => (simp only [List.getElem?_toArray, List.getElem?_cons_succ, List.getElem?_cons_zero]; rfl)
          go_simp
          (go_at_call 40; refine (HN.out _ _).mono ?_; rintro e w' ⟨rfl, rfl⟩)
          (try go_wp2_with fail)
          refine hK.out _ _ (fun _ => by assumption) ?_
          clear hK K
          (try simp only [Act.put, List.setIfInBounds_toArray, List.set_cons_zero, List.set_cons_succ])
          refine Held.next (i := 14) (o := ?oa14) (by kernel_rfl) ?hia14 (fun K hK => ?sta14)
          case hia14 => (simp only [List.getElem?_toArray, List.getElem?_cons_succ, List.getElem?_cons_zero]; rfl)
          go_simp
          refine hK.out _ _ (fun _ => by exact ⟨(World.cell?_alloc_lt _ _ _ (World.block_lt_of_cell? _ _ hHeld.1)).trans hHeld.1, (World.cell?_alloc_lt _ _ _ (World.block_lt_of_cell? _ _ hHeld.2.1)).trans hHeld.2.1, (World.cell?_alloc_lt _ _ _ (World.block_lt_of_cell? _ _ hHeld.2.2)).trans hHeld.2.2⟩) ?_
          clear hK K
          (try simp only [Act.put, List.setIfInBounds_toArray, List.set_cons_zero, List.set_cons_succ])
          refine Held.next (i := 15) (o := ?oa15) (by kernel_rfl) ?hia15 (fun K hK => ?sta15)
          case hia15 => (simp only [List.getElem?_toArray, List.getElem?_cons_succ, List.getElem?_cons_zero]; rfl)
          (rw [if_pos (by rfl)]; refine wp_append_own _ (.tmp 61) (.tmp 74) 22 rfl W1.heap.size 3 j0 (.int .i64 0) 1 8 Tryd.underlying22 hj0 hq0 hq1 hq2 rfl (by decide) _ _ _ rfl (hown.alloc (.cells #[.int .i64 (x % (2 * ((i : Int) + k + 1)))] 3)) ⟨wr.heap.size, 0, none⟩ 1 1 [.int .i64 (x % (2 * ((i : Int) + k + 1)))] rfl rfl (cell_one_new _ _ _) (by intro u hu; simp at hu; subst hu; rfl) (by unfold maxLen; omega) (by omega) (by have := hfx.size; simp; omega) ?_; intro v' w2 hown2 hgrow _; have hgr : Frm (fun g => W1.heap.size ≤ g) wr w2 := ((Frm.refl _ wr).alloc (.cells #[.int .i64 (x % (2 * ((i : Int) + k + 1)))] 3)).drew.grown hgrow (fun g hg hlt => (hown.lt g hg).1))
          refine hK.out _ _ (fun _ => by exact ⟨hgr.cell hcell (by show ¬ W1.heap.size ≤ bk; omega), hgr.cell b1 (by show ¬ W1.heap.size ≤ w.heap.size + 1; omega), hgr.cell b2 (by show ¬ W1.heap.size ≤ w.heap.size + 1; omega)⟩) ?_
          clear hK K
          (try simp only [Act.put, List.setIfInBounds_toArray, List.set_cons_zero, List.set_cons_succ])
          have hb2 := hb.frm hgr (by omega)
          have g2 := hb2.at_ 2 rfl
          have gf := hb2.frozen 2
          obtain ⟨B', d', rfl, hown3⟩ := own_step (f := fun n => .int .i64 n) (l := mkOuts i z0 z1) (by simp [mkOuts, HZ1.out]; exact hlt) (by rw [HMO.out]) hown2
          clear hown2 hgrow
          refine Held.next (i := 16) (o := ?oa16) (by kernel_rfl) ?hia16 (fun K hK => ?sta16)
          case hia16 => (simp only [List.getElem?_toArray, List.getElem?_cons_succ, List.getElem?_cons_zero]; rfl)
          go_simp
          refine hK.out _ _ (fun h => absurd h (by decide)) ?_
          clear hK K
          (try simp only [Act.put, List.setIfInBounds_toArray, List.set_cons_zero, List.set_cons_succ])
          refine Held.next (i := 17) (o := ?oa17) (by kernel_rfl) ?hia17 (fun K hK => ?sta17)
          case hia17 => (simp only [List.getElem?_toArray, List.getElem?_cons_succ, List.getElem?_cons_zero]; rfl)
          go_simp
          refine hK.out _ _ (fun h => absurd h (by decide)) ?_
          clear hK K
          (try simp only [Act.put, List.setIfInBounds_toArray, List.set_cons_zero, List.set_cons_succ])
          refine Held.done (by kernel_rfl) ?_ _
          refine NoPanic.normal ?_
          go_wp2_with fail
          have hset : Frm (fun g => g = w.heap.size + 1) w2 (w2.setCell ⟨w.heap.size + 1, 2, none⟩ (.slice B' (m + 1) d')) := (Frm.refl (fun g => g = w.heap.size + 1) w2).setCell (p := ⟨w.heap.size + 1, 2, none⟩) (fun _ => rfl) _
          exact ⟨⟨m + 1, B', d', by omega, by go_num, hb2.set_ 2 _, own_frm hown3 hset (fun g hg e => by have := (hown3.lt g hg).1; omega), (hfx.then' hgr (fun g hg h => by omega)).trans hset⟩, by simp [intOf]; omega⟩
        · obtain rfl : len1 = m := by omega
          have hr1 := hr.frm hfx (by omega)
          have e0 := hb.at_ 0 rfl
          have r0 := hr1.at_ 0 rfl
          have r1 := hr1.at_ 1 rfl
          have r2 := hr1.at_ 2 rfl
          have z0' := hr1.frozen 0
          have z1' := hr1.frozen 1
          have z2' := hr1.frozen 2
          go_wp2_with fail
          have hf3 := (((Frm.refl (fun g => g = w.heap.size) wr).setCell (p := ⟨w.heap.size, 0, none⟩) (fun _ => rfl) (.int .i64 (i : Int))).setCell (p := ⟨w.heap.size, 1, none⟩) (fun _ => rfl) (.slice A k c)).setCell (p := ⟨w.heap.size, 2, none⟩) (fun _ => rfl) (.slice B len1 d)
          have hb3 := ((hr1.set_ 0 (.int .i64 (i : Int))).set_ 1 (.slice A k c)).set_ 2 (.slice B len1 d)
          have d0 := hb3.at_ 0 rfl
          have d1 := hb3.at_ 1 rfl
          have d2 := hb3.at_ 2 rfl
          have ek : k = (mkAnds i z0).length := by rw [mkAnds_length]; exact HM.out
          have em : len1 = (mkOuts i z0 z1).length := by simp [mkOuts, HZ1.out]
          have houts := own_sl hown
          rw [List.take_of_length_le (by simp [← em])] at houts
          have hsz1 := hfk.size
          refine bodyPost_ret (v := cv i A k c B len1 d) (by simp [results, Tryd.results44, go_sem, d0, d1, d2]) rfl ⟨_, rfl, ?_, (hfwx.then' hf3 (fun g hg h => by omega))⟩
          rw [ek, em]
          rw [ek] at hands hf3
          rw [em] at houts hf3
          refine ⟨A, c, B, d, rfl, ?_, ?_⟩
          · rw [← ek, ← em]; rw [← ek] at hands hf3; rw [← em] at hf3
            exact (((hands.mono (G := fun g => w.heap.size + 2 ≤ g) (fun g _ h => h.1)).frm hfx (fun g h e => by omega)).frm hf3 (fun g h e => by omega)).mono (fun g _ h => by omega)
          · rw [← ek, ← em]; rw [← ek] at hf3; rw [← em] at houts hf3
            exact ((houts.mono (G := fun g => W1.heap.size ≤ g) (fun g _ h => h.1)).frm hf3 (fun g h e => by omega)).mono (fun g _ h => by omega)

end Go.Proofs.YtkjlgamggkencaaDoor
