/-
  The contracts of the reference's gates: Or, Xor, Mux, All, Any.
-/
import Derived.Test.YtkjlgamggkencaaDoorMGate
namespace Go.Proofs.YtkjlgamggkencaaDoor
open Go.RowKit

section
variable {xp xp1 : Nat → Prop} {gx : Nat} {g g' : Gr} {w w' w'' : World}
theorem XStep.after (g1 : Grows xp xp1 w w') (f1 : Frm xp w w') (h : XStep xp1 gx w' w'' g') : XStep xp gx w w'' g' := by
  obtain ⟨xp2, q1, q2, q3⟩ := h
  obtain ⟨r1, r2⟩ := grow_trans g1 f1 q2 q3
  exact ⟨xp2, q1, r1, r2⟩
theorem XStep.same (h : IsX w xp gx g) (n : Nat) : XStep xp gx w (w.drewN n) g := ⟨xp, h.drewN n, grow_refl _ _ _, (Frm.refl _ _).drewN n⟩
theorem grow_lt (hx : ∀ k, xp k → k < w.heap.size) (g1 : Grows xp xp1 w w') (f1 : Frm xp w w') : ∀ k, xp1 k → k < w'.heap.size := fun k hk => by
  have := f1.size
  rcases g1 k hk with h | h
  · have := hx k h; omega
  · exact h.2
end

set_option maxRecDepth 100000 in
theorem xnot_any (v : Value) (l : Int) (h0 : 0 ≤ l) (hs : Small l) (w : World) : Calls Tryd.prog 126 #[v, .int .i64 l] w fun e w' => e = .returned (.int .i64 (notL l)) ∧ w = w' := by
  have h1 : ¬ l < 0 := by omega
  have hb := bits_xor_one l h0 (by have := hs.2; omega)
  generalize notL l = r at *
  go_enter Tryd.func126, Tryd.ntmps126
  go_wp2_with fail
  go_ret
  exact ⟨rfl, rfl⟩

set_option maxRecDepth 100000 in
set_option maxHeartbeats 1000000 in
theorem xor__any (xp : Nat → Prop) (gx : Nat) (g : Gr) (w : World) (a b : Int) (hG : IsX w xp gx g) (hx : ∀ k, xp k → k < w.heap.size) (h1 : isL a g.len = true) (h2 : isL b g.len = true) (hl : g.len < 8000) :
    Calls Tryd.prog 80 #[.pointer (some ⟨gx, 0, none⟩), .int .i64 a, .int .i64 b] w fun e w' => e = .returned (.int .i64 (orG g a b).1) ∧ XStep xp gx w w' (orG g a b).2 := by
  have n1 := notL_range h1
  have n2 := notL_range h2
  have sa := small_lit h1 (by omega)
  have sb := small_lit h2 (by omega)
  have pa := (isL_iff.1 h1).1
  have pb := (isL_iff.1 h2).1
  have HA := Lib.hid (xand_any xp gx g w (notL a) (notL b) hG hx hl)
  have hsm := and_small n1 n2 hl
  have hpr := (isL_iff.1 (and_lit_any n1 n2 hl)).1
  have HS := Lib.hid hsm
  have HP := Lib.hid hpr
  clear hsm hpr hG n1 n2 h1 h2
  go_enter Tryd.func80, Tryd.ntmps80
  go_wp2_with fail
  refine (xnot_any _ a pa sa _).mono ?_
  rintro e w' ⟨rfl, rfl⟩
  go_wp2_with fail
  refine (xnot_any _ b pb sb _).mono ?_
  rintro e w' ⟨rfl, rfl⟩
  go_wp2_with fail
  refine HA.out.mono ?_
  rintro e w1 ⟨rfl, fp1, q1, q2, q3⟩
  go_wp2_with fail
  refine (xnot_any _ _ HP.out HS.out _).mono ?_
  rintro e w' ⟨rfl, rfl⟩
  go_wp2_with fail
  go_ret
  exact ⟨rfl, fp1, q1, q2, q3⟩

set_option maxRecDepth 100000 in
set_option maxHeartbeats 2000000 in
theorem xxor_any (xp : Nat → Prop) (gx : Nat) (g : Gr) (w : World) (a b : Int) (hG : IsX w xp gx g) (hx : ∀ k, xp k → k < w.heap.size) (h1 : isL a g.len = true) (h2 : isL b g.len = true) (hl : g.len + 2 < 8000) :
    Calls Tryd.prog 81 #[.pointer (some ⟨gx, 0, none⟩), .int .i64 a, .int .i64 b] w fun e w' => e = .returned (.int .i64 (xorG g a b).1) ∧ XStep xp gx w w' (xorG g a b).2 := by
  have sa := small_lit h1 (by omega)
  have sb := small_lit h2 (by omega)
  have pa := (isL_iff.1 h1).1
  have pb := (isL_iff.1 h2).1
  obtain ⟨_, _, q3, q4⟩ := and_snd h1 h2 (show g.len < 8000 by omega)
  have r1 := and_lit_any h1 h2 (show g.len < 8000 by omega)
  have s1 := and_small h1 h2 (show g.len < 8000 by omega)
  have n1 := isL_up (notL_range h1) q3
  have n2 := isL_up (notL_range h2) q3
  obtain ⟨_, _, p3, p4⟩ := and_snd n1 n2 (show (g.and a b).2.len < 8000 by omega)
  have r2 := and_lit_any n1 n2 (show (g.and a b).2.len < 8000 by omega)
  have s2 := and_small n1 n2 (show (g.and a b).2.len < 8000 by omega)
  have HA := Lib.hid (xand_any xp gx g w a b hG hx (by omega))
  have HX : xorG g a b = ((g.and a b).2.and (notL a) (notL b)).2.and (notL (g.and a b).1) (notL ((g.and a b).2.and (notL a) (notL b)).1) := rfl
  rw [HX]
  clear HX hG h1 h2 n1 n2
  generalize g.and a b = R1 at *
  obtain ⟨x1, g1⟩ := R1
  simp only at *
  generalize hR2 : g1.and (notL a) (notL b) = R2 at *
  obtain ⟨x2, g2⟩ := R2
  simp only at *
  have HR2 := Lib.hid hR2
  have hb1 := bits_xor_one x1 (isL_iff.1 r1).1 (by have := s1.2; omega)
  have hb2 := bits_xor_one x2 (isL_iff.1 r2).1 (by have := s2.2; omega)
  clear hR2 r1 r2 s1 s2
  go_enter Tryd.func81, Tryd.ntmps81
  go_wp2_with fail
  refine HA.out.mono ?_
  rintro e w1 ⟨rfl, fp1, hG1, a1, b1⟩
  have hx1 := grow_lt hx a1 b1
  go_wp2_with fail
  refine (xnot_any _ a pa sa _).mono ?_
  rintro e w' ⟨rfl, rfl⟩
  go_wp2_with fail
  refine (xnot_any _ b pb sb _).mono ?_
  rintro e w' ⟨rfl, rfl⟩
  go_wp2_with fail
  refine (xand_any fp1 gx g1 w1 _ _ hG1 hx1 (by omega)).mono ?_
  rw [HR2.out]
  rintro e w2 ⟨rfl, fp2, hG2, a2, b2⟩
  have hx2 := grow_lt hx1 a2 b2
  go_wp2_with fail
  refine (xand_any fp2 gx g2 w2 _ _ hG2 hx2 (by omega)).mono ?_
  rintro e w3 ⟨rfl, h3⟩
  go_wp2_with fail
  go_ret
  exact ⟨rfl, (XStep.after a2 b2 h3).after a1 b1⟩

set_option maxRecDepth 100000 in
set_option maxHeartbeats 2000000 in
theorem xmux_any (xp : Nat → Prop) (gx : Nat) (g : Gr) (w : World) (c a b : Int) (hG : IsX w xp gx g) (hx : ∀ k, xp k → k < w.heap.size) (h0 : isL c g.len = true) (h1 : isL a g.len = true) (h2 : isL b g.len = true) (hl : g.len + 2 < 8000) :
    Calls Tryd.prog 82 #[.pointer (some ⟨gx, 0, none⟩), .int .i64 c, .int .i64 a, .int .i64 b] w fun e w' => e = .returned (.int .i64 (muxG g c a b).1) ∧ XStep xp gx w w' (muxG g c a b).2 := by
  have sc := small_lit h0 (by omega)
  have pc := (isL_iff.1 h0).1
  obtain ⟨_, _, q3, q4⟩ := and_snd h0 h1 (show g.len < 8000 by omega)
  have r1 := and_lit_any h0 h1 (show g.len < 8000 by omega)
  have n1 := isL_up (notL_range h0) q3
  have n2 := isL_up h2 q3
  obtain ⟨_, _, p3, p4⟩ := and_snd n1 n2 (show (g.and c a).2.len < 8000 by omega)
  have r2 := and_lit_any n1 n2 (show (g.and c a).2.len < 8000 by omega)
  have r1' := isL_up r1 p3
  have HA := Lib.hid (xand_any xp gx g w c a hG hx (by omega))
  have HX : muxG g c a b = orG ((g.and c a).2.and (notL c) b).2 (g.and c a).1 ((g.and c a).2.and (notL c) b).1 := rfl
  rw [HX]
  clear HX hG h0 h1 h2
  generalize g.and c a = R1 at *
  obtain ⟨x1, g1⟩ := R1
  simp only at *
  generalize hR2 : g1.and (notL c) b = R2 at *
  obtain ⟨x2, g2⟩ := R2
  simp only at *
  have HR2 := Lib.hid hR2
  clear hR2
  go_enter Tryd.func82, Tryd.ntmps82
  go_wp2_with fail
  refine HA.out.mono ?_
  rintro e w1 ⟨rfl, fp1, hG1, a1, b1⟩
  have hx1 := grow_lt hx a1 b1
  go_wp2_with fail
  refine (xnot_any _ c pc sc _).mono ?_
  rintro e w' ⟨rfl, rfl⟩
  go_wp2_with fail
  refine (xand_any fp1 gx g1 w1 _ _ hG1 hx1 (by omega)).mono ?_
  rw [HR2.out]
  rintro e w2 ⟨rfl, fp2, hG2, a2, b2⟩
  have hx2 := grow_lt hx1 a2 b2
  go_wp2_with fail
  refine (xor__any fp2 gx g2 w2 _ _ hG2 hx2 r1' r2 (by omega)).mono ?_
  rintro e w3 ⟨rfl, h3⟩
  go_wp2_with fail
  go_ret
  exact ⟨rfl, (XStep.after a2 b2 h3).after a1 b1⟩

set_option maxRecDepth 100000 in
set_option maxHeartbeats 2000000 in
theorem xall_any (xp : Nat → Prop) (gx : Nat) (g : Gr) (w : World) (A : Option Addr) (n c : Nat) (F : Nat → Prop) (l : List Int) (hG : IsX w xp gx g) (hxp : ∀ k, xp k → k < w.heap.size) (hn : l.length = n) (hs : Sl w F 1 (.slice A n c) n (l.map (.int .i64))) (hd : ∀ k, F k → ¬ xp k ∧ k < w.heap.size)
    (hx : ∀ x ∈ l, isL x g.len = true) (hl : g.len + n ≤ 8000) :
    Calls Tryd.prog 83 #[.pointer (some ⟨gx, 0, none⟩), .slice A n c] w fun e w' => e = .returned (.int .i64 (allG g l).1) ∧ XStep xp gx w w' (allG g l).2 := by
  have HN := Lib.hid hn
  clear hn
  go_enter Tryd.func83, Tryd.ntmps83
  go_wp2_with fail
  go_loopw [5, 6] (fun t i wr => ∃ (k : Nat), k ≤ n ∧ i = .int .i64 k ∧ t = .int .i64 (allG g (l.take k)).1 ∧ XStep xp gx w wr (allG g (l.take k)).2) (fun _ i _ => n - (intOf i).toNat)
  case atStart => exact ⟨0, by omega, rfl, rfl, XStep.same hG 0⟩
  case round =>
    obtain ⟨k, hk, rfl, rfl, hst⟩ := hrel
    by_cases hlt : k < n
    · have hlt2 : k < l.length := by rw [HN.out]; exact hlt
      obtain ⟨fp1, hG1, a1, b1⟩ := hst
      have hx1 := grow_lt hxp a1 b1
      obtain ⟨b, o, u, rfl, hbF, hu, hcell0⟩ := hs.at_ hlt
      obtain rfl := at_getD hu
      have hcell := b1.cell hcell0 (hd b hbF).1
      have hts : allG g (l.take (k + 1)) = (allG g (l.take k)).2.and (allG g (l.take k)).1 (l.getD k 0) := by
        rw [List.take_succ_eq_append_getElem hlt2, allG_snoc]
        simp [allStep, List.getD, hlt2]
      obtain ⟨q1, q2, q3⟩ := all_near (g := g) (l := l.take k) (fun x h => hx x (List.mem_of_mem_take h)) (by rw [List.length_take]; omega)
      rw [List.length_take] at q3
      have HT := Lib.hid hts
      clear hu hcell0 hts hs q1
      generalize l.getD k 0 = x at *
      have k0 : (0 : Int) ≤ k := by omega
      have k1 : (k : Int) < n := by omega
      have HA := Lib.hid (xand_any fp1 gx _ wr (allG g (l.take k)).1 x hG1 hx1 (by omega))
      clear hG1
      go_wp2_with fail
      refine HA.out.mono ?_
      rw [← HT.out]
      rintro e w2 ⟨rfl, h2⟩
      go_wp2_with fail
      go_roundw
      case rel => exact ⟨k + 1, by omega, by go_num, rfl, XStep.after a1 b1 h2⟩
      case measure => simp [intOf]; omega
    · obtain rfl : n = k := by omega
      rw [List.take_of_length_le (by rw [HN.out]; exact Nat.le_refl _)] at *
      go_wp2_with fail
      go_ret
      exact ⟨rfl, hst⟩

theorem own_nextD {w' : World} {base : Nat} {e : TypeId} {v' : Value} {k : Nat} {D : List Int} {y : Int} (hu : D[k]? = some y)
    (h : w'.ownsRow base e 1 v' (k + 1) ((D.map (.int .i64)).take k ++ [.int .i64 y])) : ∃ A c, v' = .slice A (k + 1) c ∧ w'.ownsRow base e 1 (.slice A (k + 1) c) (k + 1) ((D.map (.int .i64)).take (k + 1)) := by
  have e1 : (D.map (Value.int .i64)).take k ++ [.int .i64 y] = (D.map (.int .i64)).take (k + 1) := by
    rw [List.take_add_one, List.getElem?_map, hu]; rfl
  rw [e1] at h
  obtain ⟨A, c, rfl, _⟩ := (Sl.of_own h).form
  exact ⟨A, c, rfl, h⟩

set_option maxRecDepth 100000 in
set_option maxHeartbeats 4000000 in
theorem xany_any (xp : Nat → Prop) (gx : Nat) (g : Gr) (w : World) (A : Option Addr) (n c : Nat) (F : Nat → Prop) (l : List Int) (hG : IsX w xp gx g) (hxp : ∀ k, xp k → k < w.heap.size) (hn : l.length = n) (hs : Sl w F 1 (.slice A n c) n (l.map (.int .i64)))
    (hx : ∀ x ∈ l, isL x g.len = true) (hl : g.len + n ≤ 8000) :
    Calls Tryd.prog 84 #[.pointer (some ⟨gx, 0, none⟩), .slice A n c] w fun e w' => e = .returned (.int .i64 (anyG g l).1) ∧ XStep xp gx w w' (anyG g l).2 := by
  obtain ⟨i0, hi0, hz0, hz1, hz2⟩ := info_parts infoIntG
  have HN := Lib.hid hn
  have hg8 : g.len ≤ 8000 := by omega
  obtain ⟨D, hD⟩ : ∃ D, D = l.map notL := ⟨_, rfl⟩
  have hDl : D.length = n := by rw [hD]; simpa using hn
  have hDk : ∀ j, j < n → D[j]? = some (notL (l.getD j 0)) := by intro j hj; rw [hD, List.getElem?_map]; simp [List.getD, show j < l.length by omega]
  have hx2 : ∀ x ∈ D, isL x g.len = true := by intro x h; rw [hD] at h; obtain ⟨y, hy, rfl⟩ := List.mem_map.1 h; exact notL_range (hx y hy)
  have he : anyG g l = (notL (allG g D).1, (allG g D).2) := by rw [hD]; rfl
  have HE := Lib.hid he
  have HDL := Lib.hid hDl
  have HDK := Lib.hid hDk
  clear hn hD hDl hDk he
  go_enter Tryd.func84, Tryd.ntmps84
  go_wp2_with fail
  go_loopw [5, 6] (fun t i wr => ∃ (k : Nat) (A1 : Option Addr) (c1 : Nat), k ≤ n ∧ i = .int .i64 k ∧ t = .slice A1 k c1 ∧ wr.ownsRow w.heap.size 3 1 (.slice A1 k c1) k ((D.map (.int .i64)).take k) ∧ Frm (fun _ => False) w wr) (fun _ i _ => n - (intOf i).toNat)
  case atStart => exact ⟨0, none, 0, by omega, rfl, rfl, by simpa using World.ownsRow_nil _ _ _ _, Frm.refl _ _⟩
  case round =>
    obtain ⟨k, A1, c1, hk, rfl, rfl, hown, hfk⟩ := hrel
    by_cases hlt : k < n
    · have hlt2 : k < l.length := by rw [HN.out]; exact hlt
      obtain ⟨b, o, u, rfl, hbF, hu, hcell⟩ := (hs.frm hfk (fun _ _ => id)).at_ hlt
      obtain rfl := at_getD hu
      have hxk := hx (l.getD k 0) (by simp [List.getD, hlt2])
      have hsx := small_lit hxk hg8
      have hpx := (isL_iff.1 hxk).1
      have hdk := HDK.out k hlt
      have HDD := Lib.hid hdk
      clear hu hdk hxk
      generalize l.getD k 0 = x at *
      have k0 : (0 : Int) ≤ k := by omega
      have k1 : (k : Int) < n := by omega
      have hsz := hfk.size
      go_wp2_with fail
      refine (xnot_any _ x hpx hsx _).mono ?_
      rintro e w' ⟨rfl, rfl⟩
      go_wp2_with (at_builtin; refine wpList_append_own _ rfl (.tmp 13) (.tmp 20) 22 rfl w.heap.size 3 i0 (.int .i64 0) 1 8 Tryd.underlying22 hi0 hz0 hz1 hz2 rfl (by decide) _ _ _ rfl (hown.alloc (.cells #[.int .i64 (notL x)] 3)) ⟨wr.heap.size, 0, none⟩ 1 1 [.int .i64 (notL x)] rfl rfl (cell_one_new _ _ _) ?c2 ?c3 ?c4 ?c5 ?_)
      case c2 => first | (intro u hu; simp at hu; subst hu; rfl) | rfl
      case c3 => unfold maxLen; omega
      case c4 => omega
      case c5 => first | omega | (simp; omega) | simp
      intro v' w9 hown9 hgrow _
      obtain ⟨A3, c3, rfl, hownN⟩ := own_nextD (D := D) HDD.out hown9
      have hf9 : Frm (fun _ => False) w w9 := (hfk.alloc (.cells #[.int .i64 (notL x)] 3)).grown hgrow (fun g hg hlt => by have := (hown.lt g hg).1; omega)
      clear hgrow hown hown9 hfk hcell
      go_wp2_with fail
      go_roundw
      case rel => exact ⟨k + 1, A3, c3, by omega, by go_num, rfl, hownN, hf9⟩
      case measure => simp [intOf]; omega
    · obtain rfl : n = k := by omega
      rw [List.take_of_length_le (by rw [List.length_map, HDL.out]; omega)] at hown
      have hsl := own_sl hown
      have hG1 := hG.frm hfk (fun _ _ => id)
      have hsz := hfk.size
      have hnr := all_near (g := g) hx2 (by rw [HDL.out]; omega)
      have hn3 := hnr.2.2
      rw [HDL.out] at hn3
      have HA := Lib.hid (xall_any xp gx g wr A1 n c1 _ D hG1 (fun k hk => by have := hxp k hk; omega) HDL.out hsl (fun k hk => ⟨fun h => by have := hxp k h; omega, hk.2⟩) hx2 (by omega))
      have hb := bits_xor_one (allG g D).1 (isL_iff.1 hnr.1).1 (by have := (isL_iff.1 hnr.1).2; omega)
      clear hnr hn3 hown
      generalize allG g D = R at *
      obtain ⟨r, g'⟩ := R
      simp only at HA hb HE
      go_wp2_with fail
      refine HA.out.mono ?_
      rintro e w2 ⟨rfl, fp1, hG1, a1, b1⟩
      go_wp2_with fail
      go_ret
      refine ⟨ret_int (by rw [HE.out]), fp1, by rw [HE.out]; exact hG1, fun k hk => ?_, (hfk.mono (T := xp) (fun _ _ h => h.elim)).trans b1⟩
      rcases a1 k hk with h | h
      · exact .inl h
      · exact .inr ⟨by omega, h.2⟩

end Go.Proofs.YtkjlgamggkencaaDoor
