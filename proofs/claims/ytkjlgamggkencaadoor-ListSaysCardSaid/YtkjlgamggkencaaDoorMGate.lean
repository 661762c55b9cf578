/-
  The contracts of package gate: Or, Xor, Mux, All, Any.
-/
import Derived.Test.YtkjlgamggkencaaDoorMRefAll
import Derived.Test.YtkjlgamggkencaaDoorMPure
namespace Go.Proofs.YtkjlgamggkencaaDoor
open Go.RowKit

section
variable {E : Nat → Value} {fp : Nat → Prop} {gb : Nat} {g g' : Gr} {w w' w'' : World}
theorem IsGr.lenOk (h : IsGr E w fp gb g) : g.len ≤ 8000 := h.1.len
theorem small_lit {l : Int} {n : Nat} (h : isL l n = true) (hn : n ≤ 8000) : Small l := by have := isL_iff.1 h; unfold Small; omega
theorem GStep.after {fp1 : Nat → Prop} (g1 : Grows fp fp1 w w') (f1 : Frm fp w w') (h : GStep E fp1 gb w' w'' g') : GStep E fp gb w w'' g' := by
  obtain ⟨fp2, q1, q2, q3⟩ := h
  obtain ⟨r1, r2⟩ := grow_trans g1 f1 q2 q3
  exact ⟨fp2, q1, r1, r2⟩
theorem GStep.same (h : IsGr E w fp gb g) (n : Nat) : GStep E fp gb w (w.drewN n) g := ⟨fp, h.drewN n, grow_refl _ _ _, (Frm.refl _ _).drewN n⟩
end

theorem and_small {g : Gr} {x y : Int} (hx : isL x g.len = true) (hy : isL y g.len = true) (hl : g.len < 8000) : Small (g.and x y).1 := by
  obtain ⟨hi, lo, hle, ho, l1, l2, he⟩ := and_cases hx hy hl
  rw [he]
  rcases put_cases l1 l2 hl with ⟨_, e⟩ | ⟨_, _, e⟩ | ⟨_, _, _, e⟩ | ⟨_, _, _, _, e⟩ | ⟨_, _, _, _, i, hi', e⟩ | ⟨a1, a2, a3, a4, hn, e⟩
  · rw [e]; unfold Small; simp
  · rw [e]; exact small_lit l1 (by omega)
  · rw [e]; exact small_lit l1 (by omega)
  · rw [e]; unfold Small; simp
  · rw [e]; have := (idx_lt hi').1; unfold Small; simp only [Gr.len] at hl; constructor <;> simp <;> omega
  · rw [e]; unfold Small; simp only [Gr.len] at hl ⊢; constructor <;> omega

set_option maxRecDepth 100000 in
set_option maxHeartbeats 1000000 in
theorem or_any (E : Nat → Value) (fp : Nat → Prop) (gb : Nat) (g : Gr) (w : World) (a b : Int) (hG : IsGr E w fp gb g) (h1 : isL a g.len = true) (h2 : isL b g.len = true) (hl : g.len < 8000) :
    Calls Tryd.prog 54 #[.pointer (some ⟨gb, 0, none⟩), .int .i64 a, .int .i64 b] w fun e w' => e = .returned (.int .i64 (orG g a b).1) ∧ GStep E fp gb w w' (orG g a b).2 := by
  have n1 := notL_range h1
  have n2 := notL_range h2
  have sa := small_lit h1 (by omega)
  have sb := small_lit h2 (by omega)
  have HA := Lib.hid (and_any E fp gb g w (notL a) (notL b) hG n1 n2 hl)
  have hsm := and_small n1 n2 hl
  have HS := Lib.hid hsm
  clear hsm hG n1 n2 h1 h2
  go_enter Tryd.func54, Tryd.ntmps54
  go_wp2_with fail
  refine (not_any a sa _).mono ?_
  rintro e w' ⟨rfl, rfl⟩
  go_wp2_with fail
  refine (not_any b sb _).mono ?_
  rintro e w' ⟨rfl, rfl⟩
  go_wp2_with fail
  refine HA.out.mono ?_
  rintro e w1 ⟨rfl, fp1, q1, q2, q3⟩
  go_wp2_with fail
  refine (not_any _ HS.out _).mono ?_
  rintro e w' ⟨rfl, rfl⟩
  go_wp2_with fail
  go_ret
  exact ⟨rfl, fp1, q1, q2, q3⟩

theorem and_lit_any {g : Gr} {a b : Int} (h1 : isL a g.len = true) (h2 : isL b g.len = true) (hl : g.len < 8000) : isL (g.and a b).1 (g.and a b).2.len = true := by
  obtain ⟨hi, lo, hle, ho, l1, l2, he⟩ := and_cases h1 h2 hl
  rw [he]
  have k1 := isL_iff.1 l1
  rcases put_cases l1 l2 hl with ⟨_, e⟩ | ⟨_, _, e⟩ | ⟨_, _, _, e⟩ | ⟨_, _, _, _, e⟩ | ⟨_, _, _, _, i, hi', e⟩ | ⟨a1, a2, a3, a4, hn, e⟩
  · rw [e, isL_iff]; show (0 : Int) ≤ 0 ∧ (0 : Int) ≤ _; omega
  · rw [e]; exact l1
  · rw [e]; exact l1
  · rw [e, isL_iff]; show (0 : Int) ≤ 0 ∧ (0 : Int) ≤ _; omega
  · rw [e, isL_iff]; have := (idx_lt hi').1; simp only [Gr.len]; omega
  · rw [e, isL_iff, len_more]; show (0 : Int) ≤ 2 * ((g.len : Int) + 1) ∧ 2 * ((g.len : Int) + 1) ≤ _; omega
theorem isL_up {l : Int} {n m : Nat} (h : isL l n = true) (hm : n ≤ m) : isL l m = true := by rw [isL_iff] at h ⊢; omega

set_option maxRecDepth 100000 in
set_option maxHeartbeats 2000000 in
theorem xor_any (E : Nat → Value) (fp : Nat → Prop) (gb : Nat) (g : Gr) (w : World) (a b : Int) (hG : IsGr E w fp gb g) (h1 : isL a g.len = true) (h2 : isL b g.len = true) (hl : g.len + 2 < 8000) :
    Calls Tryd.prog 55 #[.pointer (some ⟨gb, 0, none⟩), .int .i64 a, .int .i64 b] w fun e w' => e = .returned (.int .i64 (xorG g a b).1) ∧ GStep E fp gb w w' (xorG g a b).2 := by
  have sa := small_lit h1 (by omega)
  have sb := small_lit h2 (by omega)
  obtain ⟨_, _, q3, q4⟩ := and_snd h1 h2 (show g.len < 8000 by omega)
  have r1 := and_lit_any h1 h2 (show g.len < 8000 by omega)
  have s1 := and_small h1 h2 (show g.len < 8000 by omega)
  have n1 := isL_up (notL_range h1) q3
  have n2 := isL_up (notL_range h2) q3
  obtain ⟨_, _, p3, p4⟩ := and_snd n1 n2 (show (g.and a b).2.len < 8000 by omega)
  have r2 := and_lit_any n1 n2 (show (g.and a b).2.len < 8000 by omega)
  have s2 := and_small n1 n2 (show (g.and a b).2.len < 8000 by omega)
  have r1' := isL_up r1 p3
  have HA := Lib.hid (and_any E fp gb g w a b hG h1 h2 (by omega))
  have HX : xorG g a b = ((g.and a b).2.and (notL a) (notL b)).2.and (notL (g.and a b).1) (notL ((g.and a b).2.and (notL a) (notL b)).1) := rfl
  rw [HX]
  clear HX hG h1 h2
  generalize g.and a b = R1 at *
  obtain ⟨x1, g1⟩ := R1
  simp only at *
  generalize hR2 : g1.and (notL a) (notL b) = R2 at *
  obtain ⟨x2, g2⟩ := R2
  simp only at *
  have HR2 := Lib.hid hR2
  clear hR2
  go_enter Tryd.func55, Tryd.ntmps55
  go_wp2_with fail
  refine HA.out.mono ?_
  rintro e w1 ⟨rfl, fp1, hG1, a1, b1⟩
  go_wp2_with fail
  refine (not_any a sa _).mono ?_
  rintro e w' ⟨rfl, rfl⟩
  go_wp2_with fail
  refine (not_any b sb _).mono ?_
  rintro e w' ⟨rfl, rfl⟩
  go_wp2_with fail
  refine (and_any E fp1 gb g1 w1 _ _ hG1 n1 n2 (by omega)).mono ?_
  rw [HR2.out]
  rintro e w2 ⟨rfl, fp2, hG2, a2, b2⟩
  go_wp2_with fail
  refine (not_any x1 s1 _).mono ?_
  rintro e w' ⟨rfl, rfl⟩
  go_wp2_with fail
  refine (not_any x2 s2 _).mono ?_
  rintro e w' ⟨rfl, rfl⟩
  go_wp2_with fail
  refine (and_any E fp2 gb g2 w2 _ _ hG2 (notL_range r1') (notL_range r2) (by omega)).mono ?_
  rintro e w3 ⟨rfl, h3⟩
  go_wp2_with fail
  go_ret
  exact ⟨rfl, (GStep.after a2 b2 h3).after a1 b1⟩

set_option maxRecDepth 100000 in
set_option maxHeartbeats 2000000 in
theorem mux_any (E : Nat → Value) (fp : Nat → Prop) (gb : Nat) (g : Gr) (w : World) (c a b : Int) (hG : IsGr E w fp gb g) (h0 : isL c g.len = true) (h1 : isL a g.len = true) (h2 : isL b g.len = true) (hl : g.len + 2 < 8000) :
    Calls Tryd.prog 56 #[.pointer (some ⟨gb, 0, none⟩), .int .i64 c, .int .i64 a, .int .i64 b] w fun e w' => e = .returned (.int .i64 (muxG g c a b).1) ∧ GStep E fp gb w w' (muxG g c a b).2 := by
  have sc := small_lit h0 (by omega)
  obtain ⟨_, _, q3, q4⟩ := and_snd h0 h1 (show g.len < 8000 by omega)
  have r1 := and_lit_any h0 h1 (show g.len < 8000 by omega)
  have n1 := isL_up (notL_range h0) q3
  have n2 := isL_up h2 q3
  obtain ⟨_, _, p3, p4⟩ := and_snd n1 n2 (show (g.and c a).2.len < 8000 by omega)
  have r2 := and_lit_any n1 n2 (show (g.and c a).2.len < 8000 by omega)
  have r1' := isL_up r1 p3
  have HA := Lib.hid (and_any E fp gb g w c a hG h0 h1 (by omega))
  have HX : muxG g c a b = orG ((g.and c a).2.and (notL c) b).2 (g.and c a).1 ((g.and c a).2.and (notL c) b).1 := rfl
  rw [HX]
  clear HX hG h0 h1 h2
  generalize g.and c a = R1 at *
  obtain ⟨x1, g1⟩ := R1
  simp only at *
  generalize hR2 : g1.and (notL c) b = R2 at *
  obtain ⟨x2, g2⟩ := R2
  simp only at *
  have HR2 := Lib.hid hR2
  clear hR2
  go_enter Tryd.func56, Tryd.ntmps56
  go_wp2_with fail
  refine HA.out.mono ?_
  rintro e w1 ⟨rfl, fp1, hG1, a1, b1⟩
  go_wp2_with fail
  refine (not_any c sc _).mono ?_
  rintro e w' ⟨rfl, rfl⟩
  go_wp2_with fail
  refine (and_any E fp1 gb g1 w1 _ _ hG1 n1 n2 (by omega)).mono ?_
  rw [HR2.out]
  rintro e w2 ⟨rfl, fp2, hG2, a2, b2⟩
  go_wp2_with fail
  refine (or_any E fp2 gb g2 w2 _ _ hG2 r1' r2 (by omega)).mono ?_
  rintro e w3 ⟨rfl, h3⟩
  go_wp2_with fail
  go_ret
  exact ⟨rfl, (GStep.after a2 b2 h3).after a1 b1⟩

/-- what goes on while gates are made one by one: the literal so far is one, there is room -/
theorem all_near {g : Gr} : ∀ {l : List Int}, (∀ x ∈ l, isL x g.len = true) → g.len + l.length ≤ 8000 → isL (allG g l).1 (allG g l).2.len = true ∧ g.len ≤ (allG g l).2.len ∧ (allG g l).2.len ≤ g.len + l.length := by
  intro l
  induction l using snocRec with
  | nil => intro _ _; exact ⟨by rw [isL_iff]; show (0 : Int) ≤ 1 ∧ (1 : Int) ≤ _; omega, Nat.le_refl _, Nat.le_refl _⟩
  | more l x ih =>
    intro hx hl
    simp at hl
    obtain ⟨q1, q2, q3⟩ := ih (fun y hy => hx y (List.mem_append_left _ hy)) (by omega)
    rw [allG_snoc]
    have hx1 := isL_up (hx x (by simp)) q2
    obtain ⟨_, _, p3, p4⟩ := and_snd q1 hx1 (by omega)
    refine ⟨and_lit_any q1 hx1 (by omega), Nat.le_trans q2 p3, ?_⟩
    rw [List.length_append]
    show ((allG g l).2.and (allG g l).1 x).2.len ≤ g.len + (l.length + 1)
    omega

set_option maxRecDepth 100000 in
set_option maxHeartbeats 2000000 in
theorem all_any (E : Nat → Value) (fp : Nat → Prop) (gb : Nat) (g : Gr) (w : World) (A : Option Addr) (n c : Nat) (F : Nat → Prop) (l : List Int) (hG : IsGr E w fp gb g) (hn : l.length = n) (hs : Sl w F 1 (.slice A n c) n (l.map (.int .i64))) (hd : ∀ k, F k → ¬ fp k ∧ k < w.heap.size)
    (hx : ∀ x ∈ l, isL x g.len = true) (hl : g.len + n ≤ 8000) :
    Calls Tryd.prog 58 #[.pointer (some ⟨gb, 0, none⟩), .slice A n c] w fun e w' => e = .returned (.int .i64 (allG g l).1) ∧ GStep E fp gb w w' (allG g l).2 := by
  have HN := Lib.hid hn
  clear hn
  go_enter Tryd.func58, Tryd.ntmps58
  go_wp2_with fail
  go_loopw [5, 10] (fun t i wr => ∃ (k : Nat), k ≤ n ∧ i = .int .i64 k ∧ t = .int .i64 (allG g (l.take k)).1 ∧ GStep E fp gb w wr (allG g (l.take k)).2) (fun _ i _ => n - (intOf i).toNat)
  case atStart => exact ⟨0, by omega, rfl, rfl, GStep.same hG 0⟩
  case round =>
    obtain ⟨k, hk, rfl, rfl, hst⟩ := hrel
    by_cases hlt : k < n
    · have hlt2 : k < l.length := by rw [HN.out]; exact hlt
      obtain ⟨fp1, hG1, a1, b1⟩ := hst
      obtain ⟨b, o, u, rfl, hbF, hu, hcell0⟩ := hs.at_ hlt
      obtain rfl := at_getD hu
      have hcell := b1.cell hcell0 (hd b hbF).1
      have hts : allG g (l.take (k + 1)) = (allG g (l.take k)).2.and (allG g (l.take k)).1 (l.getD k 0) := by
        rw [List.take_succ_eq_append_getElem hlt2, allG_snoc]
        simp [allStep, List.getD, hlt2]
      obtain ⟨q1, q2, q3⟩ := all_near (g := g) (l := l.take k) (fun x h => hx x (List.mem_of_mem_take h)) (by rw [List.length_take]; omega)
      rw [List.length_take] at q3
      have hxk := isL_up (hx (l.getD k 0) (by simp [List.getD, hlt2])) q2
      have HT := Lib.hid hts
      clear hu hcell0 hts hs
      generalize l.getD k 0 = x at *
      have k0 : (0 : Int) ≤ k := by omega
      have k1 : (k : Int) < n := by omega
      have HA := Lib.hid (and_any E fp1 gb _ wr _ x hG1 q1 hxk (by omega))
      clear hG1 q1 hxk
      go_wp2_with fail
      refine HA.out.mono ?_
      rw [← HT.out]
      rintro e w2 ⟨rfl, h2⟩
      go_wp2_with fail
      go_roundw
      case rel => exact ⟨k + 1, by omega, by go_num, rfl, GStep.after a1 b1 h2⟩
      case measure => simp [intOf]; omega
    · obtain rfl : n = k := by omega
      rw [List.take_of_length_le (by rw [HN.out]; exact Nat.le_refl _)] at *
      go_wp2_with fail
      go_ret
      exact ⟨rfl, hst⟩

set_option maxRecDepth 100000 in
set_option maxHeartbeats 2000000 in
theorem any_any (E : Nat → Value) (fp : Nat → Prop) (gb : Nat) (g : Gr) (w : World) (A : Option Addr) (n c : Nat) (F : Nat → Prop) (l : List Int) (hG : IsGr E w fp gb g) (hn : l.length = n) (hs : Sl w F 1 (.slice A n c) n (l.map (.int .i64))) (hd : ∀ k, F k → ¬ fp k ∧ k < w.heap.size)
    (hx : ∀ x ∈ l, isL x g.len = true) (hl : g.len + n ≤ 8000) :
    Calls Tryd.prog 59 #[.pointer (some ⟨gb, 0, none⟩), .slice A n c] w fun e w' => e = .returned (.int .i64 (anyG g l).1) ∧ GStep E fp gb w w' (anyG g l).2 := by
  have HN := Lib.hid hn
  clear hn
  go_enter Tryd.func59, Tryd.ntmps59
  go_wp2_with fail
  go_loopw [5, 10] (fun t i wr => ∃ (k : Nat), k ≤ n ∧ i = .int .i64 k ∧ t = .int .i64 (allG g ((l.take k).map notL)).1 ∧ GStep E fp gb w wr (allG g ((l.take k).map notL)).2) (fun _ i _ => n - (intOf i).toNat)
  case atStart => exact ⟨0, by omega, rfl, rfl, GStep.same hG 0⟩
  case round =>
    obtain ⟨k, hk, rfl, rfl, hst⟩ := hrel
    obtain ⟨q1, q2, q3⟩ := all_near (g := g) (l := (l.take k).map notL) (by intro x h; obtain ⟨y, hy, rfl⟩ := List.mem_map.1 h; exact notL_range (hx y (List.mem_of_mem_take hy))) (by rw [List.length_map, List.length_take]; omega)
    rw [List.length_map, List.length_take] at q3
    by_cases hlt : k < n
    · have hlt2 : k < l.length := by rw [HN.out]; exact hlt
      obtain ⟨fp1, hG1, a1, b1⟩ := hst
      obtain ⟨b, o, u, rfl, hbF, hu, hcell0⟩ := hs.at_ hlt
      obtain rfl := at_getD hu
      have hcell := b1.cell hcell0 (hd b hbF).1
      have hts : allG g ((l.take (k + 1)).map notL) = (allG g ((l.take k).map notL)).2.and (allG g ((l.take k).map notL)).1 (notL (l.getD k 0)) := by
        rw [List.take_succ_eq_append_getElem hlt2, List.map_append, List.map_singleton, allG_snoc]
        simp [allStep, List.getD, hlt2]
      have hxk0 := hx (l.getD k 0) (by simp [List.getD, hlt2])
      have hxk := isL_up (notL_range hxk0) q2
      have hsx := small_lit hxk0 (by omega)
      clear hu hcell0 hs
      generalize l.getD k 0 = x at *
      generalize allG g ((l.take k).map notL) = R at *
      obtain ⟨r, g1⟩ := R
      simp only at hts hG1 q1 q2 q3 hxk
      have k0 : (0 : Int) ≤ k := by omega
      have k1 : (k : Int) < n := by omega
      have HA := Lib.hid (and_any E fp1 gb g1 wr r (notL x) hG1 q1 hxk (by omega))
      clear hG1 q1 hxk hxk0
      generalize g1.and r (notL x) = R2 at *
      obtain ⟨r2, g2⟩ := R2
      have HT := Lib.hid hts
      clear hts
      go_wp2_with fail
      refine (not_any x hsx _).mono ?_
      rintro e w' ⟨rfl, rfl⟩
      go_wp2_with fail
      refine HA.out.mono ?_
      rintro e w2 ⟨rfl, h2⟩
      go_wp2_with fail
      go_roundw
      case rel => exact ⟨k + 1, by omega, by go_num, by rw [HT.out], by rw [HT.out]; exact GStep.after a1 b1 h2⟩
      case measure => simp [intOf]; omega
    · obtain rfl : n = k := by omega
      have ht : l.take n = l := List.take_of_length_le (by rw [HN.out]; exact Nat.le_refl _)
      have hsm := small_lit q1 (by omega)
      have he : anyG g l = (notL (allG g ((l.take n).map notL)).1, (allG g ((l.take n).map notL)).2) := by rw [ht]; rfl
      clear q1 ht
      generalize allG g ((l.take n).map notL) = R at *
      obtain ⟨r, g'⟩ := R
      simp only at hsm hst he
      have HE := Lib.hid he
      clear he
      go_wp2_with fail
      refine (not_any r hsm _).mono ?_
      rintro e w' ⟨rfl, rfl⟩
      go_wp2_with fail
      go_ret
      rw [HE.out]
      exact ⟨rfl, hst⟩

end Go.Proofs.YtkjlgamggkencaaDoor
