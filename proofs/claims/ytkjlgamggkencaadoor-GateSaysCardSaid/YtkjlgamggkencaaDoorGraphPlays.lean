/-
  The walk of GraphPlays.
-/
import Derived.Test.YtkjlgamggkencaaDoorCirc
import Derived.Test.YtkjlgamggkencaaDoorSee
import Derived.Test.YtkjlgamggkencaaDoorGraphFolds
namespace Go.Proofs.YtkjlgamggkencaaDoor
open Go.RowKit

/-- how a step turns a graph's sizes, its error -/
theorem and_near {g : Gr} (a b : Int) (hl : g.len < 8000) (hb : g.bad = 0 ∨ g.bad = 104) :
    (g.and a b).2.n = g.n ∧ ((g.and a b).2.bad = 0 ∨ (g.and a b).2.bad = 104) ∧ g.len ≤ (g.and a b).2.len ∧ (g.and a b).2.len ≤ g.len + 1 := by
  by_cases h : isL a g.len = true ∧ isL b g.len = true
  · obtain ⟨q1, q2, q3, q4⟩ := and_snd h.1 h.2 hl
    exact ⟨q1, by rw [q2]; exact hb, q3, q4⟩
  · have : g.and a b = (0, g.fail 104) := by
      obtain ⟨hi, lo, he, ho⟩ := and_hi_lo a b
      have hb : (isL hi g.len && isL lo g.len) = false := by
        rcases ho with ⟨rfl, rfl, _⟩ | ⟨rfl, rfl, _⟩ <;> (rw [Bool.eq_false_iff]; intro e; simp only [Bool.and_eq_true] at e; exact h ⟨by simp [e], by simp [e]⟩)
      rw [he]; unfold Gr.put; rw [if_pos hb]
    rw [this]
    refine ⟨rfl, ?_, Nat.le_refl _, Nat.le_succ _⟩
    show (if g.bad = 0 then 104 else g.bad) = 0 ∨ (if g.bad = 0 then 104 else g.bad) = 104
    rcases hb with h | h <;> simp [h]
theorem input_near {g : Gr} (i : Int) (hb : g.bad = 0 ∨ g.bad = 104) : (g.input i).2.n = g.n ∧ ((g.input i).2.bad = 0 ∨ (g.input i).2.bad = 104) ∧ (g.input i).2.len = g.len := by
  unfold Gr.input
  split
  · exact ⟨rfl, hb, rfl⟩
  · refine ⟨rfl, ?_, rfl⟩
    show (if g.bad = 0 then 104 else g.bad) = 0 ∨ (if g.bad = 0 then 104 else g.bad) = 104
    rcases hb with h | h <;> simp [h]

section
variable {L : List Nat} {P : Nat → Addr} {K : Nat → Prop} {w : World} {gb gx : Nat} {g x : Gr}
theorem pr_input (h104 : 104 ∈ L) (hS : Sents L P w) (h : Pr (PE P) K w gb g gx x) (i : Int) :
    Calls Tryd.prog 34 #[.pointer (some ⟨gb, 0, none⟩), .int .i64 i] w fun e w' => e = .returned (.int .i64 (g.input i).1) ∧ Pr (PE P) K w' gb (g.input i).2 gx x ∧ Frm (fun k => ¬ K k) w w' := by
  obtain ⟨fp, hG, next⟩ := h.step
  refine (input_any L P h104 fp gb g w i hS hG).mono ?_
  rintro e w' ⟨rfl, q1, q2⟩
  exact ⟨rfl, next _ _ ⟨fp, q1, grow_refl _ _ _, q2⟩⟩
end
section
variable {E : Nat → Value} {K : Nat → Prop} {w : World} {gb gx : Nat} {g x : Gr}
theorem pr_err (h : Pr E K w gb g gx x) : Calls Tryd.prog 29 #[.pointer (some ⟨gb, 0, none⟩)] w fun e w' => e = .returned (E g.bad) ∧ w = w' := by
  obtain ⟨fp, xp, h1, h2, h3, h4, h5, h6⟩ := h
  exact err_any E fp gb g w h1 _ rfl
theorem pr_inputs (h : Pr E K w gb g gx x) : Calls Tryd.prog 31 #[.pointer (some ⟨gb, 0, none⟩)] w fun e w' => e = .returned (.int .i64 (g.n : Int)) ∧ w = w' := by
  obtain ⟨fp, xp, h1, h2, h3, h4, h5, h6⟩ := h
  exact inputs_any E fp gb g w h1
theorem pr_cells (h : Pr E K w gb g gx x) : w.cell? ⟨gx, 0, none⟩ = some (.int .i64 (x.n : Int)) ∧ w.cell? ⟨gx, 2, none⟩ = some (.int .i64 (x.bad : Int)) := by
  obtain ⟨fp, xp, h1, ⟨_, _, A, c, hb, _⟩, h3, h4, h5, h6⟩ := h
  exact ⟨hb.at_ 0 rfl, hb.at_ 2 rfl⟩
theorem pr_sizes (h : Pr E K w gb g gx x) : g.n + g.ands.length ≤ 8000 ∧ x.n + x.ands.length ≤ 8000 := by
  obtain ⟨fp, xp, h1, ⟨q, _⟩, h3, h4, h5, h6⟩ := h
  exact ⟨h1.1.len, q⟩
theorem pr_circuit (h : Pr E K w gb g gx x) (A0 : Option Addr) (k c0 : Nat) (F : Nat → Prop) (l : List Int) (hk : l.length = k) (hb : k ≤ 1000000) (hs : Sl w F 1 (.slice A0 k c0) k (l.map (.int .i64))) :
    Calls Tryd.prog 37 #[.pointer (some ⟨gb, 0, none⟩), .slice A0 k c0] w fun e w' => ∃ v, e = .returned v ∧ IsC w' (fun k => w.heap.size ≤ k) v g.n g.ands l ∧ Frm (fun _ => False) w w' := by
  obtain ⟨fp, xp, h1, h2, h3, h4, h5, h6⟩ := h
  exact circuit_any E fp gb g w h1 A0 k c0 F l hk hb hs
theorem pr_xcircuit (h : Pr E K w gb g gx x) (A0 : Option Addr) (k c0 : Nat) (F : Nat → Prop) (l : List Int) (hk : l.length = k) (hb : k ≤ 1000000) (hs : Sl w F 1 (.slice A0 k c0) k (l.map (.int .i64))) :
    Calls Tryd.prog 39 #[.pointer (some ⟨gx, 0, none⟩), .slice A0 k c0] w fun e w' => ∃ v, e = .returned v ∧ IsC w' (fun k => w.heap.size ≤ k) v x.n x.ands l ∧ Frm (fun _ => False) w w' := by
  obtain ⟨fp, xp, h1, h2, h3, h4, h5, h6⟩ := h
  exact xcircuit_any xp gx x w h2 A0 k c0 F l hk hb hs

/-- both made anew -/
theorem pr_new {w0 w1 w2 : World} {fp : Nat → Prop} (hG : IsGr E w1 fp gb g) (hfp : ∀ k, fp k → w0.heap.size ≤ k ∧ k < w1.heap.size) (hf1 : Frm (fun _ => False) w0 w1)
    (hX : IsX w2 (fun k => k = w1.heap.size) w1.heap.size x) (hf2 : Frm (fun _ => False) w1 w2) (hsz : w2.heap.size = w1.heap.size + 1) : Pr E (fun k => k < w0.heap.size) w2 gb g w1.heap.size x := by
  have s1 := hf1.size
  refine ⟨fp, _, hG.frm hf2 (fun _ _ => id), hX, fun k hk e => ?_, fun k hk => ?_, fun k hk => ?_, fun k hk => ?_⟩
  · have := (hfp k hk).2; omega
  · have := hfp k hk; omega
  · omega
  · omega
end

theorem code_at (P : Nat → Addr) (w : World) (hS : Sents L7 P w) (c : Nat) (hc : c = 0 ∨ c = 104) : Calls Tryd.prog 36 #[PE P c] w fun e w' => e = .returned (.int .i64 (c : Int)) ∧ Frm (fun _ => False) w w' :=
  code_any P w hS c (by rcases hc with h | h <;> simp [h])

theorem op_at {α : Type} {x : Option α} {o o' : α} (h : x = some o) (e : o = o') : x = some o' := e ▸ h
/-- on the way S may be turned for what says more -/
theorem wpAnyH_turn {P : Program} {ops : Array Oper} {Q : Exit → Act → World → Prop} {md : Region.Mode} {S S' : World → Prop} (hS : ∀ w, S' w → S w) : ∀ {fuel : Nat} {listed : Array Bool} {a : Act} {w : World}, wpAnyH P md ops Q S' fuel listed a w → wpAnyH P md ops Q S fuel listed a w
  | 0, _, _, _, h => h
  | _ + 1, _, _, _, h => ⟨h.1, fun i hi => wpOp_mono (fun _ _ h' => ⟨hS _ h'.1, wpAnyH_turn hS h'.2⟩) (h.2 i hi)⟩
/-- two cells of what is kept -/
theorem held_cells {B : Nat} {w1 w2 : World} {b o1 o2 : Nat} {v1 v2 : Value} (hf : Frm (fun k => ¬ k < B) w1 w2) (hb : b < B) (h : w1.cell? ⟨b, o1, none⟩ = some v1 ∧ w1.cell? ⟨b, o2, none⟩ = some v2) :
    w2.cell? ⟨b, o1, none⟩ = some v1 ∧ w2.cell? ⟨b, o2, none⟩ = some v2 := ⟨hf.cell h.1 (fun h => h hb), hf.cell h.2 (fun h => h hb)⟩

theorem isC_of {w : World} {F : Nat → Prop} (A : Option Addr) (c : Nat) (B : Option Addr) (d : Nat) (n : Int) (ands : List (Int × Int)) (outs : List Int) (h1 : Sl w F 2 (.slice A ands.length c) ands.length (pairs ands)) (h2 : Sl w F 1 (.slice B outs.length d) outs.length (outs.map (.int .i64))) :
    IsC w F (cv n A ands.length c B outs.length d) n ands outs := ⟨A, c, B, d, rfl, h1, h2⟩
theorem Frm.drewN2 {S : Nat → Prop} (w : World) (a b : Nat) : Frm S (w.drewN a) (w.drewN b) := ⟨rfl, rfl, rfl, Nat.le_refl _, fun _ _ _ => rfl⟩
theorem held4 {w w1 w2 : World} {a0 a1 a2 a3 : Addr} {v0 v1 v2 v3 : Value} (hf : Frm (fun _ => False) w1 w2)
    (h : Frm (fun _ => False) w w1 ∧ w1.cell? a0 = some v0 ∧ w1.cell? a1 = some v1 ∧ w1.cell? a2 = some v2 ∧ w1.cell? a3 = some v3) :
    Frm (fun _ => False) w w2 ∧ w2.cell? a0 = some v0 ∧ w2.cell? a1 = some v1 ∧ w2.cell? a2 = some v2 ∧ w2.cell? a3 = some v3 :=
  ⟨h.1.trans hf, hf.cell h.2.1 id, hf.cell h.2.2.1 id, hf.cell h.2.2.2.1 id, hf.cell h.2.2.2.2 id⟩

set_option maxRecDepth 100000 in
set_option maxHeartbeats 8000000 in
theorem plays_any (P : Nat → Addr) (i : Int) (a0 : Option Addr) (len0 cap0 : Nat) (z0 : List Int) (hz0 : z0.length = len0) (a1 : Option Addr) (len1 cap1 : Nat) (z1 : List Int) (hz1 : z1.length = len1) (a2 : Option Addr) (len2 cap2 : Nat) (z2 : List Int) (hz2 : z2.length = len2) (w : World)
    (s0 : Sl w (fun k => k < w.heap.size) 1 (.slice a0 len0 cap0) len0 (z0.map (.int .i64))) (s1 : Sl w (fun k => k < w.heap.size) 1 (.slice a1 len1 cap1) len1 (z1.map (.int .i64))) (s2 : Sl w (fun k => k < w.heap.size) 1 (.slice a2 len2 cap2) len2 (z2.map (.int .i64)))
    (hS : Sents L7 P w) (h0 : len0 ≤ 200) (h1 : len1 ≤ 20) (h2 : len2 ≤ 20) (h3 : i ≤ 50) :
    Calls Tryd.prog 4 #[.int .i64 i, .slice a0 len0 cap0, .slice a1 len1 cap1, .slice a2 len2 cap2] w fun e w' => e = .returned (.bool true) ∧ Frm (fun _ => False) w w' := by
  have t0 : decide ((200 : Int) < (len0 : Int)) = false := by simp; omega
  have t1 : decide ((20 : Int) < (len1 : Int)) = false := by simp; omega
  have t2 : decide ((20 : Int) < (len2 : Int)) = false := by simp; omega
  have t3 : decide (50 < i) = false := by simp; omega
  have HZ2 := Lib.hid hz2
  clear hz0 hz1 hz2
  go_enter Tryd.func4, Tryd.ntmps4
  go_wp2_with fail
  refine (first8_any w).mono ?_
  rintro e w1 ⟨rfl, hf1⟩
  go_wp2_with fail
  refine (new_any (PE P) (PE_zero P) i w1).mono ?_
  rintro e w2 ⟨gb, fp, rfl, hG, hfp, hf2⟩
  go_wp2_with fail
  refine (xnew_any i w2).mono ?_
  rintro e w3 ⟨rfl, hX, hf3, hsz⟩
  have hP0 : Pr (PE P) (fun k => k < w.heap.size) w3 gb ⟨clamp i, [], 0⟩ w2.heap.size ⟨clamp i, [], 0⟩ :=
    pr_new hG (fun k hk => ⟨by have := (hfp k hk).1; have := hf1.size; omega, (hfp k hk).2⟩) (hf1.trans hf2) hX hf3 hsz
  have hf03 := (hf1.trans hf2).trans hf3
  have hcl : clamp i ≤ 50 := by unfold clamp; omega
  clear hG hfp hX hf1 hf2 hf3 hsz
  generalize w2.heap.size = gx at *
  have c0 := (pr_cells hP0).1
  simp only at c0
  go_wp2_with fail
  go_region_held3 (fun w' => w'.cell? ⟨gx, 0, none⟩ = some (.int .i64 (clamp i : Int)))
    (first | exact c0)
    (first | (go_at_call 31; refine (pr_inputs (hP0.drewN 1)).mono ?_; rintro e w' ⟨rfl, rfl⟩))
  go_wp2_with fail
  go_loopw [12] (fun iv wr => ∃ (k : Nat) (g : Gr), 2 * k ≤ len0 ∧ iv = .int .i64 (2 * (k : Int)) ∧ g.len ≤ 50 + k ∧ g.bad = 0 ∧ Pr (PE P) (fun k => k < w.heap.size) wr gb g gx g ∧ Frm (fun _ => False) w wr) (fun iv _ => (2 * len0 + 2 - intOf iv).toNat)
  case atStart => exact ⟨0, _, by omega, rfl, by show clamp i + 0 ≤ 50 + 0; omega, rfl, hP0.drewN _, hf03.drewN _⟩
  case round =>
    obtain ⟨k, g, hk, rfl, hgl, hg0, hP, hfk⟩ := hrel
    have HG0 := Lib.hid hg0
    clear hg0
    by_cases hlt : 2 * k + 1 < len0
    · have sk := s0.frm hfk (fun _ _ => id)
      obtain ⟨bk, o, u, rfl, hbF, hu, hcell⟩ := sk.at_ (k := 2 * k) (by omega)
      obtain rfl := at_getD hu
      obtain ⟨bk', o', u', e', hbF', hu', hcell'⟩ := sk.at_ (k := 2 * k + 1) (by omega)
      cases e'
      obtain rfl := at_getD hu'
      clear hu hu' sk hbF hbF'
      generalize z0.getD (2 * k) 0 = x at *
      generalize z0.getD (2 * k + 1) 0 = y at *
      have hlt' : 2 * (k : Int) + 1 < len0 := by omega
      go_wp2_with fail
      refine (pr_xlen hP).mono ?_
      rintro e w' ⟨rfl, n1, rfl⟩
      obtain ⟨L, hL⟩ : ∃ L : Int, L = g.len := ⟨_, rfl⟩
      rw [← hL]
      have hL0 : 0 ≤ L := by omega
      have hL1 : L ≤ 400 := by omega
      have HL := Lib.hid hL
      have hN0 : 0 < 2 * L + 2 := by omega
      have hx := tmod_bounds x (2 * L + 2) hN0
      have hy := tmod_bounds y (2 * L + 2) hN0
      have wl : IntKind.i64.wrap (2 * L) = 2 * L := IntWalk.i64_in _ (by omega)
      have wl2 : IntKind.i64.wrap (2 * L + 2) = 2 * L + 2 := IntWalk.i64_in _ (by omega)
      have hn0 : (2 * L + 2 == 0) = false := by simp; omega
      have wx : IntKind.i64.wrap (x.tmod (2 * L + 2) + (2 * L + 2)) = x.tmod (2 * L + 2) + (2 * L + 2) := IntWalk.i64_in _ (by omega)
      have wy : IntKind.i64.wrap (y.tmod (2 * L + 2) + (2 * L + 2)) = y.tmod (2 * L + 2) + (2 * L + 2) := IntWalk.i64_in _ (by omega)
      have rx : (x.tmod (2 * L + 2) + (2 * L + 2)).tmod (2 * L + 2) = x % (2 * L + 2) := by rw [Int.tmod_eq_emod_of_nonneg (by omega), fold_emod _ _ hN0]
      have ry : (y.tmod (2 * L + 2) + (2 * L + 2)).tmod (2 * L + 2) = y % (2 * L + 2) := by rw [Int.tmod_eq_emod_of_nonneg (by omega), fold_emod _ _ hN0]
      have wx1 : IntKind.i64.wrap (x.tmod (2 * L + 2)) = x.tmod (2 * L + 2) := IntWalk.i64_in _ (by omega)
      have wy1 : IntKind.i64.wrap (y.tmod (2 * L + 2)) = y.tmod (2 * L + 2) := IntWalk.i64_in _ (by omega)
      have hn1 : (2 * L + 2 == -1) = false := by simp; omega
      have hn2 : ¬ 2 * L + 2 = 0 := by omega
      have hn3 : ¬ 2 * L + 2 = -1 := by omega
      have lx : isL (x % (2 * L + 2)) g.len = true := by rw [hL]; exact isL_emod x _
      have ly : isL (y % (2 * L + 2)) g.len = true := by rw [hL]; exact isL_emod y _
      have HS2 := Lib.hid (and_snd lx ly (show g.len < 8000 by omega))
      have HA := Lib.hid (fun n => pr_and (hP.drewN n) (x % (2 * L + 2)) (y % (2 * L + 2)) lx ly (by omega))
      clear lx ly hL
      have wk : IntKind.i64.wrap (2 * (k : Int) + 1) = 2 * (k : Int) + 1 := IntWalk.i64_in _ (by omega)
      have k0 : (0 : Int) ≤ 2 * (k : Int) := by omega
      have k1 : (0 : Int) ≤ 2 * (k : Int) + 1 := by omega
      have k2 : 2 * (k : Int) < len0 := by omega
      have k3 : (2 * (k : Int)).toNat = 2 * k := by omega
      have k4 : (2 * (k : Int) + 1).toNat = 2 * k + 1 := by omega
      go_wp2_with fail
      refine (HA.out _).mono ?_
      rintro e w4 ⟨rfl, hP4, hf4⟩
      have hl7 : g.len < 8000 := by omega
      go_wp2_with fail
      refine (pr_xand hP4 (x % (2 * L + 2)) (y % (2 * L + 2)) hl7).mono ?_
      rintro e w5 ⟨rfl, hP5, hf5⟩
      obtain ⟨q1, q2, q3, q4⟩ := HS2.out
      have hfk5 := frm_kept (frm_kept (hfk.drewN n1) hf4 (fun _ h => h)) hf5 (fun _ h => h)
      clear hP4 hf4 hf5
      generalize hand : g.and (x % (2 * L + 2)) (y % (2 * L + 2)) = G at *
      obtain ⟨r, g'⟩ := G
      simp only at hP5 q1 q2 q3 q4
      go_wp2_with fail
      refine (pr_len hP5).mono ?_
      rintro e w' ⟨rfl, n2, rfl⟩
      go_wp2_with fail
      refine (pr_xlen (hP5.drewN n2)).mono ?_
      rintro e w' ⟨rfl, n3, rfl⟩
      go_wp2_with fail
      go_roundw
      case rel => exact ⟨k + 1, g', by omega, by go_num, by omega, q2.trans HG0.out, hP5.drewN _, hfk5.drewN _⟩
      case measure => simp [intOf]; omega
    · have hge : ¬ 2 * (k : Int) + 1 < len0 := by omega
      have hgl2 : g.len ≤ 150 := by omega
      have hgb : g.bad = 0 ∨ g.bad = 104 := .inl HG0.out
      clear hgl
      go_wp2_with fail
      go_loopw [16] (fun iv wr => ∃ (k : Nat) (g : Gr), 2 * k ≤ len1 ∧ iv = .int .i64 (2 * (k : Int)) ∧ g.len ≤ 150 + k ∧ (g.bad = 0 ∨ g.bad = 104) ∧ Pr (PE P) (fun k => k < w.heap.size) wr gb g gx g ∧ Frm (fun _ => False) w wr) (fun iv _ => (2 * len1 + 2 - intOf iv).toNat)
      case atStart => exact ⟨0, g, by omega, rfl, by omega, hgb, hP, hfk⟩
      case round =>
        clear hP hfk HG0 hgb hgl2 g
        obtain ⟨k, g, hk, rfl, hgl, hgb, hP, hfk⟩ := hrel
        by_cases hlt : 2 * k + 1 < len1
        · have sk := s1.frm hfk (fun _ _ => id)
          obtain ⟨bk, o, u, rfl, hbF, hu, hcell⟩ := sk.at_ (k := 2 * k) (by omega)
          obtain rfl := at_getD hu
          obtain ⟨bk', o', u', e', hbF', hu', hcell'⟩ := sk.at_ (k := 2 * k + 1) (by omega)
          cases e'
          obtain rfl := at_getD hu'
          have hbk : bk < w.heap.size := hbF
          clear hu hu' sk hbF hbF'
          generalize z1.getD (2 * k) 0 = x at *
          generalize z1.getD (2 * k + 1) 0 = y at *
          have hlt' : 2 * (k : Int) + 1 < len1 := by omega
          have wk : IntKind.i64.wrap (2 * (k : Int) + 1) = 2 * (k : Int) + 1 := IntWalk.i64_in _ (by omega)
          have k0 : (0 : Int) ≤ 2 * (k : Int) := by omega
          have k1 : (0 : Int) ≤ 2 * (k : Int) + 1 := by omega
          have k2 : 2 * (k : Int) < len1 := by omega
          have k3 : (2 * (k : Int)).toNat = 2 * k := by omega
          have k4 : (2 * (k : Int) + 1).toNat = 2 * k + 1 := by omega
          have hl7 : g.len < 8000 := by omega
          obtain ⟨m1, m2, m3, m4⟩ := and_near x y hl7 hgb
          obtain ⟨i1, i2, i3⟩ := input_near (g := (g.and x y).2) x m2
          have HA := Lib.hid (fun n => pr_and_all (L := L7) (by simp) (hS.frm (hfk.drewN n)) (hP.drewN n) x y hl7)
          go_wp2_with fail
          refine wp_region_noPanic ?_
          refine wp_region_held_drew (S := fun w' => w'.cell? ⟨bk, o + 2 * k, none⟩ = some (.int .i64 x) ∧ w'.cell? ⟨bk, o + (2 * k + 1), none⟩ = some (.int .i64 y)) (by kernel_rfl) ⟨hcell, hcell'⟩ (fun hHeld => ?_)
          refine wpAnyH_take (i := 0) (oi := ?o0) (v := ?v0) ?hi0 (by kernel_rfl) (by kernel_rfl) (by kernel_rfl) (fun _ _ _ h => h) (Or.inl ⟨?hw0, ?hy0⟩) (by assumption) ?rest0
          case hi0 => (simp only [List.getElem?_toArray, List.getElem?_cons_zero]; rfl)
          case hw0 => rfl
          case hy0 => (intro w hSw; (try dsimp only at hSw); go_simp; try with_reducible rfl)
          (try simp only [Act.put, List.setIfInBounds_toArray, List.set_cons_zero, List.set_cons_succ])
          refine wpAnyH_take (i := 1) (oi := ?o1) (v := ?v1) ?hi1 (by kernel_rfl) (by kernel_rfl) (by kernel_rfl) (fun _ _ _ h => h) (Or.inl ⟨?hw1, ?hy1⟩) (by assumption) ?rest1
          case hi1 => (simp only [List.getElem?_toArray, List.getElem?_cons_succ, List.getElem?_cons_zero]; rfl)
          case hw1 => rfl
          case hy1 => (intro w hSw; (try dsimp only at hSw); go_simp; try with_reducible rfl)
          (try simp only [Act.put, List.setIfInBounds_toArray, List.set_cons_zero, List.set_cons_succ])
          refine wpAnyH_take (i := 2) (oi := ?o2) (v := ?v2) ?hi2 (by kernel_rfl) (by kernel_rfl) (by kernel_rfl) (fun _ _ _ h => h) (Or.inl ⟨?hw2, ?hy2⟩) (by assumption) ?rest2
          case hi2 => (simp only [List.getElem?_toArray, List.getElem?_cons_succ, List.getElem?_cons_zero]; rfl)
          case hw2 => rfl
          case hy2 => (intro w hSw; (try dsimp only at hSw); go_simp; try with_reducible rfl)
          (try simp only [Act.put, List.setIfInBounds_toArray, List.set_cons_zero, List.set_cons_succ])
          refine wpAnyH_take (i := 3) (oi := ?o3) (v := ?v3) ?hi3 (by kernel_rfl) (by kernel_rfl) (by kernel_rfl) (fun _ _ _ h => h) (Or.inl ⟨?hw3, ?hy3⟩) (by assumption) ?rest3
          case hi3 => (simp only [List.getElem?_toArray, List.getElem?_cons_succ, List.getElem?_cons_zero]; rfl)
          case hw3 => rfl
          case hy3 => (intro w hSw; (try dsimp only at hSw); go_simp; try with_reducible rfl)
          (try simp only [Act.put, List.setIfInBounds_toArray, List.set_cons_zero, List.set_cons_succ])
          refine wpAnyH_take (i := 4) (oi := ?o4) (v := ?v4) ?hi4 (by kernel_rfl) (by kernel_rfl) (by kernel_rfl) (fun _ _ _ h => h) (Or.inl ⟨?hw4, ?hy4⟩) (by assumption) ?rest4
          case hi4 => (simp only [List.getElem?_toArray, List.getElem?_cons_succ, List.getElem?_cons_zero]; rfl)
          case hw4 => rfl
          case hy4 => (intro w hSw; (try dsimp only at hSw); go_simp; try with_reducible rfl)
          (try simp only [Act.put, List.setIfInBounds_toArray, List.set_cons_zero, List.set_cons_succ])
          refine wpAnyH_take (i := 5) (oi := ?o5) (v := ?v5) ?hi5 (by kernel_rfl) (by kernel_rfl) (by kernel_rfl) (fun _ _ _ h => h) (Or.inl ⟨?hw5, ?hy5⟩) (by assumption) ?rest5
          case hi5 => (simp only [List.getElem?_toArray, List.getElem?_cons_succ, List.getElem?_cons_zero]; rfl)
          case hw5 => rfl
          case hy5 => (intro w hSw; (try dsimp only at hSw); go_simp; try with_reducible rfl)
          (try simp only [Act.put, List.setIfInBounds_toArray, List.set_cons_zero, List.set_cons_succ])
          refine wpAnyH_take (i := 6) (oi := ?o6) (v := ?v6) ?hi6 (by kernel_rfl) (by kernel_rfl) (by kernel_rfl) (fun _ _ _ h => h) (Or.inl ⟨?hw6, ?hy6⟩) (by assumption) ?rest6
          case hi6 => (simp only [List.getElem?_toArray, List.getElem?_cons_succ, List.getElem?_cons_zero]; rfl)
          case hw6 => rfl
          case hy6 => (intro w hSw; (try dsimp only at hSw); go_simp; try with_reducible rfl)
          (try simp only [Act.put, List.setIfInBounds_toArray, List.set_cons_zero, List.set_cons_succ])
          refine wpAnyH_take (i := 7) (oi := ?o7) (v := ?v7) ?hi7 (by kernel_rfl) (by kernel_rfl) (by kernel_rfl) (fun _ _ _ h => h) (Or.inl ⟨?hw7, ?hy7⟩) (by assumption) ?rest7
          case hi7 => (simp only [List.getElem?_toArray, List.getElem?_cons_succ, List.getElem?_cons_zero]; rfl)
          case hw7 => rfl
          case hy7 => (intro w hSw; (try dsimp only at hSw); go_simp; try with_reducible rfl)
          (try simp only [Act.put, List.setIfInBounds_toArray, List.set_cons_zero, List.set_cons_succ])
          refine wpAnyH_take (i := 8) (oi := ?o8) (v := ?v8) ?hi8 (by kernel_rfl) (by kernel_rfl) (by kernel_rfl) (fun _ _ _ h => h) (Or.inl ⟨?hw8, ?hy8⟩) (by assumption) ?rest8
          case hi8 => (simp only [List.getElem?_toArray, List.getElem?_cons_succ, List.getElem?_cons_zero]; rfl)
          case hw8 => rfl
          case hy8 => (intro w hSw; (try dsimp only at hSw); go_simp; try with_reducible rfl)
          (try simp only [Act.put, List.setIfInBounds_toArray, List.set_cons_zero, List.set_cons_succ])
          refine wpAnyH_take (i := 9) (oi := ?o9) (v := ?v9) ?hi9 (by kernel_rfl) (by kernel_rfl) (by kernel_rfl) (fun _ _ _ h => h) (Or.inl ⟨?hw9, ?hy9⟩) (by assumption) ?rest9
          case hi9 => (simp only [List.getElem?_toArray, List.getElem?_cons_succ, List.getElem?_cons_zero]; rfl)
          case hw9 => rfl
          case hy9 => (intro w hSw; (try dsimp only at hSw); go_simp; try with_reducible rfl)
          (try simp only [Act.put, List.setIfInBounds_toArray, List.set_cons_zero, List.set_cons_succ])
          refine wpAnyH_take (i := 11) (oi := ?o11) (v := ?v11) ?hi11 (by kernel_rfl) (by kernel_rfl) (by kernel_rfl) (fun _ _ _ h => h) (Or.inl ⟨?hw11, ?hy11⟩) (by assumption) ?rest11
          case hi11 => (simp only [List.getElem?_toArray, List.getElem?_cons_succ, List.getElem?_cons_zero]; rfl)
          case hw11 => rfl
          case hy11 => (intro w hSw; (try dsimp only at hSw); go_simp; try with_reducible rfl)
          (try simp only [Act.put, List.setIfInBounds_toArray, List.set_cons_zero, List.set_cons_succ])
          refine wpAnyH_take (i := 12) (oi := ?o12) (v := ?v12) ?hi12 (by kernel_rfl) (by kernel_rfl) (by kernel_rfl) (fun _ _ _ h => h) (Or.inl ⟨?hw12, ?hy12⟩) (by assumption) ?rest12
          case hi12 => (simp only [List.getElem?_toArray, List.getElem?_cons_succ, List.getElem?_cons_zero]; rfl)
          case hw12 => rfl
          case hy12 => (intro w hSw; (try dsimp only at hSw); go_simp; try with_reducible rfl)
          (try simp only [Act.put, List.setIfInBounds_toArray, List.set_cons_zero, List.set_cons_succ])
          refine wpAnyH_take (i := 13) (oi := ?o13) (v := ?v13) ?hi13 (by kernel_rfl) (by kernel_rfl) (by kernel_rfl) (fun _ _ _ h => h) (Or.inl ⟨?hw13, ?hy13⟩) (by assumption) ?rest13
          case hi13 => (simp only [List.getElem?_toArray, List.getElem?_cons_succ, List.getElem?_cons_zero]; rfl)
          case hw13 => rfl
          case hy13 => (intro w hSw; (try dsimp only at hSw); go_simp; try with_reducible rfl)
          (try simp only [Act.put, List.setIfInBounds_toArray, List.set_cons_zero, List.set_cons_succ])
          refine wpAnyH_take (i := 14) (oi := ?o14) (v := ?v14) ?hi14 (by kernel_rfl) (by kernel_rfl) (by kernel_rfl) (fun _ _ _ h => h) (Or.inl ⟨?hw14, ?hy14⟩) (by assumption) ?rest14
          case hi14 => (simp only [List.getElem?_toArray, List.getElem?_cons_succ, List.getElem?_cons_zero]; rfl)
          case hw14 => rfl
          case hy14 => (intro w hSw; (try dsimp only at hSw); go_simp; try with_reducible rfl)
          (try simp only [Act.put, List.setIfInBounds_toArray, List.set_cons_zero, List.set_cons_succ])
          refine wpAnyH_take (i := 15) (oi := ?o15) (v := ?v15) ?hi15 (by kernel_rfl) (by kernel_rfl) (by kernel_rfl) (fun _ _ _ h => h) (Or.inl ⟨?hw15, ?hy15⟩) (by assumption) ?rest15
          case hi15 => (simp only [List.getElem?_toArray, List.getElem?_cons_succ, List.getElem?_cons_zero]; rfl)
          case hw15 => rfl
          case hy15 => (intro w hSw; (try dsimp only at hSw); go_simp; try with_reducible rfl)
          (try simp only [Act.put, List.setIfInBounds_toArray, List.set_cons_zero, List.set_cons_succ])
          refine wpAnyH_take (i := 16) (oi := ?o16) (v := ?v16) ?hi16 (by kernel_rfl) (by kernel_rfl) (by kernel_rfl) (fun _ _ _ h => h) (Or.inl ⟨?hw16, ?hy16⟩) (by assumption) ?rest16
          case hi16 => (simp only [List.getElem?_toArray, List.getElem?_cons_succ, List.getElem?_cons_zero]; rfl)
          case hw16 => rfl
          case hy16 => (intro w hSw; (try dsimp only at hSw); go_simp; try with_reducible rfl)
          (try simp only [Act.put, List.setIfInBounds_toArray, List.set_cons_zero, List.set_cons_succ])
          refine wpAnyH_take (i := 17) (oi := ?o17) (v := ?v17) ?hi17 (by kernel_rfl) (by kernel_rfl) (by kernel_rfl) (fun _ _ _ h => h) (Or.inl ⟨?hw17, ?hy17⟩) (by assumption) ?rest17
          case hi17 => (simp only [List.getElem?_toArray, List.getElem?_cons_succ, List.getElem?_cons_zero]; rfl)
          case hw17 => rfl
          case hy17 => (intro w hSw; (try dsimp only at hSw); go_simp; try with_reducible rfl)
          (try simp only [Act.put, List.setIfInBounds_toArray, List.set_cons_zero, List.set_cons_succ])
          refine wpAnyH_take (i := 18) (oi := ?o18) (v := ?v18) ?hi18 (by kernel_rfl) (by kernel_rfl) (by kernel_rfl) (fun _ _ _ h => h) (Or.inl ⟨?hw18, ?hy18⟩) (by assumption) ?rest18
          case hi18 => (simp only [List.getElem?_toArray, List.getElem?_cons_succ, List.getElem?_cons_zero]; rfl)
          case hw18 => rfl
          case hy18 => (intro w hSw; (try dsimp only at hSw); go_simp; try with_reducible rfl)
          (try simp only [Act.put, List.setIfInBounds_toArray, List.set_cons_zero, List.set_cons_succ])
          refine wpAnyH_take (i := 19) (oi := ?o19) (v := ?v19) ?hi19 (by kernel_rfl) (by kernel_rfl) (by kernel_rfl) (fun _ _ _ h => h) (Or.inl ⟨?hw19, ?hy19⟩) (by assumption) ?rest19
          case hi19 => (simp only [List.getElem?_toArray, List.getElem?_cons_succ, List.getElem?_cons_zero]; rfl)
          case hw19 => rfl
          case hy19 => (intro w hSw; (try dsimp only at hSw); go_simp; try with_reducible rfl)
          (try simp only [Act.put, List.setIfInBounds_toArray, List.set_cons_zero, List.set_cons_succ])
          refine wpAnyH_take (i := 20) (oi := ?o20) (v := ?v20) ?hi20 (by kernel_rfl) (by kernel_rfl) (by kernel_rfl) (fun _ _ _ h => h) (Or.inl ⟨?hw20, ?hy20⟩) (by assumption) ?rest20
          case hi20 => (simp only [List.getElem?_toArray, List.getElem?_cons_succ, List.getElem?_cons_zero]; rfl)
          case hw20 => rfl
          case hy20 => (intro w hSw; (try dsimp only at hSw); go_simp; try with_reducible rfl)
          (try simp only [Act.put, List.setIfInBounds_toArray, List.set_cons_zero, List.set_cons_succ])
          refine wpAnyH_ready (rs := [10]) (by kernel_rfl) (by simp) ?_
          refine AllReadyH.cons (o := ?o10) ?hi10 (fun K hK => ?st10) AllReadyH.nil
          case hi10 => (simp only [List.getElem?_toArray, List.getElem?_cons_succ, List.getElem?_cons_zero]; rfl)
          go_simp
          (go_at_call 27; refine (HA.out 1).mono ?_; rintro e w4 ⟨rfl, hP4, hf4⟩; have hfk4 := frm_kept (hfk.drewN 1) hf4 (fun _ h => h))
          (try go_wp2_with fail)
          refine hK.out _ _ (by exact held_cells hf4 hbk (by assumption)) (fun hHeld => ?_)
          clear hK K
          (try simp only [Act.put, List.setIfInBounds_toArray, List.set_cons_zero, List.set_cons_succ])
          refine wpAnyH_ready (rs := [21]) (by kernel_rfl) (by simp) ?_
          refine AllReadyH.cons (o := ?o21) ?hi21 (fun K hK => ?st21) AllReadyH.nil
          case hi21 => (simp only [List.getElem?_toArray, List.getElem?_cons_succ, List.getElem?_cons_zero]; rfl)
          go_simp
          (go_at_call 33; refine (pr_xand hP4 x y hl7).mono ?_; rintro e w5 ⟨rfl, hP5, hf5⟩; have hfk5 := frm_kept hfk4 hf5 (fun _ h => h))
          (try go_wp2_with fail)
          refine hK.out _ _ (by exact held_cells hf5 hbk (by assumption)) (fun hHeld => ?_)
          clear hK K
          (try simp only [Act.put, List.setIfInBounds_toArray, List.set_cons_zero, List.set_cons_succ])
          refine wpAnyH_take (i := 22) (oi := ?o22) (v := ?v22) ?hi22 (by kernel_rfl) (by kernel_rfl) (by kernel_rfl) (fun _ _ _ h => h) (Or.inl ⟨?hw22, ?hy22⟩) (by assumption) ?rest22
          case hi22 => (simp only [List.getElem?_toArray, List.getElem?_cons_succ, List.getElem?_cons_zero]; rfl)
          case hw22 => rfl
          case hy22 => (intro w hSw; (try dsimp only at hSw); go_simp; try with_reducible rfl)
          (try simp only [Act.put, List.setIfInBounds_toArray, List.set_cons_zero, List.set_cons_succ])
          refine wpAnyH_take (i := 23) (oi := ?o23) (v := ?v23) ?hi23 (by kernel_rfl) (by kernel_rfl) (by kernel_rfl) (fun _ _ _ h => h) (Or.inl ⟨?hw23, ?hy23⟩) (by assumption) ?rest23
          case hi23 => (simp only [List.getElem?_toArray, List.getElem?_cons_succ, List.getElem?_cons_zero]; rfl)
          case hw23 => rfl
          case hy23 => (intro w hSw; (try dsimp only at hSw); go_simp; try with_reducible rfl)
          (try simp only [Act.put, List.setIfInBounds_toArray, List.set_cons_zero, List.set_cons_succ])
          refine wpAnyH_take (i := 24) (oi := ?o24) (v := ?v24) ?hi24 (by kernel_rfl) (by kernel_rfl) (by kernel_rfl) (fun _ _ _ h => h) (Or.inl ⟨?hw24, ?hy24⟩) (by assumption) ?rest24
          case hi24 => (simp only [List.getElem?_toArray, List.getElem?_cons_succ, List.getElem?_cons_zero]; rfl)
          case hw24 => rfl
          case hy24 => (intro w hSw; (try dsimp only at hSw); go_simp; try with_reducible rfl)
          (try simp only [Act.put, List.setIfInBounds_toArray, List.set_cons_zero, List.set_cons_succ])
          refine wpAnyH_take (i := 25) (oi := ?o25) (v := ?v25) ?hi25 (by kernel_rfl) (by kernel_rfl) (by kernel_rfl) (fun _ _ _ h => h) (Or.inl ⟨?hw25, ?hy25⟩) (by assumption) ?rest25
          case hi25 => (simp only [List.getElem?_toArray, List.getElem?_cons_succ, List.getElem?_cons_zero]; rfl)
          case hw25 => rfl
          case hy25 => (intro w hSw; (try dsimp only at hSw); go_simp; try with_reducible rfl)
          (try simp only [Act.put, List.setIfInBounds_toArray, List.set_cons_zero, List.set_cons_succ])
          refine wpAnyH_take (i := 26) (oi := ?o26) (v := ?v26) ?hi26 (by kernel_rfl) (by kernel_rfl) (by kernel_rfl) (fun _ _ _ h => h) (Or.inl ⟨?hw26, ?hy26⟩) (by assumption) ?rest26
          case hi26 => (simp only [List.getElem?_toArray, List.getElem?_cons_succ, List.getElem?_cons_zero]; rfl)
          case hw26 => rfl
          case hy26 => (intro w hSw; (try dsimp only at hSw); go_simp; try with_reducible rfl)
          (try simp only [Act.put, List.setIfInBounds_toArray, List.set_cons_zero, List.set_cons_succ])
          refine wpAnyH_take (i := 27) (oi := ?o27) (v := ?v27) ?hi27 (by kernel_rfl) (by kernel_rfl) (by kernel_rfl) (fun _ _ _ h => h) (Or.inl ⟨?hw27, ?hy27⟩) (by assumption) ?rest27
          case hi27 => (simp only [List.getElem?_toArray, List.getElem?_cons_succ, List.getElem?_cons_zero]; rfl)
          case hw27 => rfl
          case hy27 => (intro w hSw; (try dsimp only at hSw); go_simp; try with_reducible rfl)
          (try simp only [Act.put, List.setIfInBounds_toArray, List.set_cons_zero, List.set_cons_succ])
          refine wpAnyH_take (i := 28) (oi := ?o28) (v := ?v28) ?hi28 (by kernel_rfl) (by kernel_rfl) (by kernel_rfl) (fun _ _ _ h => h) (Or.inl ⟨?hw28, ?hy28⟩) (by assumption) ?rest28
          case hi28 => (simp only [List.getElem?_toArray, List.getElem?_cons_succ, List.getElem?_cons_zero]; rfl)
          case hw28 => rfl
          case hy28 => (intro w hSw; (try dsimp only at hSw); go_simp; try with_reducible rfl)
          (try simp only [Act.put, List.setIfInBounds_toArray, List.set_cons_zero, List.set_cons_succ])
          refine wpAnyH_take (i := 30) (oi := ?o30) (v := ?v30) ?hi30 (by kernel_rfl) (by kernel_rfl) (by kernel_rfl) (fun _ _ _ h => h) (Or.inl ⟨?hw30, ?hy30⟩) (by assumption) ?rest30
          case hi30 => (simp only [List.getElem?_toArray, List.getElem?_cons_succ, List.getElem?_cons_zero]; rfl)
          case hw30 => rfl
          case hy30 => (intro w hSw; (try dsimp only at hSw); go_simp; try with_reducible rfl)
          (try simp only [Act.put, List.setIfInBounds_toArray, List.set_cons_zero, List.set_cons_succ])
          refine wpAnyH_take (i := 31) (oi := ?o31) (v := ?v31) ?hi31 (by kernel_rfl) (by kernel_rfl) (by kernel_rfl) (fun _ _ _ h => h) (Or.inl ⟨?hw31, ?hy31⟩) (by assumption) ?rest31
          case hi31 => (simp only [List.getElem?_toArray, List.getElem?_cons_succ, List.getElem?_cons_zero]; rfl)
          case hw31 => rfl
          case hy31 => (intro w hSw; (try dsimp only at hSw); go_simp; try with_reducible rfl)
          (try simp only [Act.put, List.setIfInBounds_toArray, List.set_cons_zero, List.set_cons_succ])
          refine wpAnyH_take (i := 32) (oi := ?o32) (v := ?v32) ?hi32 (by kernel_rfl) (by kernel_rfl) (by kernel_rfl) (fun _ _ _ h => h) (Or.inl ⟨?hw32, ?hy32⟩) (by assumption) ?rest32
          case hi32 => (simp only [List.getElem?_toArray, List.getElem?_cons_succ, List.getElem?_cons_zero]; rfl)
          case hw32 => rfl
          case hy32 => (intro w hSw; (try dsimp only at hSw); go_simp; try with_reducible rfl)
          (try simp only [Act.put, List.setIfInBounds_toArray, List.set_cons_zero, List.set_cons_succ])
          refine wpAnyH_take (i := 33) (oi := ?o33) (v := ?v33) ?hi33 (by kernel_rfl) (by kernel_rfl) (by kernel_rfl) (fun _ _ _ h => h) (Or.inl ⟨?hw33, ?hy33⟩) (by assumption) ?rest33
          case hi33 => (simp only [List.getElem?_toArray, List.getElem?_cons_succ, List.getElem?_cons_zero]; rfl)
          case hw33 => rfl
          case hy33 => (intro w hSw; (try dsimp only at hSw); go_simp; try with_reducible rfl)
          (try simp only [Act.put, List.setIfInBounds_toArray, List.set_cons_zero, List.set_cons_succ])
          refine wpAnyH_take (i := 34) (oi := ?o34) (v := ?v34) ?hi34 (by kernel_rfl) (by kernel_rfl) (by kernel_rfl) (fun _ _ _ h => h) (Or.inl ⟨?hw34, ?hy34⟩) (by assumption) ?rest34
          case hi34 => (simp only [List.getElem?_toArray, List.getElem?_cons_succ, List.getElem?_cons_zero]; rfl)
          case hw34 => rfl
          case hy34 => (intro w hSw; (try dsimp only at hSw); go_simp; try with_reducible rfl)
          (try simp only [Act.put, List.setIfInBounds_toArray, List.set_cons_zero, List.set_cons_succ])
          refine wpAnyH_ready (rs := [29]) (by kernel_rfl) (by simp) ?_
          refine AllReadyH.cons (o := ?o29) ?hi29 (fun K hK => ?st29) AllReadyH.nil
          case hi29 => (simp only [List.getElem?_toArray, List.getElem?_cons_succ, List.getElem?_cons_zero]; rfl)
          go_simp
          (go_at_call 34; refine (pr_input (L := L7) (by simp) (hS.frm hfk5) hP5 x).mono ?_; rintro e w6 ⟨rfl, hP6, hf6⟩; have hfk6 := frm_kept hfk5 hf6 (fun _ h => h))
          (try go_wp2_with fail)
          refine hK.out _ _ (by exact held_cells hf6 hbk (by assumption)) (fun hHeld => ?_)
          clear hK K
          (try simp only [Act.put, List.setIfInBounds_toArray, List.set_cons_zero, List.set_cons_succ])
          refine wpAnyH_ready (rs := [35]) (by kernel_rfl) (by simp) ?_
          refine AllReadyH.cons (o := ?o35) ?hi35 (fun K hK => ?st35) AllReadyH.nil
          case hi35 => (simp only [List.getElem?_toArray, List.getElem?_cons_succ, List.getElem?_cons_zero]; rfl)
          go_simp
          (go_at_call 35; refine (pr_xinput hP6 x).mono ?_; rintro e w7 ⟨rfl, hP7, hf7⟩; have hfk7 := frm_kept hfk6 hf7 (fun _ h => h); have hc7 := (pr_cells hP7).2)
          (try go_wp2_with fail)
          refine hK.out _ _ (by exact held_cells hf7 hbk (by assumption)) (fun hHeld => ?_)
          clear hK K
          (try simp only [Act.put, List.setIfInBounds_toArray, List.set_cons_zero, List.set_cons_succ])
          refine wpAnyH_take (i := 36) (oi := ?o36) (v := ?v36) ?hi36 (by kernel_rfl) (by kernel_rfl) (by kernel_rfl) (fun _ _ _ h => h) (Or.inl ⟨?hw36, ?hy36⟩) (by assumption) ?rest36
          case hi36 => (simp only [List.getElem?_toArray, List.getElem?_cons_succ, List.getElem?_cons_zero]; rfl)
          case hw36 => rfl
          case hy36 => (intro w hSw; (try dsimp only at hSw); go_simp; try with_reducible rfl)
          (try simp only [Act.put, List.setIfInBounds_toArray, List.set_cons_zero, List.set_cons_succ])
          refine wpAnyH_take (i := 37) (oi := ?o37) (v := ?v37) ?hi37 (by kernel_rfl) (by kernel_rfl) (by kernel_rfl) (fun _ _ _ h => h) (Or.inl ⟨?hw37, ?hy37⟩) (by assumption) ?rest37
          case hi37 => (simp only [List.getElem?_toArray, List.getElem?_cons_succ, List.getElem?_cons_zero]; rfl)
          case hw37 => rfl
          case hy37 => (intro w hSw; (try dsimp only at hSw); go_simp; try with_reducible rfl)
          (try simp only [Act.put, List.setIfInBounds_toArray, List.set_cons_zero, List.set_cons_succ])
          refine wpAnyH_take (i := 38) (oi := ?o38) (v := ?v38) ?hi38 (by kernel_rfl) (by kernel_rfl) (by kernel_rfl) (fun _ _ _ h => h) (Or.inl ⟨?hw38, ?hy38⟩) (by assumption) ?rest38
          case hi38 => (simp only [List.getElem?_toArray, List.getElem?_cons_succ, List.getElem?_cons_zero]; rfl)
          case hw38 => rfl
          case hy38 => (intro w hSw; (try dsimp only at hSw); go_simp; try with_reducible rfl)
          (try simp only [Act.put, List.setIfInBounds_toArray, List.set_cons_zero, List.set_cons_succ])
          refine wpAnyH_turn (S' := fun w' => w'.cell? ⟨gx, 2, none⟩ = some (.int .i64 (((g.and x y).2.input x).2.bad : Int)) ∧ w'.cell? ⟨bk, o + 2 * k, none⟩ = some (.int .i64 x) ∧ w'.cell? ⟨bk, o + (2 * k + 1), none⟩ = some (.int .i64 y)) (fun _ h => h.2) ?_
          have hHeld2 := And.intro hc7 hHeld
          clear hHeld
          refine wpAnyH_take (i := 39) (oi := ?o39) (v := ?v39) ?hi39 (by kernel_rfl) (by kernel_rfl) (by kernel_rfl) (fun _ _ _ h => h) (Or.inl ⟨?hw39, ?hy39⟩) (by assumption) ?rest39
          case hi39 => (simp only [List.getElem?_toArray, List.getElem?_cons_succ, List.getElem?_cons_zero]; rfl)
          case hw39 => rfl
          case hy39 => (intro w hSw; (try dsimp only at hSw); go_simp; try with_reducible rfl)
          (try simp only [Act.put, List.setIfInBounds_toArray, List.set_cons_zero, List.set_cons_succ])
          refine wpAnyH_take (i := 42) (oi := ?o42) (v := ?v42) ?hi42 (by kernel_rfl) (by kernel_rfl) (by kernel_rfl) (fun _ _ _ h => h) (Or.inl ⟨?hw42, ?hy42⟩) (by assumption) ?rest42
          case hi42 => (simp only [List.getElem?_toArray, List.getElem?_cons_succ, List.getElem?_cons_zero]; rfl)
          case hw42 => rfl
          case hy42 => (intro w hSw; (try dsimp only at hSw); go_simp; try with_reducible rfl)
          (try simp only [Act.put, List.setIfInBounds_toArray, List.set_cons_zero, List.set_cons_succ])
          refine wpAnyH_take (i := 43) (oi := ?o43) (v := ?v43) ?hi43 (by kernel_rfl) (by kernel_rfl) (by kernel_rfl) (fun _ _ _ h => h) (Or.inl ⟨?hw43, ?hy43⟩) (by assumption) ?rest43
          case hi43 => (simp only [List.getElem?_toArray, List.getElem?_cons_succ, List.getElem?_cons_zero]; rfl)
          case hw43 => rfl
          case hy43 => (intro w hSw; (try dsimp only at hSw); go_simp; try with_reducible rfl)
          (try simp only [Act.put, List.setIfInBounds_toArray, List.set_cons_zero, List.set_cons_succ])
          refine wpAnyH_take (i := 44) (oi := ?o44) (v := ?v44) ?hi44 (by kernel_rfl) (by kernel_rfl) (by kernel_rfl) (fun _ _ _ h => h) (Or.inl ⟨?hw44, ?hy44⟩) (by assumption) ?rest44
          case hi44 => (simp only [List.getElem?_toArray, List.getElem?_cons_succ, List.getElem?_cons_zero]; rfl)
          case hw44 => rfl
          case hy44 => (intro w hSw; (try dsimp only at hSw); go_simp; try with_reducible rfl)
          (try simp only [Act.put, List.setIfInBounds_toArray, List.set_cons_zero, List.set_cons_succ])
          refine wpAnyH_take (i := 45) (oi := ?o45) (v := ?v45) ?hi45 (by kernel_rfl) (by kernel_rfl) (by kernel_rfl) (fun _ _ _ h => h) (Or.inl ⟨?hw45, ?hy45⟩) (by assumption) ?rest45
          case hi45 => (simp only [List.getElem?_toArray, List.getElem?_cons_succ, List.getElem?_cons_zero]; rfl)
          case hw45 => rfl
          case hy45 => (intro w hSw; (try dsimp only at hSw); go_simp; try with_reducible rfl)
          (try simp only [Act.put, List.setIfInBounds_toArray, List.set_cons_zero, List.set_cons_succ])
          refine wpAnyH_ready (rs := [40]) (by kernel_rfl) (by simp) ?_
          refine AllReadyH.cons (o := ?o40) ?hi40 (fun K hK => ?st40) AllReadyH.nil
          case hi40 => (simp only [List.getElem?_toArray, List.getElem?_cons_succ, List.getElem?_cons_zero]; rfl)
          go_simp
          (go_at_call 29; refine (pr_err hP7).mono ?_; rintro e w8 ⟨rfl, rfl⟩)
          (try go_wp2_with fail)
          refine hK.out _ _ (by assumption) (fun hHeld => ?_)
          clear hK K
          (try simp only [Act.put, List.setIfInBounds_toArray, List.set_cons_zero, List.set_cons_succ])
          refine wpAnyH_ready (rs := [41]) (by kernel_rfl) (by simp) ?_
          refine AllReadyH.cons (o := ?o41) ?hi41 (fun K hK => ?st41) AllReadyH.nil
          case hi41 => (simp only [List.getElem?_toArray, List.getElem?_cons_succ, List.getElem?_cons_zero]; rfl)
          go_simp
          (go_at_call 36; refine (code_at P _ (hS.frm hfk7) _ i2).mono ?_; rintro e w9 ⟨rfl, hf9⟩)
          (try go_wp2_with fail)
          refine hK.out _ _ (by exact ⟨hf9.cell hHeld2.1 id, hf9.cell hHeld2.2.1 id, hf9.cell hHeld2.2.2 id⟩) (fun hHeld => ?_)
          clear hK K
          (try simp only [Act.put, List.setIfInBounds_toArray, List.set_cons_zero, List.set_cons_succ])
          refine wpAnyH_take (i := 46) (oi := ?o46) (v := ?v46) ?hi46 (by kernel_rfl) (by kernel_rfl) (by kernel_rfl) (fun _ _ _ h => h) (Or.inl ⟨?hw46, ?hy46⟩) (by assumption) ?rest46
          case hi46 => (simp only [List.getElem?_toArray, List.getElem?_cons_succ, List.getElem?_cons_zero]; rfl)
          case hw46 => rfl
          case hy46 => (intro w hSw; (try dsimp only at hSw); go_simp; try with_reducible rfl)
          (try simp only [Act.put, List.setIfInBounds_toArray, List.set_cons_zero, List.set_cons_succ])
          refine wpAnyH_take (i := 47) (oi := ?o47) (v := ?v47) ?hi47 (by kernel_rfl) (by kernel_rfl) (by kernel_rfl) (fun _ _ _ h => h) (Or.inl ⟨?hw47, ?hy47⟩) (by assumption) ?rest47
          case hi47 => (simp only [List.getElem?_toArray, List.getElem?_cons_succ, List.getElem?_cons_zero]; rfl)
          case hw47 => rfl
          case hy47 => (intro w hSw; (try dsimp only at hSw); go_simp; try with_reducible rfl)
          (try simp only [Act.put, List.setIfInBounds_toArray, List.set_cons_zero, List.set_cons_succ])
          refine wpAnyH_done (by kernel_rfl) ?_ _
          refine NoPanic.normal ?_
          all_goals
            go_wp2_with fail
            go_roundw
            case rel => exact ⟨k + 1, _, by omega, by go_num, by omega, i2, hP7.frm hf9, hfk7.trans hf9⟩
            case measure => simp [intOf]; omega
        · have hge : ¬ 2 * (k : Int) + 1 < len1 := by omega
          have hl7 : g.len ≤ 170 := by omega
          go_wp2_with fail
          refine (pr_circuit hP a2 len2 cap2 _ z2 HZ2.out (by omega) (s2.frm hfk (fun _ _ => id))).mono ?_
          rintro e w4 ⟨v, rfl, hC4, hf4⟩
          have hfk4 := hfk.trans hf4
          obtain ⟨A, c, B, d, rfl, hA4, hB4⟩ := hC4
          have hP4 := hP.frm hf4
          clear hP hf4
          go_wp2_with fail
          have hfa := (Frm.refl (fun _ => False) w4).alloc (.cells #[.int .i64 g.n, .slice A g.ands.length c, .slice B z2.length d] 40)
          have hb := Blk.new w4 40 [.int .i64 g.n, .slice A g.ands.length c, .slice B z2.length d]
          have hCv : IsC (w4.alloc (.cells #[.int .i64 g.n, .slice A g.ands.length c, .slice B z2.length d] 40)) (fun k => wr.heap.size ≤ k) (cv g.n A g.ands.length c B z2.length d) g.n g.ands z2 :=
            ⟨A, c, B, d, rfl, hA4.frm hfa (fun _ _ => id), hB4.frm hfa (fun _ _ => id)⟩
          have hPa := hP4.frm hfa
          have hfka := hfk4.trans hfa
          have hbad := (pr_cells hPa).2
          have d0 := hb.at_ 0 rfl
          have d1 := hb.at_ 1 rfl
          have d2 := hb.at_ 2 rfl
          have szs := pr_sizes hPa
          have HZ := HZ2.out
          clear hP4 hfk4 hA4 hB4 hb hfa
          generalize hcb : w4.heap.size = cb at *
          generalize w4.alloc (.cells #[.int .i64 g.n, .slice A g.ands.length c, .slice B z2.length d] 40) = wa at *
          clear hcb
          have HS2 := Lib.hid (fun W (h : Frm (fun _ => False) w W) => s2.frm h (fun _ _ => id))
          have HSC := Lib.hid (fun (W : World) (F5 : Nat → Prop) (v5 : Value) (h : Frm (fun _ => False) wa W) (hv : IsC W F5 v5 g.n g.ands z2) => sameCircuit_any (u := cv g.n A g.ands.length c B z2.length d) (by omega) (by omega) (hCv.frm h (fun _ _ => id)) hv)
          clear hCv HZ
          go_region_held3 (fun w' => Frm (fun _ => False) wa w' ∧ w'.cell? ⟨cb, 0, none⟩ = some (.int .i64 (g.n : Int)) ∧ w'.cell? ⟨cb, 1, none⟩ = some (.slice A g.ands.length c) ∧ w'.cell? ⟨cb, 2, none⟩ = some (.slice B z2.length d) ∧ w'.cell? ⟨gx, 2, none⟩ = some (.int .i64 (g.bad : Int)))
            (first | exact ⟨(Frm.refl _ wa).drew, d0, d1, d2, hbad⟩ | exact held4 hf5 (by assumption) | exact held4 hf6 (by assumption) | exact held4 hf7 (by assumption) | exact held4 ((Frm.refl _ _).drewN _) (by assumption) | exact held4 (Frm.drewN2 w7 n8 (n8 + n9)) (by assumption) | assumption)
            (first
              | (go_at_call 39; refine (pr_xcircuit (hPa.drewN 1) a2 len2 cap2 _ z2 HZ2.out (by omega) (HS2.out _ (hfka.drewN 1))).mono ?_; rintro e w5 ⟨v5, rfl, hC5, hf5⟩; obtain ⟨A5, c5, B5, d5, hv5, hA5, hB5⟩ := hC5; have hC5' := isC_of A5 c5 B5 d5 g.n g.ands z2 hA5 hB5; subst hv5; have hfw5 := (Frm.refl (fun _ => False) wa).drew.trans hf5)
              | (go_at_call 38; refine (HSC.out _ _ _ hfw5 hC5').mono ?_; rintro e w6 ⟨rfl, hf6⟩; have hP6 := (hPa.frm ((Frm.refl _ wa).drewN 1)).frm (hf5.trans hf6))
              | (go_at_call 29; refine (pr_err hP6).mono ?_; rintro e w8 ⟨rfl, rfl⟩)
              | (go_at_call 36; refine (code_at P _ (hS.frm ((hfka.drewN 1).trans (hf5.trans hf6))) _ hgb).mono ?_; rintro e w7 ⟨rfl, hf7⟩)
              | (go_at_call 26; refine (pr_len (hP6.frm hf7)).mono ?_; rintro e w' ⟨rfl, n8, rfl⟩)
              | (go_at_call 32; refine (pr_xlen ((hP6.frm hf7).drewN n8)).mono ?_; rintro e w' ⟨rfl, n9, rfl⟩))
          all_goals
            go_wp2_with fail
            go_ret
            exact ⟨rfl, ((((hfka.drewN 1).trans hf5).trans hf6).trans hf7).drewN _⟩

end Go.Proofs.YtkjlgamggkencaaDoor
