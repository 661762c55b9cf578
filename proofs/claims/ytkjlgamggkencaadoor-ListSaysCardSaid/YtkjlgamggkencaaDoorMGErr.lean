/-
  A graph's errors: fail, Input, Inputs, And of what is no literal.
-/
import Derived.Test.YtkjlgamggkencaaDoorMAnd
import Derived.Test.YtkjlgamggkencaaDoorMErrs
namespace Go.Proofs.YtkjlgamggkencaaDoor
open Go.RowKit

theorem fail_zero (g : Gr) (b : Nat) (h : g.bad = 0) : g.fail b = { g with bad := b } := by unfold Gr.fail; rw [if_pos h]
theorem fail_pos (g : Gr) (b : Nat) (h : g.bad ≠ 0) : g.fail b = g := by unfold Gr.fail; rw [if_neg h]
theorem fail_len (g : Gr) (b : Nat) : (g.fail b).len = g.len := rfl

set_option maxHeartbeats 1000000 in
theorem fail_any (P : Nat → Addr) (fp : Nat → Prop) (gb : Nat) (g : Gr) (w : World) (b : Nat) (a : Addr) (h0 : b ≠ 0) (ha : P b = a) (hG : IsGr (PE P) w fp gb g) :
    Calls Tryd.prog 102 #[.pointer (some ⟨gb, 0, none⟩), .iface 158 (.pointer (some a))] w fun e w' => e = .returned (.int .i64 0) ∧ IsGr (PE P) w' fp gb (g.fail b) ∧ Frm fp w w' := by
  have hG0 := hG
  obtain ⟨ok, A, c, mb, m, D, hb, hr, hm, hml, hD, f1, f2, f3⟩ := hG0
  have fr := hb.frozen 3
  by_cases h1 : g.bad = 0
  · rw [fail_zero g b h1]
    rw [h1, PE_zero] at hb
    have q := hb.at_ 3 rfl
    have hfr : Frm fp w (w.setCell ⟨gb, 3, none⟩ (.iface 158 (.pointer (some a)))) := (Frm.refl fp w).setCell (p := ⟨gb, 3, none⟩) (fun _ => f1) _
    have res : IsGr (PE P) (w.setCell ⟨gb, 3, none⟩ (.iface 158 (.pointer (some a)))) fp gb { g with bad := b } := by
      have hp3 := blk_map_ne hb hm
      have hf1 : Frm (fun k => k = gb) w (w.setCell ⟨gb, 3, none⟩ (.iface 158 (.pointer (some a)))) := (Frm.refl (fun k => k = gb) w).setCell (p := ⟨gb, 3, none⟩) (fun _ => rfl) _
      refine ⟨⟨ok.len, ok.small⟩, A, c, mb, m, D, ?_, own_frm hr hf1 (fun k hk e => ?_), hm.setCell (a := ⟨gb, 3, none⟩) (fun e => hp3 e.symm) _, hml, hD, f1, f2, f3⟩
      · have := hb.set_ 3 (.iface 158 (.pointer (some a)))
        rw [PE_pos P b h0, ha]
        exact this
      · subst e
        exact own_blk_ne' hr hb (by decide) hk
    have RES := Lib.hid res
    have HFR := Lib.hid hfr
    clear hG hb hr hm hfr res ha
    go_enter Tryd.func102, Tryd.ntmps102
    go_wp2_with fail
    go_ret
    exact ⟨rfl, RES.out, HFR.out⟩
  · rw [fail_pos g b h1]
    rw [PE_pos P _ h1] at hb
    have q := hb.at_ 3 rfl
    have HG := Lib.hid hG
    clear hb hG ha
    generalize P g.bad = a' at *
    go_enter Tryd.func102, Tryd.ntmps102
    go_wp2_with fail
    go_ret
    exact ⟨rfl, HG.out, Frm.refl _ _⟩

/-- Input: the literal, the graph -/
def Gr.input (g : Gr) (i : Int) : Int × Gr := if 0 ≤ i ∧ i < g.n then (2 * (i + 1), g) else (0, g.fail 104)

set_option maxHeartbeats 1000000 in
theorem input_any (L : List Nat) (P : Nat → Addr) (h104 : 104 ∈ L) (fp : Nat → Prop) (gb : Nat) (g : Gr) (w : World) (i : Int) (hS : Sents L P w) (hG : IsGr (PE P) w fp gb g) :
    Calls Tryd.prog 34 #[.pointer (some ⟨gb, 0, none⟩), .int .i64 i] w fun e w' => e = .returned (.int .i64 (g.input i).1) ∧ IsGr (PE P) w' fp gb (g.input i).2 ∧ Frm fp w w' := by
  have hG0 := hG
  obtain ⟨ok, A, c, mb, m, D, hb, hr, hm, hml, hD, f1, f2, f3⟩ := hG0
  have hn : g.n + g.ands.length ≤ 8000 := ok.len
  have q := hb.at_ 0 rfl
  have e4 : w.cell? ⟨0, 0, none⟩ = some (.iface 158 (.pointer (some (P 104)))) := hS.cell 104 h104
  have HF := Lib.hid (fun w' h => fail_any P fp gb g w' 104 (P 104) (by decide) rfl h)
  have HG := Lib.hid hG
  clear hG hb hr hm hS hD
  by_cases h1 : i < 0
  · have hi : g.input i = (0, g.fail 104) := by unfold Gr.input; rw [if_neg (by omega)]
    rw [hi]
    clear hi
    generalize P 104 = a at *
    go_enter Tryd.func34, Tryd.ntmps34
    go_wp2_with fail
    refine (HF.out _ HG.out).mono ?_
    rintro e w' ⟨rfl, hG', hf'⟩
    go_wp2_with fail
    go_ret
    exact ⟨rfl, hG', hf'⟩
  · by_cases h2 : i < g.n
    · have hi : g.input i = (2 * (i + 1), g) := by unfold Gr.input; rw [if_pos (by omega)]
      rw [hi]
      clear hi
      have hd : decide ((g.n : Int) ≤ i) = false := by simp; omega
      generalize P 104 = a at *
      go_enter Tryd.func34, Tryd.ntmps34
      go_wp2_with fail
      go_ret
      exact ⟨rfl, HG.out, Frm.refl _ _⟩
    · have hi : g.input i = (0, g.fail 104) := by unfold Gr.input; rw [if_neg (by omega)]
      rw [hi]
      clear hi
      have hd : decide ((g.n : Int) ≤ i) = true := by simp; omega
      generalize P 104 = a at *
      go_enter Tryd.func34, Tryd.ntmps34
      go_wp2_with fail
      refine (HF.out _ HG.out).mono ?_
      rintro e w' ⟨rfl, hG', hf'⟩
      go_wp2_with fail
      go_ret
      exact ⟨rfl, hG', hf'⟩

theorem inputs_any (E : Nat → Value) (fp : Nat → Prop) (gb : Nat) (g : Gr) (w : World) (hG : IsGr E w fp gb g) :
    Calls Tryd.prog 31 #[.pointer (some ⟨gb, 0, none⟩)] w fun e w' => e = .returned (.int .i64 (g.n : Int)) ∧ w = w' := by
  obtain ⟨ok, A, c, mb, m, D, hb, hr, hm, hml, hD, f1, f2, f3⟩ := hG
  have q := hb.at_ 0 rfl
  clear hb hr hm hD
  go_enter Tryd.func31, Tryd.ntmps31
  go_wp2_with fail
  go_ret
  exact ⟨rfl, rfl⟩

set_option maxRecDepth 100000 in
set_option maxHeartbeats 2000000 in
theorem and_bad (L : List Nat) (P : Nat → Addr) (h104 : 104 ∈ L) (fp : Nat → Prop) (gb : Nat) (g : Gr) (w : World) (x y hi lo : Int) (hS : Sents L P w) (hG : IsGr (PE P) w fp gb g) (ho : Ordered x y hi lo) (hb : (isL hi g.len && isL lo g.len) = false) :
    Calls Tryd.prog 27 #[.pointer (some ⟨gb, 0, none⟩), .int .i64 x, .int .i64 y] w fun e w' => e = .returned (.int .i64 0) ∧ IsGr (PE P) w' fp gb (g.fail 104) ∧ Frm fp w w' := by
  have hl := hG.1.len
  have hgl : g.len ≤ 8000 := hl
  have e4 : w.cell? ⟨0, 0, none⟩ = some (.iface 158 (.pointer (some (P 104)))) := hS.cell 104 h104
  have HF := Lib.hid (fun n => fail_any P fp gb g (w.drewN n) 104 (P 104) (by decide) rfl (hG.drewN n))
  have HG := Lib.hid hG
  clear hG hS
  generalize P 104 = a at *
  by_cases h1 : isL hi g.len = true
  · have h2 : isL lo g.len = false := by rw [h1] at hb; simpa using hb
    have c1 := fun w' => is_any hi g.len (by omega) w'
    have c2 := fun w' => is_any lo g.len (by omega) w'
    rw [h1] at c1
    rw [h2] at c2
    have C1 := Lib.hid c1
    have C2 := Lib.hid c2
    clear c1 c2 h1 h2 hb
    rcases ho with ⟨rfl, rfl, ho⟩ | ⟨rfl, rfl, ho⟩ | ⟨rfl, rfl, rfl⟩
    all_goals
      go_enter Tryd.func27, Tryd.ntmps27
      go_wp2_with fail
      refine (len_any (PE P) fp gb g w HG.out).mono ?_
      rintro e w' ⟨rfl, n1, rfl⟩
      go_wp2_with fail
      refine (C1.out _).mono ?_
      rintro e w' ⟨rfl, rfl⟩
      go_wp2_with fail
      refine (len_any (PE P) fp gb g _ (HG.out.drewN n1)).mono ?_
      rintro e w' ⟨rfl, n2, rfl⟩
      go_wp2_with fail
      refine (C2.out _).mono ?_
      rintro e w' ⟨rfl, rfl⟩
      go_wp2_with fail
      refine (HF.out _).mono ?_
      rintro e w' ⟨rfl, hG', hf'⟩
      go_wp2_with fail
      go_ret
      exact ⟨rfl, hG', ((Frm.refl fp w).drewN _).trans hf'⟩
  · have h1 : isL hi g.len = false := by simpa using h1
    have c1 := fun w' => is_any hi g.len (by omega) w'
    rw [h1] at c1
    have C1 := Lib.hid c1
    clear c1 h1 hb
    rcases ho with ⟨rfl, rfl, ho⟩ | ⟨rfl, rfl, ho⟩ | ⟨rfl, rfl, rfl⟩
    all_goals
      go_enter Tryd.func27, Tryd.ntmps27
      go_wp2_with fail
      refine (len_any (PE P) fp gb g w HG.out).mono ?_
      rintro e w' ⟨rfl, n1, rfl⟩
      go_wp2_with fail
      refine (C1.out _).mono ?_
      rintro e w' ⟨rfl, rfl⟩
      go_wp2_with fail
      refine (HF.out _).mono ?_
      rintro e w' ⟨rfl, hG', hf'⟩
      go_wp2_with fail
      go_ret
      exact ⟨rfl, hG', ((Frm.refl fp w).drewN _).trans hf'⟩

/-- And, of whatever numbers -/
theorem and_all (L : List Nat) (P : Nat → Addr) (h104 : 104 ∈ L) (fp : Nat → Prop) (gb : Nat) (g : Gr) (w : World) (a b : Int) (hS : Sents L P w) (hG : IsGr (PE P) w fp gb g) (hl : g.len < 8000) :
    Calls Tryd.prog 27 #[.pointer (some ⟨gb, 0, none⟩), .int .i64 a, .int .i64 b] w fun e w' => e = .returned (.int .i64 (g.and a b).1) ∧
      ∃ fp', IsGr (PE P) w' fp' gb (g.and a b).2 ∧ Grows fp fp' w w' ∧ Frm fp w w' := by
  by_cases h : isL a g.len = true ∧ isL b g.len = true
  · exact and_any (PE P) fp gb g w a b hG h.1 h.2 hl
  · obtain ⟨hi, lo, he, ho⟩ := and_hi_lo a b
    have hb : (isL hi g.len && isL lo g.len) = false := by
      rcases ho with ⟨rfl, rfl, _⟩ | ⟨rfl, rfl, _⟩ <;> (rw [Bool.eq_false_iff]; intro e; simp only [Bool.and_eq_true] at e; exact h ⟨by simp [e], by simp [e]⟩)
    have hr : g.and a b = (0, g.fail 104) := by rw [he]; unfold Gr.put; rw [if_pos hb]
    rw [hr]
    refine (and_bad L P h104 fp gb g w a b hi lo hS hG (ordered_of ho) hb).mono ?_
    rintro e w' ⟨rfl, h1, h2⟩
    exact ⟨rfl, fp, h1, fun k hk => .inl hk, h2⟩

end Go.Proofs.YtkjlgamggkencaaDoor
