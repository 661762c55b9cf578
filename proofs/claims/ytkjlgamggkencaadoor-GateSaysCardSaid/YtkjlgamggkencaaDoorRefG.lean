/-
  The reference's graph (skolemref8.Graph) in memory: [N, Ands, Bad].
-/
import Derived.Test.YtkjlgamggkencaaDoorCopy
import Derived.Test.YtkjlgamggkencaaDoorGErr
namespace Go.Proofs.YtkjlgamggkencaaDoor
open Go.RowKit

def IsX (w : World) (xp : Nat → Prop) (gx : Nat) (g : Gr) : Prop :=
  g.n + g.ands.length ≤ 8000 ∧ xp gx ∧ ∃ A c, Blk w gx 37 [.int .i64 g.n, .slice A g.ands.length c, .int .i64 (g.bad : Int)] ∧ Sl w (fun k => xp k ∧ k ≠ gx) 2 (.slice A g.ands.length c) g.ands.length (pairs g.ands)

theorem IsX.frm {S : Nat → Prop} {w w' : World} {xp : Nat → Prop} {gx : Nat} {g : Gr} (h : IsX w xp gx g) (hf : Frm S w w') (hd : ∀ k, xp k → ¬ S k) : IsX w' xp gx g := by
  obtain ⟨h0, h1, A, c, hb, hs⟩ := h
  exact ⟨h0, h1, A, c, hb.frm hf (hd _ h1), hs.frm hf (fun k hk => hd k hk.1)⟩
theorem IsX.drewN {w : World} {xp : Nat → Prop} {gx : Nat} {g : Gr} (h : IsX w xp gx g) (n : Nat) : IsX (w.drewN n) xp gx g := h.frm ((Frm.refl (fun _ => False) w).drewN n) (fun _ _ => id)

set_option maxRecDepth 100000 in
set_option maxHeartbeats 1000000 in
theorem xlen_any (xp : Nat → Prop) (gx : Nat) (g : Gr) (w : World) (h : IsX w xp gx g) :
    Calls Tryd.prog 32 #[.pointer (some ⟨gx, 0, none⟩)] w fun e w' => e = .returned (.int .i64 (g.len : Int)) ∧ ∃ n, w.drewN n = w' := by
  obtain ⟨h0, h1, A, c, hb, hs⟩ := h
  have c0 := hb.at_ 0 rfl
  have c1 := hb.at_ 1 rfl
  clear hb hs
  go_enter Tryd.func32, Tryd.ntmps32
  go_wp2_with fail
  go_quiet (fail)
  go_wp2
  go_ret
  exact ⟨ret_int (by unfold Gr.len; omega), _, rfl⟩

set_option maxRecDepth 100000 in
set_option maxHeartbeats 1000000 in
theorem xfail_any (xp : Nat → Prop) (gx : Nat) (g : Gr) (w : World) (b : Nat) (h : IsX w xp gx g) :
    Calls Tryd.prog 104 #[.pointer (some ⟨gx, 0, none⟩), .int .i64 b] w fun e w' => e = .returned (.int .i64 0) ∧ IsX w' xp gx (g.fail b) ∧ Frm (fun k => k = gx) w w' := by
  have hX := Lib.hid h
  obtain ⟨h0, h1, A, c, hb, hs⟩ := h
  have c2 := hb.at_ 2 rfl
  have fr := hb.frozen 2
  by_cases hz : g.bad = 0
  · rw [fail_zero g b hz]
    rw [hz] at c2
    have hf : Frm (fun k => k = gx) w (w.setCell ⟨gx, 2, none⟩ (.int .i64 b)) := (Frm.refl (fun k => k = gx) w).setCell (p := ⟨gx, 2, none⟩) (fun _ => rfl) _
    have res : IsX (w.setCell ⟨gx, 2, none⟩ (.int .i64 b)) xp gx { g with bad := b } := ⟨h0, h1, A, c, hb.set_ 2 (.int .i64 b), hs.frm hf (fun k hk e => hk.2 e)⟩
    have RES := Lib.hid res
    have HF := Lib.hid hf
    clear hb hs res hf hX
    go_enter Tryd.func104, Tryd.ntmps104
    go_wp2_with fail
    go_ret
    exact ⟨rfl, RES.out, HF.out⟩
  · rw [fail_pos g b hz]
    have hz' : ((g.bad : Int) == 0) = false := by simp; omega
    clear hb hs
    go_enter Tryd.func104, Tryd.ntmps104
    go_wp2_with fail
    go_ret
    exact ⟨rfl, hX.out, Frm.refl _ _⟩

set_option maxRecDepth 100000 in
set_option maxHeartbeats 1000000 in
theorem xnew_any (i : Int) (w : World) :
    Calls Tryd.prog 30 #[.int .i64 i] w fun e w' => e = .returned (.pointer (some ⟨w.heap.size, 0, none⟩)) ∧ IsX w' (fun k => k = w.heap.size) w.heap.size ⟨clamp i, [], 0⟩ ∧ Frm (fun _ => False) w w' ∧ w'.heap.size = w.heap.size + 1 := by
  have hc : ∀ x : Int, x = ((clamp i : Nat) : Int) → Calls Tryd.prog 30 #[.int .i64 i] w (fun e w' => e = .returned (.pointer (some ⟨w.heap.size, 0, none⟩)) ∧ w' = w.alloc (.cells #[.int .i64 x, .slice none 0 0, .int .i64 0] 37)) := by
    intro x hx
    by_cases h0 : i < 0
    · obtain rfl : x = 0 := by rw [hx]; unfold clamp; omega
      clear hx
      go_enter Tryd.func30, Tryd.ntmps30
      go_wp2
      all_goals go_ret
      all_goals exact ⟨rfl, rfl⟩
    · by_cases h1 : 8000 < i
      · obtain rfl : x = 8000 := by rw [hx]; unfold clamp; omega
        clear hx
        go_enter Tryd.func30, Tryd.ntmps30
        go_wp2
        all_goals go_ret
        all_goals exact ⟨rfl, rfl⟩
      · obtain rfl : x = i := by rw [hx]; unfold clamp; omega
        clear hx
        go_enter Tryd.func30, Tryd.ntmps30
        go_wp2
        all_goals go_ret
        all_goals exact ⟨rfl, rfl⟩
  refine (hc _ rfl).mono ?_
  rintro e w' ⟨rfl, rfl⟩
  refine ⟨rfl, ⟨?_, rfl, none, 0, Blk.new_at _ _ _ _ rfl, Sl.nil_ _ _ _⟩, (Frm.refl _ w).alloc _, by simp⟩
  show clamp i + 0 ≤ 8000; unfold clamp; omega

set_option maxRecDepth 100000 in
set_option maxHeartbeats 1000000 in
theorem xinput_any (xp : Nat → Prop) (gx : Nat) (g : Gr) (w : World) (i : Int) (hG : IsX w xp gx g) :
    Calls Tryd.prog 35 #[.pointer (some ⟨gx, 0, none⟩), .int .i64 i] w fun e w' => e = .returned (.int .i64 (g.input i).1) ∧ IsX w' xp gx (g.input i).2 ∧ Frm (fun k => k = gx) w w' := by
  have HG := Lib.hid hG
  have HF := Lib.hid (fun w' h => xfail_any xp gx g w' 104 h)
  obtain ⟨h0, h1, A, c, hb, hs⟩ := hG
  have q := hb.at_ 0 rfl
  clear hb hs
  by_cases h1 : i < 0
  · have hi : g.input i = (0, g.fail 104) := by unfold Gr.input; rw [if_neg (by omega)]
    rw [hi]
    clear hi
    go_enter Tryd.func35, Tryd.ntmps35
    go_wp2_with fail
    refine (HF.out _ HG.out).mono ?_
    rintro e w' ⟨rfl, hG', hf'⟩
    go_wp2_with fail
    go_ret
    exact ⟨rfl, hG', hf'⟩
  · by_cases h2 : i < g.n
    · have hi : g.input i = (2 * (i + 1), g) := by unfold Gr.input; rw [if_pos (by omega)]
      rw [hi]
      clear hi
      have hd : decide ((g.n : Int) ≤ i) = false := by simp; omega
      go_enter Tryd.func35, Tryd.ntmps35
      go_wp2_with fail
      go_ret
      exact ⟨rfl, HG.out, Frm.refl _ _⟩
    · have hi : g.input i = (0, g.fail 104) := by unfold Gr.input; rw [if_neg (by omega)]
      rw [hi]
      clear hi
      have hd : decide ((g.n : Int) ≤ i) = true := by simp; omega
      go_enter Tryd.func35, Tryd.ntmps35
      go_wp2_with fail
      refine (HF.out _ HG.out).mono ?_
      rintro e w' ⟨rfl, hG', hf'⟩
      go_wp2_with fail
      go_ret
      exact ⟨rfl, hG', hf'⟩

set_option maxRecDepth 100000 in
set_option maxHeartbeats 1000000 in
theorem xlit_any (xp : Nat → Prop) (gx : Nat) (g : Gr) (w : World) (l : Int) (hG : IsX w xp gx g) :
    Calls Tryd.prog 103 #[.pointer (some ⟨gx, 0, none⟩), .int .i64 l] w fun e w' => e = .returned (.bool (isL l g.len)) ∧ ∃ n, w.drewN n = w' := by
  have HL := Lib.hid (fun n => xlen_any xp gx g _ (hG.drewN n))
  have hl : g.len ≤ 8000 := hG.1
  clear hG
  by_cases h : 0 ≤ l
  · go_enter Tryd.func103, Tryd.ntmps103
    go_wp2_with fail
    refine (HL.out 0).mono ?_
    rintro e w' ⟨rfl, n1, rfl⟩
    go_wp2_with fail
    go_ret
    refine ⟨ret_bool ?_, _, rfl⟩
    unfold isL
    rw [decide_eq_true h, Bool.true_and]
    exact decide_eq_decide.2 (by omega)
  · go_enter Tryd.func103, Tryd.ntmps103
    go_wp2_with fail
    go_ret
    exact ⟨ret_bool (by unfold isL; rw [decide_eq_false (by omega), Bool.false_and]), 0, rfl⟩

end Go.Proofs.YtkjlgamggkencaaDoor
