/-
  The reference's graph (skolemref8.Graph) in memory: [N, Ands, Bad].
-/
import Derived.Test.YtkjlgamggkencaaDoorMCopy
import Derived.Test.YtkjlgamggkencaaDoorMGErr
import Derived.Test.YtkjlgamggkencaaDoorMGr
import Derived.Test.YtkjlgamggkencaaDoorMAnd
namespace Go.Proofs.YtkjlgamggkencaaDoor
open Go.RowKit

def IsX (w : World) (xp : Nat → Prop) (gx : Nat) (g : Gr) : Prop :=
  g.n + g.ands.length ≤ 8000 ∧ xp gx ∧ ∃ A c, Blk w gx 37 [.int .i64 g.n, .slice A g.ands.length c, .int .i64 (g.bad : Int)] ∧ Sl w (fun k => xp k ∧ k ≠ gx) 2 (.slice A g.ands.length c) g.ands.length (pairs g.ands)

theorem IsX.frm {S : Nat → Prop} {w w' : World} {xp : Nat → Prop} {gx : Nat} {g : Gr} (h : IsX w xp gx g) (hf : Frm S w w') (hd : ∀ k, xp k → ¬ S k) : IsX w' xp gx g := by
  obtain ⟨h0, h1, A, c, hb, hs⟩ := h
  exact ⟨h0, h1, A, c, hb.frm hf (hd _ h1), hs.frm hf (fun k hk => hd k hk.1)⟩
theorem IsX.drewN {w : World} {xp : Nat → Prop} {gx : Nat} {g : Gr} (h : IsX w xp gx g) (n : Nat) : IsX (w.drewN n) xp gx g := h.frm ((Frm.refl (fun _ => False) w).drewN n) (fun _ _ => id)

set_option maxRecDepth 100000 in
set_option maxHeartbeats 1000000 in
theorem xlen_any (xp : Nat → Prop) (gx : Nat) (g : Gr) (w : World) (h : IsX w xp gx g) :
    Calls Tryd.prog 32 #[.pointer (some ⟨gx, 0, none⟩)] w fun e w' => e = .returned (.int .i64 (g.len : Int)) ∧ ∃ n, w.drewN n = w' := by
  obtain ⟨h0, h1, A, c, hb, hs⟩ := h
  have c0 := hb.at_ 0 rfl
  have c1 := hb.at_ 1 rfl
  clear hb hs
  go_enter Tryd.func32, Tryd.ntmps32
  go_wp2_with fail
  go_quiet (fail)
  go_wp2
  go_ret
  exact ⟨ret_int (by unfold Gr.len; omega), _, rfl⟩

set_option maxRecDepth 100000 in
set_option maxHeartbeats 1000000 in
theorem xfail_any (xp : Nat → Prop) (gx : Nat) (g : Gr) (w : World) (b : Nat) (h : IsX w xp gx g) :
    Calls Tryd.prog 104 #[.pointer (some ⟨gx, 0, none⟩), .int .i64 b] w fun e w' => e = .returned (.int .i64 0) ∧ IsX w' xp gx (g.fail b) ∧ Frm (fun k => k = gx) w w' := by
  have hX := Lib.hid h
  obtain ⟨h0, h1, A, c, hb, hs⟩ := h
  have c2 := hb.at_ 2 rfl
  have fr := hb.frozen 2
  by_cases hz : g.bad = 0
  · rw [fail_zero g b hz]
    rw [hz] at c2
    have hf : Frm (fun k => k = gx) w (w.setCell ⟨gx, 2, none⟩ (.int .i64 b)) := (Frm.refl (fun k => k = gx) w).setCell (p := ⟨gx, 2, none⟩) (fun _ => rfl) _
    have res : IsX (w.setCell ⟨gx, 2, none⟩ (.int .i64 b)) xp gx { g with bad := b } := ⟨h0, h1, A, c, hb.set_ 2 (.int .i64 b), hs.frm hf (fun k hk e => hk.2 e)⟩
    have RES := Lib.hid res
    have HF := Lib.hid hf
    clear hb hs res hf hX
    go_enter Tryd.func104, Tryd.ntmps104
    go_wp2_with fail
    go_ret
    exact ⟨rfl, RES.out, HF.out⟩
  · rw [fail_pos g b hz]
    have hz' : ((g.bad : Int) == 0) = false := by simp; omega
    clear hb hs
    go_enter Tryd.func104, Tryd.ntmps104
    go_wp2_with fail
    go_ret
    exact ⟨rfl, hX.out, Frm.refl _ _⟩

set_option maxRecDepth 100000 in
set_option maxHeartbeats 1000000 in
theorem xnew_any (i : Int) (w : World) :
    Calls Tryd.prog 30 #[.int .i64 i] w fun e w' => e = .returned (.pointer (some ⟨w.heap.size, 0, none⟩)) ∧ IsX w' (fun k => k = w.heap.size) w.heap.size ⟨clamp i, [], 0⟩ ∧ Frm (fun _ => False) w w' ∧ w'.heap.size = w.heap.size + 1 := by
  have hc : ∀ x : Int, x = ((clamp i : Nat) : Int) → Calls Tryd.prog 30 #[.int .i64 i] w (fun e w' => e = .returned (.pointer (some ⟨w.heap.size, 0, none⟩)) ∧ w' = w.alloc (.cells #[.int .i64 x, .slice none 0 0, .int .i64 0] 37)) := by
    intro x hx
    by_cases h0 : i < 0
    · obtain rfl : x = 0 := by rw [hx]; unfold clamp; omega
      clear hx
      go_enter Tryd.func30, Tryd.ntmps30
      go_wp2
      all_goals go_ret
      all_goals exact ⟨rfl, rfl⟩
    · by_cases h1 : 8000 < i
      · obtain rfl : x = 8000 := by rw [hx]; unfold clamp; omega
        clear hx
        go_enter Tryd.func30, Tryd.ntmps30
        go_wp2
        all_goals go_ret
        all_goals exact ⟨rfl, rfl⟩
      · obtain rfl : x = i := by rw [hx]; unfold clamp; omega
        clear hx
        go_enter Tryd.func30, Tryd.ntmps30
        go_wp2
        all_goals go_ret
        all_goals exact ⟨rfl, rfl⟩
  refine (hc _ rfl).mono ?_
  rintro e w' ⟨rfl, rfl⟩
  refine ⟨rfl, ⟨?_, rfl, none, 0, Blk.new_at _ _ _ _ rfl, Sl.nil_ _ _ _⟩, (Frm.refl _ w).alloc _, by simp⟩
  show clamp i + 0 ≤ 8000; unfold clamp; omega

set_option maxRecDepth 100000 in
set_option maxHeartbeats 1000000 in
theorem xinput_any (xp : Nat → Prop) (gx : Nat) (g : Gr) (w : World) (i : Int) (hG : IsX w xp gx g) :
    Calls Tryd.prog 35 #[.pointer (some ⟨gx, 0, none⟩), .int .i64 i] w fun e w' => e = .returned (.int .i64 (g.input i).1) ∧ IsX w' xp gx (g.input i).2 ∧ Frm (fun k => k = gx) w w' := by
  have HG := Lib.hid hG
  have HF := Lib.hid (fun w' h => xfail_any xp gx g w' 104 h)
  obtain ⟨h0, h1, A, c, hb, hs⟩ := hG
  have q := hb.at_ 0 rfl
  clear hb hs
  by_cases h1 : i < 0
  · have hi : g.input i = (0, g.fail 104) := by unfold Gr.input; rw [if_neg (by omega)]
    rw [hi]
    clear hi
    go_enter Tryd.func35, Tryd.ntmps35
    go_wp2_with fail
    refine (HF.out _ HG.out).mono ?_
    rintro e w' ⟨rfl, hG', hf'⟩
    go_wp2_with fail
    go_ret
    exact ⟨rfl, hG', hf'⟩
  · by_cases h2 : i < g.n
    · have hi : g.input i = (2 * (i + 1), g) := by unfold Gr.input; rw [if_pos (by omega)]
      rw [hi]
      clear hi
      have hd : decide ((g.n : Int) ≤ i) = false := by simp; omega
      go_enter Tryd.func35, Tryd.ntmps35
      go_wp2_with fail
      go_ret
      exact ⟨rfl, HG.out, Frm.refl _ _⟩
    · have hi : g.input i = (0, g.fail 104) := by unfold Gr.input; rw [if_neg (by omega)]
      rw [hi]
      clear hi
      have hd : decide ((g.n : Int) ≤ i) = true := by simp; omega
      go_enter Tryd.func35, Tryd.ntmps35
      go_wp2_with fail
      refine (HF.out _ HG.out).mono ?_
      rintro e w' ⟨rfl, hG', hf'⟩
      go_wp2_with fail
      go_ret
      exact ⟨rfl, hG', hf'⟩

set_option maxRecDepth 100000 in
set_option maxHeartbeats 1000000 in
theorem xlit_any (xp : Nat → Prop) (gx : Nat) (g : Gr) (w : World) (l : Int) (hG : IsX w xp gx g) :
    Calls Tryd.prog 103 #[.pointer (some ⟨gx, 0, none⟩), .int .i64 l] w fun e w' => e = .returned (.bool (isL l g.len)) ∧ ∃ n, w.drewN n = w' := by
  have HL := Lib.hid (fun n => xlen_any xp gx g _ (hG.drewN n))
  have hl : g.len ≤ 8000 := hG.1
  clear hG
  by_cases h : 0 ≤ l
  · go_enter Tryd.func103, Tryd.ntmps103
    go_wp2_with fail
    refine (HL.out 0).mono ?_
    rintro e w' ⟨rfl, n1, rfl⟩
    go_wp2_with fail
    go_ret
    refine ⟨ret_bool ?_, _, rfl⟩
    unfold isL
    rw [decide_eq_true h, Bool.true_and]
    exact decide_eq_decide.2 (by omega)
  · go_enter Tryd.func103, Tryd.ntmps103
    go_wp2_with fail
    go_ret
    exact ⟨ret_bool (by unfold isL; rw [decide_eq_false (by omega), Bool.false_and]), 0, rfl⟩

end Go.Proofs.YtkjlgamggkencaaDoor

namespace Go.Proofs.YtkjlgamggkencaaDoor
open Go.RowKit

set_option maxRecDepth 100000 in
set_option maxHeartbeats 4000000 in
theorem xand_bad (xp : Nat → Prop) (gx : Nat) (g : Gr) (w : World) (x y : Int) (hG : IsX w xp gx g) (hb : ¬ (isL x g.len = true ∧ isL y g.len = true)) :
    Calls Tryd.prog 33 #[.pointer (some ⟨gx, 0, none⟩), .int .i64 x, .int .i64 y] w fun e w' => e = .returned (.int .i64 0) ∧ IsX w' xp gx (g.fail 104) ∧ Frm (fun k => k = gx) w w' := by
  have HF := Lib.hid (fun n => xfail_any xp gx g _ 104 (hG.drewN n))
  have HX := Lib.hid (fun l n => xlit_any xp gx g _ l (hG.drewN n))
  clear hG
  by_cases h1 : isL x g.len = true
  · have h2 : isL y g.len = false := by simpa [h1] using hb
    clear hb
    go_enter Tryd.func33, Tryd.ntmps33
    go_wp2_with fail
    refine (HX.out _ 0).mono ?_
    rintro e w' ⟨rfl, n1, rfl⟩
    rw [h1]
    go_wp2_with fail
    refine (HX.out _ n1).mono ?_
    rintro e w' ⟨rfl, n2, rfl⟩
    rw [h2]
    go_wp2_with fail
    refine (HF.out _).mono ?_
    rintro e w' ⟨rfl, hG', hf'⟩
    go_wp2_with fail
    go_ret
    exact ⟨rfl, hG', ((Frm.refl (fun k => k = gx) w).drewN _).trans hf'⟩
  · have h1 : isL x g.len = false := by simpa using h1
    clear hb
    go_enter Tryd.func33, Tryd.ntmps33
    go_wp2_with fail
    refine (HX.out _ 0).mono ?_
    rintro e w' ⟨rfl, n1, rfl⟩
    rw [h1]
    go_wp2_with fail
    refine (HF.out _).mono ?_
    rintro e w' ⟨rfl, hG', hf'⟩
    go_wp2_with fail
    go_ret
    exact ⟨rfl, hG', ((Frm.refl (fun k => k = gx) w).drewN _).trans hf'⟩

set_option maxRecDepth 100000 in
set_option maxHeartbeats 8000000 in
/-- the ways without a search: false, or the greater literal -/
theorem xand_plain (xp : Nat → Prop) (gx : Nat) (g : Gr) (w : World) (x y hi lo : Int) (hG : IsX w xp gx g) (ho : Ordered x y hi lo) (h1 : isL hi g.len = true) (h2 : isL lo g.len = true) (hp : lo = 0 ∨ hi = notL lo ∨ lo = 1 ∨ hi = lo) :
    Calls Tryd.prog 33 #[.pointer (some ⟨gx, 0, none⟩), .int .i64 x, .int .i64 y] w fun e w' => e = .returned (.int .i64 (if lo = 0 ∨ hi = notL lo then 0 else hi)) ∧ ∃ n, w.drewN n = w' := by
  have hl : g.len ≤ 8000 := hG.1
  have HX := Lib.hid (fun l n => xlit_any xp gx g _ l (hG.drewN n))
  have k1 := isL_iff.1 h1
  have k2 := isL_iff.1 h2
  have hxor := bits_xor_one lo (by omega) (by omega)
  clear hG
  by_cases c1 : lo = 0 ∨ hi = notL lo
  · rw [if_pos c1]
    by_cases c0 : lo = 0
    · subst c0
      rcases ho with ⟨rfl, rfl, ho⟩ | ⟨rfl, rfl, ho⟩ | ⟨rfl, rfl, ho⟩
      all_goals
        go_enter Tryd.func33, Tryd.ntmps33
        go_wp2_with fail
        refine (HX.out _ 0).mono ?_
        rintro e w' ⟨rfl, n1, rfl⟩
        first | rw [h1] | rw [h2]
        go_wp2_with fail
        refine (HX.out _ n1).mono ?_
        rintro e w' ⟨rfl, n2, rfl⟩
        first | rw [h2] | rw [h1]
        go_wp2_with fail
        go_ret
        exact ⟨rfl, _, rfl⟩
    · have c2 : hi = notL lo := by omega
      have t0 : (lo == 0) = false := by simpa using c0
      have t1 : (hi == notL lo) = true := by simpa using c2
      have hne := notL_ne lo
      rcases ho with ⟨rfl, rfl, ho⟩ | ⟨rfl, rfl, ho⟩ | ⟨rfl, rfl, ho⟩
      rotate_left 2
      · exact absurd (c2.symm.trans ho.symm) hne
      all_goals
        clear c1 c0 c2 hne hp
        go_enter Tryd.func33, Tryd.ntmps33
        go_wp2_with fail
        refine (HX.out _ 0).mono ?_
        rintro e w' ⟨rfl, n1, rfl⟩
        first | rw [h1] | rw [h2]
        go_wp2_with fail
        refine (HX.out _ n1).mono ?_
        rintro e w' ⟨rfl, n2, rfl⟩
        first | rw [h2] | rw [h1]
        go_wp2_with fail
        go_ret
        exact ⟨rfl, _, rfl⟩
  · rw [if_neg c1]
    have c0 : ¬ lo = 0 := fun e => c1 (.inl e)
    have c2 : ¬ hi = notL lo := fun e => c1 (.inr e)
    have t0 : (lo == 0) = false := by simpa using c0
    have t1 : (hi == notL lo) = false := by simpa using c2
    by_cases c3 : lo = 1
    · have t2 : (lo == 1) = true := by simpa using c3
      clear c1 c0 c2 c3 hp
      rcases ho with ⟨rfl, rfl, ho⟩ | ⟨rfl, rfl, ho⟩ | ⟨rfl, rfl, ho⟩
      rotate_left 2
      · subst ho
        go_enter Tryd.func33, Tryd.ntmps33
        go_wp2_with fail
        refine (HX.out _ 0).mono ?_
        rintro e w' ⟨rfl, n1, rfl⟩
        rw [h1]
        go_wp2_with fail
        refine (HX.out _ n1).mono ?_
        rintro e w' ⟨rfl, n2, rfl⟩
        rw [h1]
        go_wp2_with fail
        go_ret
        exact ⟨rfl, _, rfl⟩
      all_goals
        go_enter Tryd.func33, Tryd.ntmps33
        go_wp2_with fail
        refine (HX.out _ 0).mono ?_
        rintro e w' ⟨rfl, n1, rfl⟩
        first | rw [h1] | rw [h2]
        go_wp2_with fail
        refine (HX.out _ n1).mono ?_
        rintro e w' ⟨rfl, n2, rfl⟩
        first | rw [h2] | rw [h1]
        go_wp2_with fail
        go_ret
        exact ⟨rfl, _, rfl⟩
    · have t2 : (lo == 1) = false := by simpa using c3
      have c4 : lo = hi := by omega
      subst c4
      obtain ⟨rfl, rfl⟩ : x = lo ∧ y = lo := by rcases ho with ⟨rfl, rfl, ho⟩ | ⟨rfl, rfl, ho⟩ | ⟨rfl, rfl, ho⟩ <;> omega
      clear c1 c0 c2 c3 hp ho
      go_enter Tryd.func33, Tryd.ntmps33
      go_wp2_with fail
      refine (HX.out _ 0).mono ?_
      rintro e w' ⟨rfl, n1, rfl⟩
      rw [h1]
      go_wp2_with fail
      refine (HX.out _ n1).mono ?_
      rintro e w' ⟨rfl, n2, rfl⟩
      rw [h1]
      go_wp2_with fail
      go_ret
      exact ⟨rfl, _, rfl⟩

end Go.Proofs.YtkjlgamggkencaaDoor

namespace Go.Proofs.YtkjlgamggkencaaDoor
open Go.RowKit

theorem idx_before {p : Int × Int} : ∀ {l : List (Int × Int)} {i k : Nat}, idx p l = some i → k < i → l.getD k (0, 0) ≠ p
  | [], _, _, h, _ => by simp [idx] at h
  | q :: r, i, k, h, hk => by
    rw [idx_cons] at h
    split at h
    · cases h; omega
    · rename_i e
      obtain ⟨j, hj, rfl⟩ := Option.map_eq_some_iff.1 h
      cases k with
      | zero => simpa using e
      | succ k => have := idx_before hj (k := k) (by omega); simpa using this
theorem idx_all {p : Int × Int} {l : List (Int × Int)} {k : Nat} (h : idx p l = none) (hk : k < l.length) : l.getD k (0, 0) ≠ p := by
  have := idx_none.1 h
  intro e
  apply this
  rw [← e]
  simp [List.getD, hk]

set_option maxRecDepth 100000 in
set_option maxHeartbeats 8000000 in
theorem xand_found (xp : Nat → Prop) (gx : Nat) (g : Gr) (w : World) (x y hi lo : Int) (i : Nat) (hG : IsX w xp gx g) (ho : Ordered x y hi lo) (h1 : isL hi g.len = true) (h2 : isL lo g.len = true)
    (p0 : lo ≠ 0) (p1 : lo ≠ 1) (p2 : hi ≠ lo) (p3 : hi ≠ notL lo) (hi' : idx (hi, lo) g.ands = some i) :
    Calls Tryd.prog 33 #[.pointer (some ⟨gx, 0, none⟩), .int .i64 x, .int .i64 y] w fun e w' => e = .returned (.int .i64 (2 * ((g.n : Int) + i + 1))) ∧ ∃ n, w.drewN n = w' := by
  have hl : g.len ≤ 8000 := hG.1
  have HX := Lib.hid (fun l n => xlit_any xp gx g _ l (hG.drewN n))
  have k1 := isL_iff.1 h1
  have k2 := isL_iff.1 h2
  have hxor := bits_xor_one lo (by omega) (by omega)
  have t0 : (lo == 0) = false := by simpa using p0
  have t1 : (hi == notL lo) = false := by simpa using p3
  have t2 : (lo == 1) = false := by simpa using p1
  have t3 : (hi == lo) = false := by simpa using p2
  obtain ⟨hx0, hx1, A, c, hb, hs⟩ := hG
  have c0 := hb.at_ 0 rfl
  have c1 := hb.at_ 1 rfl
  have hil := (idx_lt hi').1
  have HI := Lib.hid hi'
  have HS := Lib.hid hs
  clear hb hs p0 p1 p3 hi'
  rcases ho with ⟨e1, e2, ho⟩ | ⟨e1, e2, ho⟩ | ⟨e1, e2, ho⟩
  rotate_left 2
  · exact absurd ho.symm p2
  all_goals
    clear p2
    subst x
    subst y
    go_enter Tryd.func33, Tryd.ntmps33
    go_wp2_with fail
    refine (HX.out _ 0).mono ?_
    rintro e w' ⟨rfl, n1, rfl⟩
    first | rw [h1] | rw [h2]
    go_wp2_with fail
    refine (HX.out _ n1).mono ?_
    rintro e w' ⟨rfl, n2, rfl⟩
    first | rw [h2] | rw [h1]
    go_wp2_with fail
    go_loopw [8] (fun iv wr => ∃ (k j : Nat), k ≤ i ∧ iv = .int .i64 (k : Int) ∧ wr = w.drewN j) (fun iv _ => 20000 - (intOf iv).toNat)
    case atStart => exact ⟨0, _, by omega, rfl, rfl⟩
    case round =>
      obtain ⟨k, j, hk, rfl, rfl⟩ := hrel
      have hkl : k < g.ands.length := by omega
      obtain ⟨b, o, rfl, _, q1, q2⟩ := sl_pair HS.out hkl
      rw [← Nat.add_assoc] at q2
      have hk0 : (0 : Int) ≤ k := by omega
      have hk1 : (k : Int) < g.ands.length := by omega
      have wk1 : IntKind.i64.wrap ((g.n : Int) + k) = (g.n : Int) + k := IntWalk.i64_in _ (by omega)
      have wk2 : IntKind.i64.wrap ((g.n : Int) + k + 1) = (g.n : Int) + k + 1 := IntWalk.i64_in _ (by omega)
      have wk3 : IntKind.i64.wrap (2 * ((g.n : Int) + k + 1)) = 2 * ((g.n : Int) + k + 1) := IntWalk.i64_in _ (by omega)
      by_cases he : k = i
      · subst he
        have hp := (idx_lt HI.out).2
        have hgd : g.ands.getD k (0, 0) = (hi, lo) := by rw [List.getD_eq_getElem?_getD, hp]; rfl
        rw [hgd] at q1 q2
        clear hgd hp
        go_wp2_with fail
        go_ret
        exact ⟨rfl, _, rfl⟩
      · have hne := idx_before HI.out (show k < i by omega)
        generalize g.ands.getD k (0, 0) = p at *
        obtain ⟨u, v⟩ := p
        simp only at q1 q2
        by_cases hu : u = hi
        · have hv : ¬ v = lo := fun e => hne (by rw [hu, e])
          have r1 : (u == hi) = true := by simpa using hu
          have r2 : (v == lo) = false := by simpa using hv
          clear hu hv hne
          go_wp2_with fail
          go_roundw
          case rel => exact ⟨k + 1, _, by omega, by go_num, rfl⟩
          case measure => simp [intOf]; omega
        · have r1 : (u == hi) = false := by simpa using hu
          clear hu hne
          go_wp2_with fail
          go_roundw
          case rel => exact ⟨k + 1, _, by omega, by go_num, rfl⟩
          case measure => simp [intOf]; omega

end Go.Proofs.YtkjlgamggkencaaDoor

namespace Go.Proofs.YtkjlgamggkencaaDoor
open Go.RowKit

set_option maxRecDepth 100000 in
set_option maxHeartbeats 8000000 in
theorem xand_new (xp : Nat → Prop) (gx : Nat) (g : Gr) (w : World) (x y hi lo : Int) (hG : IsX w xp gx g) (hgx : ∀ k, xp k → k < w.heap.size) (ho : Ordered x y hi lo) (h1 : isL hi g.len = true) (h2 : isL lo g.len = true)
    (p0 : lo ≠ 0) (p1 : lo ≠ 1) (p2 : hi ≠ lo) (p3 : hi ≠ notL lo) (hi' : idx (hi, lo) g.ands = none) (hlt : g.len < 8000) :
    Calls Tryd.prog 33 #[.pointer (some ⟨gx, 0, none⟩), .int .i64 x, .int .i64 y] w fun e w' => e = .returned (.int .i64 (2 * ((g.len : Int) + 1))) ∧
      ∃ xp', IsX w' xp' gx { g with ands := g.ands ++ [(hi, lo)] } ∧ Grows xp xp' w w' ∧ Frm (fun k => k = gx) w w' := by
  have HX := Lib.hid (fun l n => xlit_any xp gx g _ l (hG.drewN n))
  have HL := Lib.hid (fun n => xlen_any xp gx g _ (hG.drewN n))
  have HG := Lib.hid hG
  have k1 := isL_iff.1 h1
  have k2 := isL_iff.1 h2
  have hxor := bits_xor_one lo (by omega) (by omega)
  have t0 : (lo == 0) = false := by simpa using p0
  have t1 : (hi == notL lo) = false := by simpa using p3
  have t2 : (lo == 1) = false := by simpa using p1
  have t3 : (hi == lo) = false := by simpa using p2
  obtain ⟨hx0, hx1, A, c, hb, hs⟩ := hG
  have c0 := hb.at_ 0 rfl
  have c1 := hb.at_ 1 rfl
  have HI := Lib.hid hi'
  have HS := Lib.hid hs
  have hgl : g.n + g.ands.length < 8000 := hlt
  clear hb hs p0 p1 p3 hi'
  rcases ho with ⟨e1, e2, ho⟩ | ⟨e1, e2, ho⟩ | ⟨e1, e2, ho⟩
  rotate_left 2
  · exact absurd ho.symm p2
  all_goals
    clear p2
    subst x
    subst y
    go_enter Tryd.func33, Tryd.ntmps33
    go_wp2_with fail
    refine (HX.out _ 0).mono ?_
    rintro e w' ⟨rfl, n1, rfl⟩
    first | rw [h1] | rw [h2]
    go_wp2_with fail
    refine (HX.out _ n1).mono ?_
    rintro e w' ⟨rfl, n2, rfl⟩
    first | rw [h2] | rw [h1]
    go_wp2_with fail
    go_loopw [8] (fun iv wr => ∃ (k j : Nat), k ≤ g.ands.length ∧ iv = .int .i64 (k : Int) ∧ wr = w.drewN j) (fun iv _ => 20000 - (intOf iv).toNat)
    case atStart => exact ⟨0, _, by omega, rfl, rfl⟩
    case round =>
      obtain ⟨k, j, hk, rfl, rfl⟩ := hrel
      by_cases hkl : k < g.ands.length
      · obtain ⟨b, o, rfl, _, q1, q2⟩ := sl_pair HS.out hkl
        rw [← Nat.add_assoc] at q2
        have hk0 : (0 : Int) ≤ k := by omega
        have hk1 : (k : Int) < g.ands.length := by omega
        have hne := idx_all HI.out hkl
        generalize g.ands.getD k (0, 0) = p at *
        obtain ⟨u, v⟩ := p
        simp only at q1 q2
        by_cases hu : u = hi
        · have hv : ¬ v = lo := fun e => hne (by rw [hu, e])
          have r1 : (u == hi) = true := by simpa using hu
          have r2 : (v == lo) = false := by simpa using hv
          clear hu hv hne
          go_wp2_with fail
          go_roundw
          case rel => exact ⟨k + 1, _, by omega, by go_num, rfl⟩
          case measure => simp [intOf]; omega
        · have r1 : (u == hi) = false := by simpa using hu
          clear hu hne
          go_wp2_with fail
          go_roundw
          case rel => exact ⟨k + 1, _, by omega, by go_num, rfl⟩
          case measure => simp [intOf]; omega
      · obtain rfl : k = g.ands.length := by omega
        go_wp2_with fail
        refine (HL.out j).mono ?_
        rintro e w' ⟨rfl, n3, rfl⟩
        go_wp2_with fail
        refine (pairs_any A g.ands.length c _ g.ands _ rfl (by omega) (HS.out.drewN (j + n3))).mono ?_
        rintro e w4 ⟨A1, c1', rfl, hown, hf4⟩
        obtain ⟨i0, hi0, hz0, hz1, hz2⟩ := info_parts infoPair
        go_wp2_with (at_builtin; refine wpList_append_own_at _ rfl (.tmp 94) (.tmp 98) 35 rfl w.heap.size 73 i0 (.agg #[.int .i64 0, .int .i64 0]) 2 16 Tryd.underlying35 hi0 hz0 hz1 hz2 rfl (by decide) _ _ _ rfl (hown.alloc (.cells #[.int .i64 hi, .int .i64 lo] 73)) ⟨w4.heap.size, 0, none⟩ 1 1 [.int .i64 hi, .int .i64 lo] rfl rfl ?c1 ?c2 ?c3 ?c4 ?c5 ?_)
        case c1 => intro j u hu; rw [addr_add, Nat.zero_add]; exact ((Blk.new w4 73 [.int .i64 hi, .int .i64 lo]).cell j).trans hu
        case c2 => intro u hu; simp at hu; rcases hu with rfl | rfl <;> rfl
        case c3 => unfold maxLen; omega
        case c4 => omega
        case c5 => have := hf4.size; simp at this ⊢; omega
        intro v' w5 hown5 hgrow _ _
        have hfr5 : Frm (fun _ => False) w w5 := (((Frm.refl _ w).drewN (j + n3)).trans hf4 |>.alloc (.cells #[.int .i64 hi, .int .i64 lo] 73)).grown hgrow (fun g hg hlt => by have := (hown.lt g hg).1; simp at this; omega)
        obtain ⟨hy0, hy1, A5, c5, hb5, hs5⟩ := HG.out.frm hfr5 (fun _ _ => id)
        obtain ⟨A2, c2', rfl, _⟩ := (Sl.of_own hown5).form
        have fr1 := hb5.frozen 1
        have d1 := hb5.at_ 1 rfl
        have hgw := hgx gx hx1
        have hfs : Frm (fun k => k = gx) w5 (w5.setCell ⟨gx, 1, none⟩ (.slice A2 (g.ands.length + 1) c2')) := (Frm.refl (fun k => k = gx) w5).setCell (p := ⟨gx, 1, none⟩) (fun _ => rfl) _
        have res : IsX (w5.setCell ⟨gx, 1, none⟩ (.slice A2 (g.ands.length + 1) c2')) (fun k => xp k ∨ (w.heap.size ≤ k ∧ k < w5.heap.size)) gx { g with ands := g.ands ++ [(hi, lo)] } := by
          refine ⟨by simp; omega, .inl hx1, A2, c2', ?_, ?_⟩
          · have := hb5.set_ 1 (.slice A2 (g.ands.length + 1) c2')
            simpa using this
          · have := ((own_sl hown5).mono (G := fun k => (xp k ∨ (w.heap.size ≤ k ∧ k < w5.heap.size)) ∧ k ≠ gx) (fun k _ hk => ⟨.inr hk, by omega⟩)).frm hfs (fun k hk e => hk.2 e)
            rw [pairs_append]; simpa [pairs] using this
        have HR := Lib.hid (fun n => xlen_any _ gx _ _ (res.drewN n))
        have RES := Lib.hid res
        have HFS := Lib.hid ((hfr5.trans' hfs (U := fun k => k = gx) (fun _ _ h => h.elim) (fun _ _ h => h)))
        clear res hown5 hgrow hown hb5 hs5 hfs
        go_wp2_with fail
        refine (HR.out 0).mono ?_
        rintro e w' ⟨rfl, n5, rfl⟩
        rw [len_more]
        have hlg : g.len < 8000 := hlt
        go_wp2_with fail
        go_ret
        refine ⟨ret_int (by omega), _, RES.out.drewN _, fun k hk => ?_, HFS.out.drewN _⟩
        rcases hk with h | h
        · exact .inl h
        · exact .inr (by simpa using h)

end Go.Proofs.YtkjlgamggkencaaDoor

namespace Go.Proofs.YtkjlgamggkencaaDoor
open Go.RowKit

/-- a step on a graph whose blocks were fp -/
def GStep (E : Nat → Value) (fp : Nat → Prop) (gb : Nat) (w w' : World) (g : Gr) : Prop := ∃ fp', IsGr E w' fp' gb g ∧ Grows fp fp' w w' ∧ Frm fp w w'
/-- a step on a reference's graph whose blocks were xp -/
def XStep (xp : Nat → Prop) (gx : Nat) (w w' : World) (g : Gr) : Prop := ∃ xp', IsX w' xp' gx g ∧ Grows xp xp' w w' ∧ Frm xp w w'

theorem grow_trans {fp fp1 fp2 : Nat → Prop} {w w1 w2 : World} (g1 : Grows fp fp1 w w1) (f1 : Frm fp w w1) (g2 : Grows fp1 fp2 w1 w2) (f2 : Frm fp1 w1 w2) : Grows fp fp2 w w2 ∧ Frm fp w w2 := by
  have s1 := f1.size
  have s2 := f2.size
  refine ⟨fun k hk => ?_, f1.then' f2 fun k hk h => ?_⟩
  · rcases g2 k hk with h | h
    · rcases g1 k h with h | h
      · exact .inl h
      · exact .inr ⟨h.1, by omega⟩
    · exact .inr ⟨by omega, h.2⟩
  · rcases g1 k h with h | h
    · exact h
    · omega
theorem grow_refl (fp : Nat → Prop) (w w' : World) : Grows fp fp w w' := fun _ h => .inl h

theorem xand_any (xp : Nat → Prop) (gx : Nat) (g : Gr) (w : World) (a b : Int) (hG : IsX w xp gx g) (hx : ∀ k, xp k → k < w.heap.size) (hl : g.len < 8000) :
    Calls Tryd.prog 33 #[.pointer (some ⟨gx, 0, none⟩), .int .i64 a, .int .i64 b] w fun e w' => e = .returned (.int .i64 (g.and a b).1) ∧ XStep xp gx w w' (g.and a b).2 := by
  have own := hG.2.1
  by_cases h : isL a g.len = true ∧ isL b g.len = true
  · obtain ⟨h1, h2⟩ := h
    obtain ⟨hi, lo, he, ho⟩ := and_hi_lo a b
    have h3 : isL hi g.len = true ∧ isL lo g.len = true := by rcases ho with ⟨rfl, rfl, _⟩ | ⟨rfl, rfl, _⟩ <;> exact ⟨by assumption, by assumption⟩
    have hO := ordered_of ho
    rw [he]
    have same : ∀ {r : Int}, (Calls Tryd.prog 33 #[.pointer (some ⟨gx, 0, none⟩), .int .i64 a, .int .i64 b] w fun e w' => e = .returned (.int .i64 r) ∧ ∃ n, w.drewN n = w') → g.put hi lo = (r, g) →
        Calls Tryd.prog 33 #[.pointer (some ⟨gx, 0, none⟩), .int .i64 a, .int .i64 b] w fun e w' => e = .returned (.int .i64 (g.put hi lo).1) ∧ XStep xp gx w w' (g.put hi lo).2 := by
      intro r hc e
      rw [e]
      refine hc.mono ?_
      rintro e w' ⟨rfl, n, rfl⟩
      exact ⟨rfl, xp, hG.drewN n, grow_refl _ _ _, (Frm.refl _ _).drewN n⟩
    have plain : ∀ {r : Int}, (lo = 0 ∨ hi = notL lo ∨ lo = 1 ∨ hi = lo) → r = (if lo = 0 ∨ hi = notL lo then 0 else hi) → g.put hi lo = (r, g) →
        Calls Tryd.prog 33 #[.pointer (some ⟨gx, 0, none⟩), .int .i64 a, .int .i64 b] w fun e w' => e = .returned (.int .i64 (g.put hi lo).1) ∧ XStep xp gx w w' (g.put hi lo).2 := by
      rintro r hp rfl e
      exact same (xand_plain xp gx g w a b hi lo hG hO h3.1 h3.2 hp) e
    rcases put_cases h3.1 h3.2 hl with ⟨a1, e⟩ | ⟨a1, a2, e⟩ | ⟨a1, a2, a3, e⟩ | ⟨a1, a2, a3, a4, e⟩ | ⟨a1, a2, a3, a4, i, hi', e⟩ | ⟨a1, a2, a3, a4, hn, e⟩
    · exact plain (.inl a1) (if_pos (.inl a1)).symm e
    · by_cases h0 : hi = notL lo
      · refine plain (.inr (.inl h0)) ?_ e
        rw [if_pos (.inr h0), h0, a2]; rfl
      · exact plain (.inr (.inr (.inl a2))) (if_neg (by rintro (h | h) <;> contradiction)).symm e
    · exact plain (.inr (.inr (.inr a3))) (if_neg (by rintro (h | h); exact a1 h; exact notL_ne lo (by omega))).symm e
    · exact plain (.inr (.inl a4)) (if_pos (.inr a4)).symm e
    · exact same (xand_found xp gx g w a b hi lo i hG hO h3.1 h3.2 a1 a2 a3 a4 hi') e
    · rw [e]
      refine (xand_new xp gx g w a b hi lo hG hx hO h3.1 h3.2 a1 a2 a3 a4 hn hl).mono ?_
      rintro e w' ⟨rfl, xp', q1, q2, q3⟩
      exact ⟨rfl, xp', q1, q2, q3.mono fun k _ e => by subst e; exact own⟩
  · obtain ⟨hi, lo, he, ho⟩ := and_hi_lo a b
    have hb : (isL hi g.len && isL lo g.len) = false := by
      rcases ho with ⟨rfl, rfl, _⟩ | ⟨rfl, rfl, _⟩ <;> (rw [Bool.eq_false_iff]; intro e; simp only [Bool.and_eq_true] at e; exact h ⟨by simp [e], by simp [e]⟩)
    have hr : g.and a b = (0, g.fail 104) := by rw [he]; unfold Gr.put; rw [if_pos hb]
    rw [hr]
    refine (xand_bad xp gx g w a b hG h).mono ?_
    rintro e w' ⟨rfl, h1, h2⟩
    exact ⟨rfl, xp, h1, grow_refl _ _ _, h2.mono fun k _ e => by subst e; exact own⟩

/-! ### one graph, or both, beside what is kept -/

/-- a graph whose blocks are none of K -/
def On (E : Nat → Value) (K : Nat → Prop) (w : World) (gb : Nat) (g : Gr) : Prop := ∃ fp, IsGr E w fp gb g ∧ (∀ k, fp k → ¬ K k ∧ k < w.heap.size) ∧ ∀ k, K k → k < w.heap.size
/-- a graph, a reference's, whose blocks are none of K -/
def Pr (E : Nat → Value) (K : Nat → Prop) (w : World) (gb : Nat) (g : Gr) (gx : Nat) (x : Gr) : Prop :=
  ∃ fp xp, IsGr E w fp gb g ∧ IsX w xp gx x ∧ (∀ k, fp k → ¬ xp k) ∧ (∀ k, fp k → ¬ K k ∧ k < w.heap.size) ∧ (∀ k, xp k → ¬ K k ∧ k < w.heap.size) ∧ ∀ k, K k → k < w.heap.size

section
variable {E : Nat → Value} {K S : Nat → Prop} {w w' : World} {gb gx : Nat} {g x g' x' : Gr}

theorem On.frm (h : On E K w gb g) (hf : Frm (fun _ => False) w w') : On E K w' gb g := by
  obtain ⟨fp, h1, h2, h3⟩ := h
  have hs := hf.size
  exact ⟨fp, h1.frm hf (fun _ _ => id), fun k hk => ⟨(h2 k hk).1, by have := (h2 k hk).2; omega⟩, fun k hk => by have := h3 k hk; omega⟩
theorem Pr.frm (h : Pr E K w gb g gx x) (hf : Frm (fun _ => False) w w') : Pr E K w' gb g gx x := by
  obtain ⟨fp, xp, h1, h2, h3, h4, h5, h6⟩ := h
  have hs := hf.size
  exact ⟨fp, xp, h1.frm hf (fun _ _ => id), h2.frm hf (fun _ _ => id), h3, fun k hk => ⟨(h4 k hk).1, by have := (h4 k hk).2; omega⟩, fun k hk => ⟨(h5 k hk).1, by have := (h5 k hk).2; omega⟩, fun k hk => by have := h6 k hk; omega⟩
theorem On.drewN (h : On E K w gb g) (n : Nat) : On E K (w.drewN n) gb g := h.frm ((Frm.refl _ w).drewN n)
theorem Pr.drewN (h : Pr E K w gb g gx x) (n : Nat) : Pr E K (w.drewN n) gb g gx x := h.frm ((Frm.refl _ w).drewN n)
/-- more is kept: what is new -/
theorem On.wide {K' : Nat → Prop} (h : On E K w gb g) (hf : Frm (fun _ => False) w w') (hK : ∀ k, K' k → K k ∨ (w.heap.size ≤ k ∧ k < w'.heap.size)) : On E K' w' gb g := by
  obtain ⟨fp, h1, h2, h3⟩ := h
  have hs := hf.size
  refine ⟨fp, h1.frm hf (fun _ _ => id), fun k hk => ⟨fun h => ?_, by have := (h2 k hk).2; omega⟩, fun k hk => ?_⟩
  · rcases hK k h with h | h
    · exact (h2 k hk).1 h
    · have := (h2 k hk).2; omega
  · rcases hK k hk with h | h
    · have := h3 k h; omega
    · exact h.2
theorem Pr.wide {K' : Nat → Prop} (h : Pr E K w gb g gx x) (hf : Frm (fun _ => False) w w') (hK : ∀ k, K' k → K k ∨ (w.heap.size ≤ k ∧ k < w'.heap.size)) : Pr E K' w' gb g gx x := by
  obtain ⟨fp, xp, h1, h2, h3, h4, h5, h6⟩ := h
  have hs := hf.size
  refine ⟨fp, xp, h1.frm hf (fun _ _ => id), h2.frm hf (fun _ _ => id), h3, fun k hk => ⟨fun h => ?_, by have := (h4 k hk).2; omega⟩, fun k hk => ⟨fun h => ?_, by have := (h5 k hk).2; omega⟩, fun k hk => ?_⟩
  · rcases hK k h with h | h
    · exact (h4 k hk).1 h
    · have := (h4 k hk).2; omega
  · rcases hK k h with h | h
    · exact (h5 k hk).1 h
    · have := (h5 k hk).2; omega
  · rcases hK k hk with h | h
    · have := h6 k h; omega
    · exact h.2

theorem On.step (h : On E K w gb g) : ∃ fp, IsGr E w fp gb g ∧ ∀ w' g', GStep E fp gb w w' g' → On E K w' gb g' ∧ Frm (fun k => ¬ K k) w w' := by
  obtain ⟨fp, h1, h2, h3⟩ := h
  refine ⟨fp, h1, fun w' g' ⟨fp', q1, q2, q3⟩ => ?_⟩
  have hs := q3.size
  refine ⟨⟨fp', q1, fun k hk => ?_, fun k hk => by have := h3 k hk; omega⟩, q3.mono fun k _ hk => (h2 k hk).1⟩
  rcases q2 k hk with h | h
  · exact ⟨(h2 k h).1, by have := (h2 k h).2; omega⟩
  · exact ⟨fun hK => by have := h3 k hK; omega, h.2⟩
theorem Pr.step (h : Pr E K w gb g gx x) : ∃ fp, IsGr E w fp gb g ∧ ∀ w' g', GStep E fp gb w w' g' → Pr E K w' gb g' gx x ∧ Frm (fun k => ¬ K k) w w' := by
  obtain ⟨fp, xp, h1, h2, h3, h4, h5, h6⟩ := h
  refine ⟨fp, h1, fun w' g' ⟨fp', q1, q2, q3⟩ => ?_⟩
  have hs := q3.size
  refine ⟨⟨fp', xp, q1, h2.frm q3 (fun k hk hf => h3 k hf hk), fun k hk hxk => ?_, fun k hk => ?_, fun k hk => ⟨(h5 k hk).1, by have := (h5 k hk).2; omega⟩, fun k hk => by have := h6 k hk; omega⟩, q3.mono fun k _ hk => (h4 k hk).1⟩
  · rcases q2 k hk with h | h
    · exact h3 k h hxk
    · have := (h5 k hxk).2; omega
  · rcases q2 k hk with h | h
    · exact ⟨(h4 k h).1, by have := (h4 k h).2; omega⟩
    · exact ⟨fun hK => by have := h6 k hK; omega, h.2⟩
theorem Pr.stepX (h : Pr E K w gb g gx x) : ∃ xp, IsX w xp gx x ∧ (∀ k, xp k → k < w.heap.size) ∧ ∀ w' x', XStep xp gx w w' x' → Pr E K w' gb g gx x' ∧ Frm (fun k => ¬ K k) w w' := by
  obtain ⟨fp, xp, h1, h2, h3, h4, h5, h6⟩ := h
  refine ⟨xp, h2, fun k hk => (h5 k hk).2, fun w' x' ⟨xp', q1, q2, q3⟩ => ?_⟩
  have hs := q3.size
  refine ⟨⟨fp, xp', h1.frm q3 (fun k hk hx => h3 k hk hx), q1, fun k hk hxk => ?_, fun k hk => ⟨(h4 k hk).1, by have := (h4 k hk).2; omega⟩, fun k hk => ?_, fun k hk => by have := h6 k hk; omega⟩, q3.mono fun k _ hk => (h5 k hk).1⟩
  · rcases q2 k hxk with h | h
    · exact h3 k hk h
    · have := (h4 k hk).2; omega
  · rcases q2 k hk with h | h
    · exact ⟨(h5 k h).1, by have := (h5 k h).2; omega⟩
    · exact ⟨fun hK => by have := h6 k hK; omega, h.2⟩
theorem Pr.kept (h : Pr E K w gb g gx x) : ∀ k, K k → k < w.heap.size := by obtain ⟨fp, xp, h1, h2, h3, h4, h5, h6⟩ := h; exact h6
theorem Pr.on (h : Pr E K w gb g gx x) : On E K w gb g := by obtain ⟨fp, xp, h1, h2, h3, h4, h5, h6⟩ := h; exact ⟨fp, h1, h4, h6⟩
end

/-- what is kept stays: over steps on the graphs -/
theorem frm_kept {K : Nat → Prop} {w0 w w' : World} (h : Frm (fun _ => False) w0 w) (hf : Frm (fun k => ¬ K k) w w') (hK : ∀ k, k < w0.heap.size → K k) : Frm (fun _ => False) w0 w' := h.then' hf (fun k hk hn => hn (hK k hk))

/-! ### the calls, on both -/
section
variable {E : Nat → Value} {K : Nat → Prop} {w : World} {gb gx : Nat} {g x : Gr}

theorem pr_len (h : Pr E K w gb g gx x) : Calls Tryd.prog 26 #[.pointer (some ⟨gb, 0, none⟩)] w fun e w' => e = .returned (.int .i64 (g.len : Int)) ∧ ∃ n, w.drewN n = w' := by
  obtain ⟨fp, xp, h1, h2, h3, h4, h5, h6⟩ := h
  exact len_any E fp gb g w h1
theorem pr_xlen (h : Pr E K w gb g gx x) : Calls Tryd.prog 32 #[.pointer (some ⟨gx, 0, none⟩)] w fun e w' => e = .returned (.int .i64 (x.len : Int)) ∧ ∃ n, w.drewN n = w' := by
  obtain ⟨fp, xp, h1, h2, h3, h4, h5, h6⟩ := h
  exact xlen_any xp gx x w h2
theorem pr_and (h : Pr E K w gb g gx x) (a b : Int) (h1 : isL a g.len = true) (h2 : isL b g.len = true) (hl : g.len < 8000) :
    Calls Tryd.prog 27 #[.pointer (some ⟨gb, 0, none⟩), .int .i64 a, .int .i64 b] w fun e w' => e = .returned (.int .i64 (g.and a b).1) ∧ Pr E K w' gb (g.and a b).2 gx x ∧ Frm (fun k => ¬ K k) w w' := by
  obtain ⟨fp, hG, next⟩ := h.step
  refine (and_any E fp gb g w a b hG h1 h2 hl).mono ?_
  rintro e w' ⟨rfl, hs⟩
  exact ⟨rfl, next _ _ hs⟩
theorem pr_xand (h : Pr E K w gb g gx x) (a b : Int) (hl : x.len < 8000) :
    Calls Tryd.prog 33 #[.pointer (some ⟨gx, 0, none⟩), .int .i64 a, .int .i64 b] w fun e w' => e = .returned (.int .i64 (x.and a b).1) ∧ Pr E K w' gb g gx (x.and a b).2 ∧ Frm (fun k => ¬ K k) w w' := by
  obtain ⟨xp, hX, hx, next⟩ := h.stepX
  refine (xand_any xp gx x w a b hX hx hl).mono ?_
  rintro e w' ⟨rfl, hs⟩
  exact ⟨rfl, next _ _ hs⟩
theorem pr_xinput (h : Pr E K w gb g gx x) (i : Int) :
    Calls Tryd.prog 35 #[.pointer (some ⟨gx, 0, none⟩), .int .i64 i] w fun e w' => e = .returned (.int .i64 (x.input i).1) ∧ Pr E K w' gb g gx (x.input i).2 ∧ Frm (fun k => ¬ K k) w w' := by
  obtain ⟨xp, hX, hx, next⟩ := h.stepX
  refine (xinput_any xp gx x w i hX).mono ?_
  rintro e w' ⟨rfl, q1, q2⟩
  exact ⟨rfl, next _ _ ⟨xp, q1, grow_refl _ _ _, q2.mono fun k _ e => by subst e; exact hX.2.1⟩⟩
end

section
variable {L : List Nat} {P : Nat → Addr} {K : Nat → Prop} {w : World} {gb gx : Nat} {g x : Gr}
theorem pr_and_all (h104 : 104 ∈ L) (hS : Sents L P w) (h : Pr (PE P) K w gb g gx x) (a b : Int) (hl : g.len < 8000) :
    Calls Tryd.prog 27 #[.pointer (some ⟨gb, 0, none⟩), .int .i64 a, .int .i64 b] w fun e w' => e = .returned (.int .i64 (g.and a b).1) ∧ Pr (PE P) K w' gb (g.and a b).2 gx x ∧ Frm (fun k => ¬ K k) w w' := by
  obtain ⟨fp, hG, next⟩ := h.step
  refine (and_all L P h104 fp gb g w a b hS hG hl).mono ?_
  rintro e w' ⟨rfl, hs⟩
  exact ⟨rfl, next _ _ hs⟩
end

end Go.Proofs.YtkjlgamggkencaaDoor

