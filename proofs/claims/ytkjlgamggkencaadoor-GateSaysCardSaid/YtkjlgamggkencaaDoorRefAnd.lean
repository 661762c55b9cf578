/-
  The reference's And.
-/
import Derived.Test.YtkjlgamggkencaaDoorRefG
import Derived.Test.YtkjlgamggkencaaDoorBits
import Derived.Test.YtkjlgamggkencaaDoorAndAny
namespace Go.Proofs.YtkjlgamggkencaaDoor
open Go.RowKit

set_option maxRecDepth 100000 in
set_option maxHeartbeats 4000000 in
theorem xand_bad (xp : Nat → Prop) (gx : Nat) (g : Gr) (w : World) (x y : Int) (hG : IsX w xp gx g) (hb : ¬ (isL x g.len = true ∧ isL y g.len = true)) :
    Calls Tryd.prog 33 #[.pointer (some ⟨gx, 0, none⟩), .int .i64 x, .int .i64 y] w fun e w' => e = .returned (.int .i64 0) ∧ IsX w' xp gx (g.fail 104) ∧ Frm (fun k => k = gx) w w' := by
  have HF := Lib.hid (fun n => xfail_any xp gx g _ 104 (hG.drewN n))
  have HX := Lib.hid (fun l n => xlit_any xp gx g _ l (hG.drewN n))
  clear hG
  by_cases h1 : isL x g.len = true
  · have h2 : isL y g.len = false := by simpa [h1] using hb
    clear hb
    go_enter Tryd.func33, Tryd.ntmps33
    go_wp2_with fail
    refine (HX.out _ 0).mono ?_
    rintro e w' ⟨rfl, n1, rfl⟩
    rw [h1]
    go_wp2_with fail
    refine (HX.out _ n1).mono ?_
    rintro e w' ⟨rfl, n2, rfl⟩
    rw [h2]
    go_wp2_with fail
    refine (HF.out _).mono ?_
    rintro e w' ⟨rfl, hG', hf'⟩
    go_wp2_with fail
    go_ret
    exact ⟨rfl, hG', ((Frm.refl (fun k => k = gx) w).drewN _).trans hf'⟩
  · have h1 : isL x g.len = false := by simpa using h1
    clear hb
    go_enter Tryd.func33, Tryd.ntmps33
    go_wp2_with fail
    refine (HX.out _ 0).mono ?_
    rintro e w' ⟨rfl, n1, rfl⟩
    rw [h1]
    go_wp2_with fail
    refine (HF.out _).mono ?_
    rintro e w' ⟨rfl, hG', hf'⟩
    go_wp2_with fail
    go_ret
    exact ⟨rfl, hG', ((Frm.refl (fun k => k = gx) w).drewN _).trans hf'⟩

set_option maxRecDepth 100000 in
set_option maxHeartbeats 8000000 in
/-- the ways without a search: false, or the greater literal -/
theorem xand_plain (xp : Nat → Prop) (gx : Nat) (g : Gr) (w : World) (x y hi lo : Int) (hG : IsX w xp gx g) (ho : Ordered x y hi lo) (h1 : isL hi g.len = true) (h2 : isL lo g.len = true) (hp : lo = 0 ∨ hi = notL lo ∨ lo = 1 ∨ hi = lo) :
    Calls Tryd.prog 33 #[.pointer (some ⟨gx, 0, none⟩), .int .i64 x, .int .i64 y] w fun e w' => e = .returned (.int .i64 (if lo = 0 ∨ hi = notL lo then 0 else hi)) ∧ ∃ n, w.drewN n = w' := by
  have hl : g.len ≤ 8000 := hG.1
  have HX := Lib.hid (fun l n => xlit_any xp gx g _ l (hG.drewN n))
  have k1 := isL_iff.1 h1
  have k2 := isL_iff.1 h2
  have hxor := bits_xor_one lo (by omega) (by omega)
  clear hG
  by_cases c1 : lo = 0 ∨ hi = notL lo
  · rw [if_pos c1]
    by_cases c0 : lo = 0
    · subst c0
      rcases ho with ⟨rfl, rfl, ho⟩ | ⟨rfl, rfl, ho⟩ | ⟨rfl, rfl, ho⟩
      all_goals
        go_enter Tryd.func33, Tryd.ntmps33
        go_wp2_with fail
        refine (HX.out _ 0).mono ?_
        rintro e w' ⟨rfl, n1, rfl⟩
        first | rw [h1] | rw [h2]
        go_wp2_with fail
        refine (HX.out _ n1).mono ?_
        rintro e w' ⟨rfl, n2, rfl⟩
        first | rw [h2] | rw [h1]
        go_wp2_with fail
        go_ret
        exact ⟨rfl, _, rfl⟩
    · have c2 : hi = notL lo := by omega
      have t0 : (lo == 0) = false := by simpa using c0
      have t1 : (hi == notL lo) = true := by simpa using c2
      have hne := notL_ne lo
      rcases ho with ⟨rfl, rfl, ho⟩ | ⟨rfl, rfl, ho⟩ | ⟨rfl, rfl, ho⟩
      rotate_left 2
      · exact absurd (c2.symm.trans ho.symm) hne
      all_goals
        clear c1 c0 c2 hne hp
        go_enter Tryd.func33, Tryd.ntmps33
        go_wp2_with fail
        refine (HX.out _ 0).mono ?_
        rintro e w' ⟨rfl, n1, rfl⟩
        first | rw [h1] | rw [h2]
        go_wp2_with fail
        refine (HX.out _ n1).mono ?_
        rintro e w' ⟨rfl, n2, rfl⟩
        first | rw [h2] | rw [h1]
        go_wp2_with fail
        go_ret
        exact ⟨rfl, _, rfl⟩
  · rw [if_neg c1]
    have c0 : ¬ lo = 0 := fun e => c1 (.inl e)
    have c2 : ¬ hi = notL lo := fun e => c1 (.inr e)
    have t0 : (lo == 0) = false := by simpa using c0
    have t1 : (hi == notL lo) = false := by simpa using c2
    by_cases c3 : lo = 1
    · have t2 : (lo == 1) = true := by simpa using c3
      clear c1 c0 c2 c3 hp
      rcases ho with ⟨rfl, rfl, ho⟩ | ⟨rfl, rfl, ho⟩ | ⟨rfl, rfl, ho⟩
      rotate_left 2
      · subst ho
        go_enter Tryd.func33, Tryd.ntmps33
        go_wp2_with fail
        refine (HX.out _ 0).mono ?_
        rintro e w' ⟨rfl, n1, rfl⟩
        rw [h1]
        go_wp2_with fail
        refine (HX.out _ n1).mono ?_
        rintro e w' ⟨rfl, n2, rfl⟩
        rw [h1]
        go_wp2_with fail
        go_ret
        exact ⟨rfl, _, rfl⟩
      all_goals
        go_enter Tryd.func33, Tryd.ntmps33
        go_wp2_with fail
        refine (HX.out _ 0).mono ?_
        rintro e w' ⟨rfl, n1, rfl⟩
        first | rw [h1] | rw [h2]
        go_wp2_with fail
        refine (HX.out _ n1).mono ?_
        rintro e w' ⟨rfl, n2, rfl⟩
        first | rw [h2] | rw [h1]
        go_wp2_with fail
        go_ret
        exact ⟨rfl, _, rfl⟩
    · have t2 : (lo == 1) = false := by simpa using c3
      have c4 : lo = hi := by omega
      subst c4
      obtain ⟨rfl, rfl⟩ : x = lo ∧ y = lo := by rcases ho with ⟨rfl, rfl, ho⟩ | ⟨rfl, rfl, ho⟩ | ⟨rfl, rfl, ho⟩ <;> omega
      clear c1 c0 c2 c3 hp ho
      go_enter Tryd.func33, Tryd.ntmps33
      go_wp2_with fail
      refine (HX.out _ 0).mono ?_
      rintro e w' ⟨rfl, n1, rfl⟩
      rw [h1]
      go_wp2_with fail
      refine (HX.out _ n1).mono ?_
      rintro e w' ⟨rfl, n2, rfl⟩
      rw [h1]
      go_wp2_with fail
      go_ret
      exact ⟨rfl, _, rfl⟩

end Go.Proofs.YtkjlgamggkencaaDoor
