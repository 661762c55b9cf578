/-
  GraphPlays: the inputs that its guards let pass by, and all together.
-/
import Derived.Test.YtkjlgamggkencaaDoorGraphPlays
namespace Go.Proofs.YtkjlgamggkencaaDoor
open Go.RowKit

set_option maxRecDepth 100000 in
set_option maxHeartbeats 4000000 in
theorem plays_out (i : Int) (a0 : Option Addr) (len0 cap0 : Nat) (a1 : Option Addr) (len1 cap1 : Nat) (a2 : Option Addr) (len2 cap2 : Nat) (w : World) (h : ¬ (len0 ≤ 200 ∧ len1 ≤ 20 ∧ len2 ≤ 20 ∧ i ≤ 50)) :
    Calls Tryd.prog 4 #[.int .i64 i, .slice a0 len0 cap0, .slice a1 len1 cap1, .slice a2 len2 cap2] w fun e w' => e = .returned (.bool true) ∧ Frm (fun _ => False) w w' := by
  have HN := Lib.hid h
  clear h
  by_cases c1 : (200 : Int) < len0
  · go_enter Tryd.func4, Tryd.ntmps4
    go_wp2_with fail
    refine (first8_any w).mono ?_
    rintro e w1 ⟨rfl, hf1⟩
    go_wp2_with fail
    go_ret
    exact ⟨rfl, hf1⟩
  · by_cases c2 : (20 : Int) < len1
    · go_enter Tryd.func4, Tryd.ntmps4
      go_wp2_with fail
      refine (first8_any w).mono ?_
      rintro e w1 ⟨rfl, hf1⟩
      go_wp2_with fail
      go_ret
      exact ⟨rfl, hf1⟩
    · by_cases c3 : (20 : Int) < len2
      · go_enter Tryd.func4, Tryd.ntmps4
        go_wp2_with fail
        refine (first8_any w).mono ?_
        rintro e w1 ⟨rfl, hf1⟩
        go_wp2_with fail
        go_ret
        exact ⟨rfl, hf1⟩
      · have c4 : 50 < i := by have := HN.out; omega
        go_enter Tryd.func4, Tryd.ntmps4
        go_wp2_with fail
        refine (first8_any w).mono ?_
        rintro e w1 ⟨rfl, hf1⟩
        go_wp2_with fail
        go_ret
        exact ⟨rfl, hf1⟩

theorem plays_law (i : Int) (_ : (Lit.int .i64 i).wf = true) (a0 : Option Addr) (len0 cap0 : Nat) (z0 : List Int) (hz0 : z0.length = len0) {w0 : World} (s0 : Sl w0 (fun k => k < w0.heap.size) 1 (.slice a0 len0 cap0) len0 (z0.map (.int .i64))) (_ : ∀ n ∈ z0, (Lit.int .i64 n).wf = true)
    (a1 : Option Addr) (len1 cap1 : Nat) (z1 : List Int) (hz1 : z1.length = len1) (s1 : Sl w0 (fun k => k < w0.heap.size) 1 (.slice a1 len1 cap1) len1 (z1.map (.int .i64))) (_ : ∀ n ∈ z1, (Lit.int .i64 n).wf = true)
    (a2 : Option Addr) (len2 cap2 : Nat) (z2 : List Int) (hz2 : z2.length = len2) (s2 : Sl w0 (fun k => k < w0.heap.size) 1 (.slice a2 len2 cap2) len2 (z2.map (.int .i64))) (_ : ∀ n ∈ z2, (Lit.int .i64 n).wf = true)
    (w : World) (e : w = w0) (hL : laidMetH Tryd.prog Rows.graphPlaysRow.laid w) :
    Calls Tryd.prog 4 #[.int .i64 i, .slice a0 len0 cap0, .slice a1 len1 cap1, .slice a2 len2 cap2] w fun e w' => e = .returned (.bool true) ∧ Frm (fun _ => False) w w' := by
  subst e
  by_cases h : len0 ≤ 200 ∧ len1 ≤ 20 ∧ len2 ≤ 20 ∧ i ≤ 50
  · exact plays_any _ i a0 len0 cap0 z0 hz0 a1 len1 cap1 z1 hz1 a2 len2 cap2 z2 hz2 w s0 s1 s2 (sents7 hL) h.1 h.2.1 h.2.2.1 h.2.2.2
  · exact plays_out i a0 len0 cap0 a1 len1 cap1 a2 len2 cap2 w h

end Go.Proofs.YtkjlgamggkencaaDoor
