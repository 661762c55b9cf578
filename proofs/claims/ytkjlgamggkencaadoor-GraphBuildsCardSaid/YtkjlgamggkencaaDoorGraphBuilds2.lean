/-
  GraphBuilds, of whatever argument.
-/
import Derived.Test.YtkjlgamggkencaaDoorGraphBuilds
import Derived.Test.YtkjlgamggkencaaDoorArgC
namespace Go.Proofs.YtkjlgamggkencaaDoor
open Go.RowKit

theorem gbl_law (N : Int) (A : Option Addr) (m c : Nat) (B : Option Addr) (k d : Nat) (L0 : List (Int × Int)) (l0 : List Int) (hm : L0.length = m) (hk : l0.length = k) {w0 : World}
    (r0 : Sl w0 (fun k => k < w0.heap.size) 2 (.slice A m c) m (pairs L0)) (r1 : Sl w0 (fun k => k < w0.heap.size) 1 (.slice B k d) k (l0.map (.int .i64)))
    (i : Int) (_ : (Lit.int .i64 i).wf = true)
    (a1 : Option Addr) (len1 cap1 : Nat) (z1 : List Int) (hz1 : z1.length = len1) (s1 : Sl w0 (fun k => k < w0.heap.size) 1 (.slice a1 len1 cap1) len1 (z1.map (.int .i64))) (_ : ∀ n ∈ z1, (Lit.int .i64 n).wf = true)
    (a2 : Option Addr) (len2 cap2 : Nat) (z2 : List Int) (hz2 : z2.length = len2) (s2 : Sl w0 (fun k => k < w0.heap.size) 1 (.slice a2 len2 cap2) len2 (z2.map (.int .i64))) (_ : ∀ n ∈ z2, (Lit.int .i64 n).wf = true)
    (w : World) (e : w = w0) (hL : laidMetH Tryd.prog Rows.graphPlaysRow.laid w) :
    Calls Tryd.prog 11 #[cv N A m c B k d, .int .i64 i, .slice a1 len1 cap1, .slice a2 len2 cap2] w fun e w' => e = .returned (.bool true) ∧ Frm (fun _ => False) w w' := by
  subst e
  by_cases h : m ≤ 100 ∧ k ≤ 100 ∧ len1 ≤ 200 ∧ len2 ≤ 20 ∧ 0 ≤ i ∧ i ≤ 50
  · obtain ⟨n, rfl⟩ : ∃ n : Nat, i = n := ⟨i.toNat, by omega⟩
    exact gbl_any _ N A m c B k d L0 l0 hm hk n a1 len1 cap1 z1 hz1 a2 len2 cap2 z2 hz2 w _ _ r0 r1 s1 s2 (sents7 hL) h.1 h.2.1 h.2.2.1 h.2.2.2.1 (by omega)
  · exact gbl_out N A m c B k d i a1 len1 cap1 a2 len2 cap2 w h

end Go.Proofs.YtkjlgamggkencaaDoor
