/-
  PacePlays: the inputs that its guards let pass by, and all together.
-/
import Derived.Test.YtfhillobhfaikaaPacePlays
namespace Go.Proofs.Ytfhillobhfaikaa
open Go.RowKit

set_option maxRecDepth 100000 in
set_option maxHeartbeats 1000000 in
theorem plays_no (a0 a1 a2 a3 : Option Addr) (c0 c1 c2 c3 : Nat) (n0 n1 n2 n3 : Nat) (m r : Int) (a4 : Option Addr) (len4 cap4 : Nat) (w : World) (h : ¬ (n0 ≤ 50 ∧ n1 ≤ 50 ∧ n2 ≤ 50 ∧ n3 ≤ 50)) :
    Calls Try.prog 7 #[.agg #[.slice a0 n0 c0, .slice a1 n1 c1, .slice a2 n2 c2, .slice a3 n3 c3, .int .i64 m, .int .i64 r], .slice a4 len4 cap4] w fun e w' => e = .returned (.bool true) ∧ Frm (fun _ => False) w w' := by
  have HN := Lib.hid h
  clear h
  go_enter Try.func7, Try.ntmps7
  go_wp2_with fail
  refine (first_any _).mono ?_
  rintro e w1 ⟨rfl, hf1⟩
  have hb := (Blk.new w 24 [.slice a0 n0 c0, .slice a1 n1 c1, .slice a2 n2 c2, .slice a3 n3 c3, .int .i64 m, .int .i64 r]).frm hf1 (fun h => h)
  have k0 := hb.at_ 0 rfl
  have k1 := hb.at_ 1 rfl
  have k2 := hb.at_ 2 rfl
  have k3 := hb.at_ 3 rfl
  have k4 := hb.at_ 4 rfl
  have k5 := hb.at_ 5 rfl
  have hf01 : Frm (fun _ => False) w w1 := ((Frm.refl (fun _ => False) w).alloc _).trans hf1
  clear hf1
  go_wp2_with fail
  refine (small_no a0 a1 a2 a3 _ _ _ _ c0 c1 c2 c3 m r w1 HN.out).mono ?_
  rintro e w2 ⟨rfl, hf2⟩
  go_wp2
  go_ret
  exact ⟨rfl, hf01.trans hf2⟩

set_option maxRecDepth 100000 in
set_option maxHeartbeats 1000000 in
theorem plays_long (a0 a1 a2 a3 : Option Addr) (c0 c1 c2 c3 : Nat) (n0 n1 n2 n3 : Nat) (m r : Int) (a4 : Option Addr) (len4 cap4 : Nat) (w : World) (h0 : n0 ≤ 50) (h1 : n1 ≤ 50) (h2 : n2 ≤ 50) (h3 : n3 ≤ 50) (h4 : 200 < len4) :
    Calls Try.prog 7 #[.agg #[.slice a0 n0 c0, .slice a1 n1 c1, .slice a2 n2 c2, .slice a3 n3 c3, .int .i64 m, .int .i64 r], .slice a4 len4 cap4] w fun e w' => e = .returned (.bool true) ∧ Frm (fun _ => False) w w' := by
  go_enter Try.func7, Try.ntmps7
  go_wp2_with fail
  refine (first_any _).mono ?_
  rintro e w1 ⟨rfl, hf1⟩
  have hb := (Blk.new w 24 [.slice a0 n0 c0, .slice a1 n1 c1, .slice a2 n2 c2, .slice a3 n3 c3, .int .i64 m, .int .i64 r]).frm hf1 (fun h => h)
  have k0 := hb.at_ 0 rfl
  have k1 := hb.at_ 1 rfl
  have k2 := hb.at_ 2 rfl
  have k3 := hb.at_ 3 rfl
  have k4 := hb.at_ 4 rfl
  have k5 := hb.at_ 5 rfl
  have hf01 : Frm (fun _ => False) w w1 := ((Frm.refl (fun _ => False) w).alloc _).trans hf1
  clear hf1
  go_wp2_with fail
  refine (small_yes a0 a1 a2 a3 _ _ _ _ c0 c1 c2 c3 m r w1 h0 h1 h2 h3).mono ?_
  rintro e w2 ⟨rfl, hf2⟩
  go_wp2
  go_ret
  exact ⟨rfl, hf01.trans hf2⟩

theorem wf_le {n : Int} (h : (Lit.int .i64 n).wf = true) : n ≤ 9223372036854775807 := by
  simp [Lit.wf, IntKind.min, IntKind.max, IntKind.signed, IntKind.bits] at h
  omega

theorem plays_all {w : World} {v0 v1 v2 v3 : Value} {z0 z1 z2 z3 : List Int} {m r : Int} (h0 : ArgL w v0 z0) (h1 : ArgL w v1 z1) (h2 : ArgL w v2 z2) (h3 : ArgL w v3 z3) (hm : (Lit.int .i64 m).wf = true)
    (a4 : Option Addr) (len4 cap4 : Nat) (z4 : List Int) (hz4 : z4.length = len4) (s4 : Sl w (fun k => k < w.heap.size) 1 (.slice a4 len4 cap4) len4 (z4.map (.int .i64))) (_ : ∀ n ∈ z4, (Lit.int .i64 n).wf = true) (W : World) (hW : W = w) :
    Calls Try.prog 7 #[.agg #[v0, v1, v2, v3, .int .i64 m, .int .i64 r], .slice a4 len4 cap4] W fun e w' => e = .returned (.bool true) ∧ Frm (fun _ => False) W w' := by
  subst hW
  obtain ⟨a0, c0, rfl, s0⟩ := h0
  obtain ⟨a1, c1, rfl, s1⟩ := h1
  obtain ⟨a2, c2, rfl, s2⟩ := h2
  obtain ⟨a3, c3, rfl, s3⟩ := h3
  by_cases h : z0.length ≤ 50 ∧ z1.length ≤ 50 ∧ z2.length ≤ 50 ∧ z3.length ≤ 50
  · by_cases h4 : 200 < len4
    · exact plays_long a0 a1 a2 a3 c0 c1 c2 c3 _ _ _ _ m r a4 len4 cap4 W h.1 h.2.1 h.2.2.1 h.2.2.2 h4
    · exact plays_any a0 a1 a2 a3 c0 c1 c2 c3 z0 z1 z2 z3 m r a4 len4 cap4 z4 hz4 W (wf_le hm) s0 s1 s2 s3 s4 h.1 h.2.1 h.2.2.1 h.2.2.2 (by omega)
  · exact plays_no a0 a1 a2 a3 c0 c1 c2 c3 _ _ _ _ m r a4 len4 cap4 W h

end Go.Proofs.Ytfhillobhfaikaa
