/-
  SameInts, SamePairs, SameCircuit, of what is the same.
-/
import Derived.Test.YtkjlgamggkencaaDoorMCopy
namespace Go.Proofs.YtkjlgamggkencaaDoor
open Go.RowKit

set_option maxRecDepth 100000 in
set_option maxHeartbeats 2000000 in
theorem sameInts_eq (A B : Option Addr) (n c d : Nat) (F G : Nat → Prop) (l : List Int) (w : World) (hn : l.length = n) (hb : n ≤ 1000000) (h1 : Sl w F 1 (.slice A n c) n (l.map (.int .i64))) (h2 : Sl w G 1 (.slice B n d) n (l.map (.int .i64))) :
    Calls Tryd.prog 67 #[.slice A n c, .slice B n d] w fun e w' => e = .returned (.bool true) ∧ ∃ k, w.drewN k = w' := by
  have HN := Lib.hid hn
  clear hn
  go_enter Tryd.func67, Tryd.ntmps67
  go_wp2_with fail
  go_loopw [5] (fun i wr => ∃ (k j : Nat), k ≤ n ∧ i = .int .i64 k ∧ wr = w.drewN j) (fun i _ => n - (intOf i).toNat)
  case atStart => exact ⟨0, 0, by omega, rfl, rfl⟩
  case round =>
    obtain ⟨k, j, hk, rfl, rfl⟩ := hrel
    by_cases hlt : k < n
    · obtain ⟨b, o, u, rfl, _, hu, hcell⟩ := h1.at_ hlt
      obtain rfl := at_getD hu
      obtain ⟨b', o', u', rfl, _, hu', hcell'⟩ := h2.at_ hlt
      obtain rfl := at_getD hu'
      clear hu hu'
      have hk0 : (0 : Int) ≤ k := by omega
      have hk1 : (k : Int) < n := by omega
      generalize l.getD k 0 = x at *
      go_wp2_with fail
      go_quiet (fail)
      go_wp2_with fail
      go_roundw
      case rel => exact ⟨k + 1, _, by omega, by go_num, rfl⟩
      case measure => simp [intOf]; omega
    · go_wp2_with fail
      go_ret
      exact ⟨rfl, _, rfl⟩

set_option maxRecDepth 100000 in
set_option maxHeartbeats 4000000 in
theorem samePairs_eq (A B : Option Addr) (n c d : Nat) (F G : Nat → Prop) (L : List (Int × Int)) (w : World) (hb : n ≤ 1000000) (h1 : Sl w F 2 (.slice A n c) n (pairs L)) (h2 : Sl w G 2 (.slice B n d) n (pairs L)) :
    Calls Tryd.prog 107 #[.slice A n c, .slice B n d] w fun e w' => e = .returned (.bool true) ∧ ∃ k, w.drewN k = w' := by
  go_enter Tryd.func107, Tryd.ntmps107
  go_wp2_with fail
  go_loopw [5] (fun i wr => ∃ (k j : Nat), k ≤ n ∧ i = .int .i64 k ∧ wr = w.drewN j) (fun i _ => n - (intOf i).toNat)
  case atStart => exact ⟨0, 0, by omega, rfl, rfl⟩
  case round =>
    obtain ⟨k, j, hk, rfl, rfl⟩ := hrel
    by_cases hlt : k < n
    · obtain ⟨b, o, rfl, _, p1, p2⟩ := sl_pair h1 hlt
      obtain ⟨b', o', rfl, _, q1, q2⟩ := sl_pair h2 hlt
      rw [← Nat.add_assoc] at p2 q2
      have hk0 : (0 : Int) ≤ k := by omega
      have hk1 : (k : Int) < n := by omega
      generalize (L.getD k (0, 0)).1 = x at *
      generalize (L.getD k (0, 0)).2 = y at *
      clear h1 h2
      go_wp2_with fail
      go_quiet (fail)
      go_wp2_with fail
      go_roundw
      case rel => exact ⟨k + 1, _, by omega, by go_num, rfl⟩
      case measure => simp [intOf]; omega
    · go_wp2_with fail
      go_ret
      exact ⟨rfl, _, rfl⟩

/-- a circuit's value -/
abbrev cv (N : Int) (A : Option Addr) (m c : Nat) (B : Option Addr) (k d : Nat) : Value := .agg #[.int .i64 N, .slice A m c, .slice B k d]

set_option maxRecDepth 100000 in
set_option maxHeartbeats 4000000 in
theorem sameCircuit_eq (N : Int) (A1 A2 B1 B2 : Option Addr) (m k c1 c2 d1 d2 : Nat) (F1 F2 G1 G2 : Nat → Prop) (L : List (Int × Int)) (l : List Int) (w : World) (hm : m ≤ 1000000) (hk : k ≤ 1000000) (hl : l.length = k)
    (a1 : Sl w F1 2 (.slice A1 m c1) m (pairs L)) (a2 : Sl w F2 2 (.slice A2 m c2) m (pairs L)) (b1 : Sl w G1 1 (.slice B1 k d1) k (l.map (.int .i64))) (b2 : Sl w G2 1 (.slice B2 k d2) k (l.map (.int .i64))) :
    Calls Tryd.prog 38 #[cv N A1 m c1 B1 k d1, cv N A2 m c2 B2 k d2] w fun e w' => e = .returned (.bool true) ∧ Frm (fun _ => False) w w' := by
  have hf : Frm (fun _ => False) w ((w.alloc (.cells #[.int .i64 N, .slice A1 m c1, .slice B1 k d1] 40)).alloc (.cells #[.int .i64 N, .slice A2 m c2, .slice B2 k d2] 40)) := ((Frm.refl _ w).alloc _).alloc _
  have P := Lib.hid (fun n => samePairs_eq A1 A2 m c1 c2 F1 F2 L _ hm ((a1.frm hf (fun _ _ => id)).drewN n) ((a2.frm hf (fun _ _ => id)).drewN n))
  have Q := Lib.hid (fun n => sameInts_eq B1 B2 k d1 d2 G1 G2 l _ hl hk ((b1.frm hf (fun _ _ => id)).drewN n) ((b2.frm hf (fun _ _ => id)).drewN n))
  have HF := Lib.hid hf
  clear a1 a2 b1 b2 hl hf
  go_enter Tryd.func38, Tryd.ntmps38
  go_wp2_with fail
  refine (P.out 0).mono ?_
  rintro e w' ⟨rfl, n1, rfl⟩
  go_wp2_with fail
  refine (Q.out n1).mono ?_
  rintro e w' ⟨rfl, n2, rfl⟩
  go_wp2_with fail
  go_ret
  exact ⟨rfl, HF.out.drewN _⟩

end Go.Proofs.YtkjlgamggkencaaDoor
