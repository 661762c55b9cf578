/-
  Errors as plain data: what the statements' helpers make of a sentinel.
-/
import Derived.Test.YtkjlgamggkencaaDoorMErrs
import Derived.Test.YtkjlgamggkencaaDoorMBase
import Derived.Stop.Asserts
namespace Go.Proofs.YtkjlgamggkencaaDoor
open Go.RowKit

abbrev L7 : List Nat := [101, 102, 103, 104, 105, 106, 107]
abbrev fv (c : Int) : Value := .agg #[.int .i64 c, .bool false, .int .i64 0]

theorem bare_any (c : Int) (w : World) : Calls Tryd.prog 110 #[.int .i64 c] w fun e w' => e = .returned (fv c) ∧ Frm (fun _ => False) w w' := by
  go_enter Tryd.func110, Tryd.ntmps110
  go_wp2_with fail
  refine bodyPost_ret (v := fv c) (by simp [results, Tryd.results110, go_sem]) rfl ⟨rfl, ?_⟩
  repeat (first | exact Frm.refl _ _ | apply Frm.drewN | apply Frm.drew | apply Frm.alloc | refine Frm.setCell ?_ (fun h => absurd h (Nat.lt_irrefl _)) _)

theorem none_any (w : World) : Calls Tryd.prog 117 #[] w fun e w' => e = .returned (fv 0) ∧ Frm (fun _ => False) w w' := by
  go_enter Tryd.func117, Tryd.ntmps117
  go_wp2_with fail
  refine bodyPost_ret (v := fv 0) (by simp [results, Tryd.results117, go_sem]) rfl ⟨rfl, ?_⟩
  repeat (first | exact Frm.refl _ _ | apply Frm.drewN | apply Frm.drew | apply Frm.alloc | refine Frm.setCell ?_ (fun h => absurd h (Nat.lt_irrefl _)) _)

set_option maxRecDepth 100000 in
/-- two sentinels are alike just where they are the same -/
theorem alike_any (P : Nat → Addr) (w : World) (hS : Sents L7 P w) (c d : Nat) (hc : c ∈ L7) (hd : d ∈ L7) :
    Calls Tryd.prog 144 #[.iface 158 (.pointer (some (P c))), .iface 158 (.pointer (some (P d)))] w fun e w' => e = .returned (.bool (c == d)) ∧ w = w' := by
  obtain ⟨i, hi⟩ : ∃ i, Tryd.prog.info? 158 = some i := Option.isSome_iff_exists.1 (by kernel_rfl)
  obtain ⟨j, hj⟩ : ∃ j, Tryd.prog.info? 175 = some j := Option.isSome_iff_exists.1 (by kernel_rfl)
  have hic : i.comparable = true := by
    have : (Tryd.prog.info? 158).map (·.comparable) = some true := by kernel_rfl
    rw [hi] at this; simpa using this
  have hjs : j.size ≠ 0 := by
    have : (Tryd.prog.info? 175).map (fun x => decide (x.size ≠ 0)) = some true := by kernel_rfl
    rw [hj] at this; simpa using this
  by_cases h : c = d
  · subst h
    have heq := run_eql_iface_ptr_same w (P c) Tryd.underlying30 Tryd.underlying158 hi hic hj
    have hcc : (c == c) = true := by simp
    rw [hcc]
    generalize P c = a at *
    go_enter Tryd.func144, Tryd.ntmps144
    go_wp2_with (rw [heq])
    go_ret
    exact ⟨rfl, rfl⟩
  · obtain ⟨ca, ta, hra⟩ := hS.row c hc
    obtain ⟨cb, tb, hrb⟩ := hS.row d hd
    have hne := hS.ne c hc d hd h
    have heq := run_eql_iface_ptr_other (w := w) Tryd.underlying30 Tryd.underlying158 hi hic hj hjs hne hra hrb
    have hcc : (c == d) = false := by simpa using h
    rw [hcc]
    clear hra hrb hS
    generalize P c = a at *
    generalize P d = b at *
    go_enter Tryd.func144, Tryd.ntmps144
    go_wp2_with (rw [heq])
    go_ret
    exact ⟨rfl, rfl⟩

set_option maxRecDepth 100000 in
set_option maxHeartbeats 1000000 in
theorem sentinels_any (P : Nat → Addr) (w : World) (hS : Sents L7 P w) :
    Calls Tryd.prog 143 #[] w fun e w' => e = .returned (.slice (some ⟨w.heap.size, 0, none⟩) 7 7) ∧ w' = w.alloc (.cells (L7.map fun c => .iface 158 (.pointer (some (P c)))).toArray 30) := by
  have c1 : w.cell? ⟨2, 0, none⟩ = _ := hS.cell 101 (by decide)
  have c2 : w.cell? ⟨1, 0, none⟩ = _ := hS.cell 102 (by decide)
  have c3 : w.cell? ⟨3, 0, none⟩ = _ := hS.cell 103 (by decide)
  have c4 : w.cell? ⟨0, 0, none⟩ = _ := hS.cell 104 (by decide)
  have c5 : w.cell? ⟨4, 0, none⟩ = _ := hS.cell 105 (by decide)
  have c6 : w.cell? ⟨5, 0, none⟩ = _ := hS.cell 106 (by decide)
  have c7 : w.cell? ⟨6, 0, none⟩ = _ := hS.cell 107 (by decide)
  clear hS
  go_enter Tryd.func143, Tryd.ntmps143
  go_wp2_with fail
  go_ret
  exact ⟨rfl, rfl⟩

set_option maxRecDepth 100000 in
set_option maxHeartbeats 2000000 in
theorem sentinel_any (P : Nat → Addr) (w : World) (hS : Sents L7 P w) (c : Nat) (hc : c ∈ L7) :
    Calls Tryd.prog 120 #[.iface 158 (.pointer (some (P c)))] w fun e w' => e = .returned (.int .i64 c) ∧ Frm (fun _ => False) w w' := by
  have hb : Blk (w.alloc (.cells (L7.map fun c => .iface 158 (.pointer (some (P c)))).toArray 30)) w.heap.size 30 (L7.map fun c => .iface 158 (.pointer (some (P c)))) := Blk.new _ _ _
  have hf : Frm (fun _ => False) w (w.alloc (.cells (L7.map fun c => .iface 158 (.pointer (some (P c)))).toArray 30)) := (Frm.refl _ w).alloc _
  have hSn := Lib.hid (fun w' h => alike_any P w' (hS.frm h))
  go_enter Tryd.func120, Tryd.ntmps120
  go_wp2_with fail
  refine (sentinels_any P w hS).mono ?_
  rintro e w1 ⟨rfl, rfl⟩
  generalize w.alloc (.cells (L7.map fun c => .iface 158 (.pointer (some (P c)))).toArray 30) = w1 at *
  go_wp2_with fail
  go_loopw [4] (fun iv wr => ∃ k : Nat, k + 101 ≤ c ∧ iv = .int .i64 (k : Int) ∧ wr = w1) (fun iv _ => (10 - intOf iv).toNat)
  case atStart => exact ⟨0, by simp at hc; omega, rfl, rfl⟩
  case round =>
    obtain ⟨k, hk, rfl, rfl⟩ := hrel
    have hk7 : k < 7 := by simp at hc; omega
    have hkl : k + 101 ∈ L7 := by simp; omega
    have hcell : wr.cell? ⟨w.heap.size, k, none⟩ = some (.iface 158 (.pointer (some (P (k + 101))))) := by
      refine hb.at_ k ?_
      match k, hk7 with
      | 0, _ => rfl
      | 1, _ => rfl
      | 2, _ => rfl
      | 3, _ => rfl
      | 4, _ => rfl
      | 5, _ => rfl
      | 6, _ => rfl
    have k0 : (0 : Int) ≤ k := by omega
    have k1 : (k : Int) < 7 := by omega
    go_wp2_with fail
    refine (hSn.out _ hf c (k + 101) hc hkl).mono ?_
    rintro e w' ⟨rfl, rfl⟩
    by_cases he : c = k + 101
    · have hcc : (c == k + 101) = true := by simp [he]
      rw [hcc]
      have wk : IntKind.i64.wrap (101 + (k : Int)) = 101 + (k : Int) := IntWalk.i64_in _ (by omega)
      go_wp2_with fail
      go_ret
      exact ⟨ret_int (by omega), hf⟩
    · have hcc : (c == k + 101) = false := by simp [he]
      rw [hcc]
      go_wp2_with fail
      exact ⟨⟨k + 1, by omega, by simp, by simp⟩, by simp [intOf]; omega⟩

/-- a sentinel is no error with a place -/
theorem noAt (v : Value) (w : World) : (Instr.typeAssert (.iface 158 v) 30 136 true).run Tryd.prog w = .ok (.tuple #[.pointer none, .bool false]) w := by
  have hu : Tryd.prog.underlying 136 = some (.pointer _) := Tryd.underlying136
  obtain ⟨j, hj⟩ : ∃ j, Tryd.prog.info? 136 = some j := Option.isSome_iff_exists.1 (by kernel_rfl)
  have hz : j.zero = some (.pointer none) := by
    have : (Tryd.prog.info? 136).map (·.zero) = some (some (.pointer none)) := by kernel_rfl
    rw [hj] at this; simpa using this
  simp [Instr.typeAssert, run_underlying hu, zeroValue, typeInfo, hj, hz]

set_option maxRecDepth 100000 in
set_option maxHeartbeats 1000000 in
theorem fault_any (P : Nat → Addr) (w : World) (hS : Sents L7 P w) (c : Nat) (hc : c = 0 ∨ c ∈ L7) :
    Calls Tryd.prog 70 #[PE P c] w fun e w' => e = .returned (fv c) ∧ Frm (fun _ => False) w w' := by
  rcases hc with rfl | hc
  · rw [PE_zero]
    clear hS
    go_enter Tryd.func70, Tryd.ntmps70
    go_wp2_with fail
    refine (none_any _).mono ?_
    rintro e w1 ⟨rfl, hf⟩
    have hblk := (Blk.new w 62 [.int .i64 0, .bool false, .int .i64 0]).frm hf (fun h => h)
    have f0 := hblk.frozen 0
    have f1 := hblk.frozen 1
    have f2 := hblk.frozen 2
    have c0 := hblk.at_ 0 rfl
    have c1 := hblk.at_ 1 rfl
    have c2 := hblk.at_ 2 rfl
    go_wp2_with fail
    refine bodyPost_ret (v := fv 0) (by simp [results, Tryd.results70, go_sem, c0, c1, c2]) rfl ⟨rfl, ?_⟩
    exact ((((((Frm.refl _ w).alloc _).trans hf).setCell (fun h => absurd h (Nat.lt_irrefl _)) _).setCell (fun h => absurd h (Nat.lt_irrefl _)) _).setCell (fun h => absurd h (Nat.lt_irrefl _)) _)
  · have h0 : c ≠ 0 := by simp at hc; omega
    rw [PE_pos P c h0]
    have hSn := Lib.hid (fun w' h => sentinel_any P w' (hS.frm h) c hc)
    clear hS
    generalize P c = a at *
    go_enter Tryd.func70, Tryd.ntmps70
    go_wp2_with (rw [noAt])
    refine (hSn.out _ ?_).mono ?_
    · repeat (first | exact Frm.refl _ _ | apply Frm.drewN | apply Frm.drew | apply Frm.alloc)
    rintro e w1 ⟨rfl, hf1⟩
    go_wp2_with fail
    refine (bare_any _ _).mono ?_
    rintro e w2 ⟨rfl, hf2⟩
    have hf := hf1.trans hf2
    have hblk := (Blk.new w 62 [.int .i64 0, .bool false, .int .i64 0]).frm hf (fun h => h)
    have f0 := hblk.frozen 0
    have f1 := hblk.frozen 1
    have f2 := hblk.frozen 2
    have c0 := hblk.at_ 0 rfl
    have c1 := hblk.at_ 1 rfl
    have c2 := hblk.at_ 2 rfl
    go_wp2_with fail
    refine bodyPost_ret (v := fv c) (by simp [results, Tryd.results70, go_sem, c0, c1, c2]) rfl ⟨rfl, ?_⟩
    exact ((((((Frm.refl _ w).alloc _).trans hf).setCell (fun h => absurd h (Nat.lt_irrefl _)) _).setCell (fun h => absurd h (Nat.lt_irrefl _)) _).setCell (fun h => absurd h (Nat.lt_irrefl _)) _)

theorem field0 (c : Int) (w : World) : (Instr.field 62 (fv c) 0).run Tryd.prog w = .ok (.int .i64 c) w := by kernel_rfl

set_option maxRecDepth 100000 in
set_option maxHeartbeats 1000000 in
theorem code_any (P : Nat → Addr) (w : World) (hS : Sents L7 P w) (c : Nat) (hc : c = 0 ∨ c ∈ L7) :
    Calls Tryd.prog 36 #[PE P c] w fun e w' => e = .returned (.int .i64 c) ∧ Frm (fun _ => False) w w' := by
  have HF := Lib.hid (fault_any P w hS c hc)
  clear hS
  generalize PE P c = v at *
  go_enter Tryd.func36, Tryd.ntmps36
  go_wp2_with fail
  refine HF.out.mono ?_
  rintro e w1 ⟨rfl, hf⟩
  go_wp2_with (rw [field0])
  go_ret
  exact ⟨rfl, hf⟩

set_option maxRecDepth 100000 in
set_option maxHeartbeats 1000000 in
theorem sameFault_any (a b : Int) (w : World) : Calls Tryd.prog 142 #[fv a, fv b] w fun e w' => e = .returned (.bool (a == b)) ∧ Frm (fun _ => False) w w' := by
  by_cases h : a = b
  · subst h
    have hb : (a == a) = true := by simp
    go_enter Tryd.func142, Tryd.ntmps142
    go_wp2_with fail
    go_ret
    exact ⟨ret_bool (by simp), by repeat (first | exact Frm.refl _ _ | apply Frm.drewN | apply Frm.drew | apply Frm.alloc)⟩
  · have hb : (a == b) = false := by simpa using h
    go_enter Tryd.func142, Tryd.ntmps142
    go_wp2_with fail
    go_ret
    exact ⟨ret_bool hb.symm, by repeat (first | exact Frm.refl _ _ | apply Frm.drewN | apply Frm.drew | apply Frm.alloc)⟩

set_option maxRecDepth 100000 in
set_option maxHeartbeats 4000000 in
theorem same_any (P : Nat → Addr) (w : World) (hS : Sents L7 P w) (c : Nat) (hc : c = 0 ∨ c ∈ L7) (d : Int) :
    Calls Tryd.prog 109 #[PE P c, fv d] w fun e w' => e = .returned (.bool ((c : Int) == d)) ∧ Frm (fun _ => False) w w' := by
  have HF := Lib.hid (fun w' (hf : Frm (fun _ => False) w w') => fault_any P w' (hS.frm hf) c hc)
  clear hS
  generalize PE P c = v at *
  have HB := Lib.hid (show Frm (fun _ => False) w (w.alloc (.cells #[.int .i64 d, .bool false, .int .i64 0] 62)) from (Frm.refl _ w).alloc _)
  have hblk := Blk.new w 62 [.int .i64 d, .bool false, .int .i64 0]
  go_enter Tryd.func109, Tryd.ntmps109
  go_wp2_with fail
  have b0 := hblk.at_ 0 rfl
  have b1 := hblk.at_ 1 rfl
  have b2 := hblk.at_ 2 rfl
  go_region_held3 (fun w' => w'.cell? ⟨w.heap.size, 0, none⟩ = some (.int .i64 d) ∧ w'.cell? ⟨w.heap.size, 1, none⟩ = some (.bool false) ∧ w'.cell? ⟨w.heap.size, 2, none⟩ = some (.int .i64 0))
    (first | exact ⟨b0, b1, b2⟩ | exact ⟨hf2.cell (hf1.cell b0 (fun h => h)) (fun h => h), hf2.cell (hf1.cell b1 (fun h => h)) (fun h => h), hf2.cell (hf1.cell b2 (fun h => h)) (fun h => h)⟩ | exact ⟨hf1.cell b0 (fun h => h), hf1.cell b1 (fun h => h), hf1.cell b2 (fun h => h)⟩)
    (first | (go_at_call 70; refine (HF.out _ (HB.out.drewN _)).mono ?_; rintro e w1 ⟨rfl, hf1⟩; have hf1' := (HB.out.drewN _).trans hf1) | (go_at_call 142; refine (sameFault_any c d _).mono ?_; rintro e w2 ⟨rfl, hf2⟩))
  go_wp2_with fail
  go_ret
  exact ⟨rfl, hf1'.trans (by simpa using hf2)⟩

set_option maxRecDepth 100000 in
set_option maxHeartbeats 1000000 in
theorem isErr_any (P : Nat → Addr) (w : World) (hS : Sents L7 P w) (c : Nat) (hc : c = 0 ∨ c ∈ L7) (d : Int) :
    Calls Tryd.prog 41 #[PE P c, .int .i64 d] w fun e w' => e = .returned (.bool ((c : Int) == d)) ∧ Frm (fun _ => False) w w' := by
  have HF := Lib.hid (fun w' (hf : Frm (fun _ => False) w w') => same_any P w' (hS.frm hf) c hc d)
  clear hS
  generalize PE P c = v at *
  go_enter Tryd.func41, Tryd.ntmps41
  go_wp2_with fail
  refine (bare_any d _).mono ?_
  rintro e w1 ⟨rfl, hf1⟩
  go_wp2_with fail
  refine (HF.out _ hf1).mono ?_
  rintro e w2 ⟨rfl, hf2⟩
  go_wp2_with fail
  go_ret
  exact ⟨rfl, hf1.trans hf2⟩

end Go.Proofs.YtkjlgamggkencaaDoor
