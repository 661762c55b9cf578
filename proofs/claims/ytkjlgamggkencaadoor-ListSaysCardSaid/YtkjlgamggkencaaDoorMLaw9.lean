/-
  What chapter 9's statements share: first, is; the gates' calls on a graph beside what is kept.
-/
import Derived.Test.YtkjlgamggkencaaDoorMGate
import Derived.Test.YtkjlgamggkencaaDoorMEvalC
import Derived.Test.YtkjlgamggkencaaDoorMGraphFolds
namespace Go.Proofs.YtkjlgamggkencaaDoor
open Go.RowKit

section
variable {E : Nat → Value} {K : Nat → Prop} {w : World} {gb : Nat} {g : Gr}
theorem on_call {f : FuncId} {args : Array Value} {R : Value} {g' : Gr} (h : On E K w gb g)
    (hc : ∀ fp, IsGr E w fp gb g → (∀ k, K k → ¬ fp k ∧ k < w.heap.size) → Calls Tryd.prog f args w (fun e w' => e = .returned R ∧ GStep E fp gb w w' g')) :
    Calls Tryd.prog f args w (fun e w' => e = .returned R ∧ On E K w' gb g' ∧ Frm (fun k => ¬ K k) w w') := by
  have hK : ∀ fp : Nat → Prop, (∀ k, fp k → ¬ K k ∧ k < w.heap.size) → (∀ k, K k → k < w.heap.size) → ∀ k, K k → ¬ fp k ∧ k < w.heap.size := fun fp h1 h2 k hk => ⟨fun hf => (h1 k hf).1 hk, h2 k hk⟩
  obtain ⟨fp, h1, h2, h3⟩ := h
  refine (hc fp h1 (hK fp h2 h3)).mono ?_
  rintro e w' ⟨rfl, fp', q1, q2, q3⟩
  have hs := q3.size
  refine ⟨rfl, ⟨fp', q1, fun k hk => ?_, fun k hk => by have := h3 k hk; omega⟩, q3.mono fun k _ hk => (h2 k hk).1⟩
  rcases q2 k hk with h | h
  · exact ⟨(h2 k h).1, by have := (h2 k h).2; omega⟩
  · exact ⟨fun hK => by have := h3 k hK; omega, h.2⟩
theorem On.lenOk (h : On E K w gb g) : g.len ≤ 8000 := by obtain ⟨fp, h1, _⟩ := h; exact h1.1.len
theorem on_and (h : On E K w gb g) (a b : Int) (h1 : isL a g.len = true) (h2 : isL b g.len = true) (hl : g.len < 8000) :
    Calls Tryd.prog 27 #[.pointer (some ⟨gb, 0, none⟩), .int .i64 a, .int .i64 b] w (fun e w' => e = .returned (.int .i64 (g.and a b).1) ∧ On E K w' gb (g.and a b).2 ∧ Frm (fun k => ¬ K k) w w') :=
  on_call h fun fp hG _ => and_any E fp gb g w a b hG h1 h2 hl
theorem on_or (h : On E K w gb g) (a b : Int) (h1 : isL a g.len = true) (h2 : isL b g.len = true) (hl : g.len < 8000) :
    Calls Tryd.prog 54 #[.pointer (some ⟨gb, 0, none⟩), .int .i64 a, .int .i64 b] w (fun e w' => e = .returned (.int .i64 (orG g a b).1) ∧ On E K w' gb (orG g a b).2 ∧ Frm (fun k => ¬ K k) w w') :=
  on_call h fun fp hG _ => or_any E fp gb g w a b hG h1 h2 hl
theorem on_xor (h : On E K w gb g) (a b : Int) (h1 : isL a g.len = true) (h2 : isL b g.len = true) (hl : g.len + 2 < 8000) :
    Calls Tryd.prog 55 #[.pointer (some ⟨gb, 0, none⟩), .int .i64 a, .int .i64 b] w (fun e w' => e = .returned (.int .i64 (xorG g a b).1) ∧ On E K w' gb (xorG g a b).2 ∧ Frm (fun k => ¬ K k) w w') :=
  on_call h fun fp hG _ => xor_any E fp gb g w a b hG h1 h2 hl
theorem on_mux (h : On E K w gb g) (c a b : Int) (h0 : isL c g.len = true) (h1 : isL a g.len = true) (h2 : isL b g.len = true) (hl : g.len + 2 < 8000) :
    Calls Tryd.prog 56 #[.pointer (some ⟨gb, 0, none⟩), .int .i64 c, .int .i64 a, .int .i64 b] w (fun e w' => e = .returned (.int .i64 (muxG g c a b).1) ∧ On E K w' gb (muxG g c a b).2 ∧ Frm (fun k => ¬ K k) w w') :=
  on_call h fun fp hG _ => mux_any E fp gb g w c a b hG h0 h1 h2 hl
theorem on_all (h : On E K w gb g) (A : Option Addr) (n c : Nat) (F : Nat → Prop) (l : List Int) (hn : l.length = n) (hs : Sl w F 1 (.slice A n c) n (l.map (.int .i64))) (hF : ∀ k, F k → K k) (hx : ∀ x ∈ l, isL x g.len = true) (hl : g.len + n ≤ 8000) :
    Calls Tryd.prog 58 #[.pointer (some ⟨gb, 0, none⟩), .slice A n c] w (fun e w' => e = .returned (.int .i64 (allG g l).1) ∧ On E K w' gb (allG g l).2 ∧ Frm (fun k => ¬ K k) w w') :=
  on_call h fun fp hG hK => all_any E fp gb g w A n c F l hG hn hs (fun k hk => hK k (hF k hk)) hx hl
theorem on_any (h : On E K w gb g) (A : Option Addr) (n c : Nat) (F : Nat → Prop) (l : List Int) (hn : l.length = n) (hs : Sl w F 1 (.slice A n c) n (l.map (.int .i64))) (hF : ∀ k, F k → K k) (hx : ∀ x ∈ l, isL x g.len = true) (hl : g.len + n ≤ 8000) :
    Calls Tryd.prog 59 #[.pointer (some ⟨gb, 0, none⟩), .slice A n c] w (fun e w' => e = .returned (.int .i64 (anyG g l).1) ∧ On E K w' gb (anyG g l).2 ∧ Frm (fun k => ¬ K k) w w') :=
  on_call h fun fp hG hK => any_any E fp gb g w A n c F l hG hn hs (fun k hk => hK k (hF k hk)) hx hl
theorem on_circuit (h : On E K w gb g) (A0 : Option Addr) (k c0 : Nat) (F : Nat → Prop) (l : List Int) (hk : l.length = k) (hb : k ≤ 1000000) (hs : Sl w F 1 (.slice A0 k c0) k (l.map (.int .i64))) :
    Calls Tryd.prog 37 #[.pointer (some ⟨gb, 0, none⟩), .slice A0 k c0] w fun e w' => ∃ v, e = .returned v ∧ IsC w' (fun k => w.heap.size ≤ k) v g.n g.ands l ∧ Frm (fun _ => False) w w' := by
  obtain ⟨fp, h1, _⟩ := h
  exact circuit_any E fp gb g w h1 A0 k c0 F l hk hb hs
/-- a graph that is made now -/
theorem on_new (E : Nat → Value) (hE : E 0 = .nilIface) (i : Int) (w : World) :
    Calls Tryd.prog 25 #[.int .i64 i] w fun e w' => ∃ gb, e = .returned (.pointer (some ⟨gb, 0, none⟩)) ∧ On E (fun k => k < w.heap.size) w' gb ⟨clamp i, [], 0⟩ ∧ Frm (fun _ => False) w w' := by
  refine (new_any E hE i w).mono ?_
  rintro e w' ⟨gb, fp, rfl, hG, hfp, hf⟩
  have hs := hf.size
  exact ⟨gb, rfl, ⟨fp, hG, fun k hk => by have := hfp k hk; omega, fun k hk => by omega⟩, hf⟩
end

set_option maxRecDepth 100000 in
set_option maxHeartbeats 1000000 in
theorem is9_any (A : Option Addr) (n c : Nat) (F : Nat → Prop) (inp : List Bool) (l : Int) (w : World) (hn : inp.length = n) (h0 : 0 ≤ l) (h1 : l ≤ 2 * (n : Int) + 1) (hb : n ≤ 1000000) (hs : Sl w F 1 (.slice A n c) n (inp.map .bool)) :
    Calls Tryd.prog 57 #[.slice A n c, .int .i64 l] w fun e w' => e = .returned (.bool (worth (valsN n inp) l)) ∧ w = w' := by
  have hand := bits_and_one l h0 (by omega)
  have hval : worth (valsN n inp) l = ((valsN n inp).getD (l / 2).toNat false != decide (l % 2 = 1)) := rfl
  by_cases hz : 0 < l / 2
  · obtain ⟨b, o, u, rfl, _, hu, hcell⟩ := hs.at_ (k := (l / 2 - 1).toNat) (by omega)
    obtain rfl := at_bool hu
    have hg : (valsN n inp).getD (l / 2).toNat false = inp.getD (l / 2 - 1).toNat false := by
      obtain ⟨k, hk⟩ : ∃ k, (l / 2).toNat = k + 1 := ⟨(l / 2).toNat - 1, by omega⟩
      have hk' : (l / 2 - 1).toNat = k := by omega
      rw [hk, hk']
      simp [valsN, List.getD, show k < n by omega]
    rw [hg] at hval
    have i0 : (0 : Int) ≤ l / 2 - 1 := by omega
    have i1 : l / 2 - 1 < (n : Int) := by omega
    have wk : IntKind.i64.wrap (l / 2 - 1) = l / 2 - 1 := IntWalk.i64_in _ (by omega)
    rw [show (l / 2 - 1).toNat = (l / 2).toNat - 1 from by omega] at hcell hval
    clear hu hs hg
    generalize inp.getD ((l / 2).toNat - 1) false = x at *
    have HW := Lib.hid hval
    clear hval
    go_enter Tryd.func57, Tryd.ntmps57
    go_wp2_with fail
    go_ret
    refine ⟨ret_bool ?_, rfl⟩
    rw [HW.out]
    rcases (show l % 2 = 0 ∨ l % 2 = 1 from by omega) with h | h <;> rw [h] <;> cases x <;> rfl
  · have hz0 : (l / 2).toNat = 0 := by omega
    rw [hz0, show (valsN n inp).getD 0 false = false from rfl] at hval
    have HW := Lib.hid hval
    clear hval hs
    go_enter Tryd.func57, Tryd.ntmps57
    go_wp2_with fail
    go_ret
    refine ⟨ret_bool ?_, rfl⟩
    rw [HW.out]
    rcases (show l % 2 = 0 ∨ l % 2 = 1 from by omega) with h | h <;> rw [h] <;> rfl

set_option maxRecDepth 100000 in
set_option maxHeartbeats 2000000 in
theorem first9_any (w : World) : Calls Tryd.prog 53 #[] w fun e w' => e = .returned (.bool true) ∧ Frm (fun _ => False) w w' := by
  go_enter Tryd.func53, Tryd.ntmps53
  go_wp2_with fail
  refine (on_new E0 rfl 1 w).mono ?_
  rintro e w1 ⟨gb, rfl, hO, hf1⟩
  have hl0 : (⟨clamp 1, [], 0⟩ : Gr).len = 1 := by decide +kernel
  have HA1 := Lib.hid (fun (W : World) (h : On E0 (fun k => k < w.heap.size) W gb ⟨clamp 1, [], 0⟩) => on_any h none 0 0 (fun _ => False) [] rfl (Sl.nil_ _ _ _) (fun _ h => h.elim) (by simp) (by rw [hl0]; omega))
  have HA2 := Lib.hid (fun (W : World) (h : On E0 (fun k => k < w.heap.size) W gb ⟨clamp 1, [], 0⟩) => on_all h none 0 0 (fun _ => False) [] rfl (Sl.nil_ _ _ _) (fun _ h => h.elim) (by simp) (by rw [hl0]; omega))
  have e1 : anyG (⟨clamp 1, [], 0⟩ : Gr) [] = (0, ⟨clamp 1, [], 0⟩) := by kernel_rfl
  have e2 : allG (⟨clamp 1, [], 0⟩ : Gr) [] = (1, ⟨clamp 1, [], 0⟩) := by kernel_rfl
  have e3 : anyG (⟨clamp 1, [], 0⟩ : Gr) [2] = (2, ⟨clamp 1, [], 0⟩) := by kernel_rfl
  rw [e1] at HA1
  rw [e2] at HA2
  have HE3 := Lib.hid e3
  clear e1 e2 e3
  go_wp2_with fail
  refine (HA1.out _ hO).mono ?_
  rintro e w2 ⟨rfl, hO2, hf2⟩
  go_wp2_with fail
  refine (HA2.out _ hO2).mono ?_
  rintro e w3 ⟨rfl, hO3, hf3⟩
  go_wp2_with fail
  have hfa := (Frm.refl (fun _ => False) w3).alloc (.cells #[.int .i64 2] 3)
  have hO4 := On.wide (K' := fun k => k < w.heap.size ∨ k = w3.heap.size) hO3 hfa (fun k hk => by rcases hk with h | h; exact .inl h; exact .inr ⟨by omega, by simp; omega⟩)
  have hsl := (Blk.new w3 3 [.int .i64 2]).sl 1 1 rfl
  refine (on_any hO4 (some ⟨w3.heap.size, 0, none⟩) 1 1 (fun k => k = w3.heap.size) [2] rfl hsl (fun k h => .inr h) (by intro x hx; simp at hx; subst hx; rw [hl0]; rfl) (by rw [hl0]; omega)).mono ?_
  rw [HE3.out]
  rintro e w5 ⟨rfl, hO5, hf5⟩
  go_wp2_with fail
  go_ret
  have h13 := frm_kept (frm_kept hf1 hf2 (fun _ h => h)) hf3 (fun _ h => h)
  exact ⟨rfl, (h13.trans hfa).then' hf5 (fun k hk h => h (.inl hk))⟩

end Go.Proofs.YtkjlgamggkencaaDoor
