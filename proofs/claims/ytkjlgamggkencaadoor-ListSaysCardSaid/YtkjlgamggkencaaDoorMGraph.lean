/-
  The contracts of package graph's small calls: New, Len, Not, is, Inputs, Err, And.
-/
import Derived.Test.YtkjlgamggkencaaDoorMGr
import Derived.Maps.OwnSet
import Derived.DeepKeys5
namespace Go.Proofs.YtkjlgamggkencaaDoor
open Go.RowKit Go.Maps

/-! ### the keys of the map of gates -/
theorem pairLaid : laidOutB Tryd.prog = true := by kernel_rfl
theorem pairKT : Tryd.prog.keyTypeAt 2 73 = true := by kernel_rfl
set_option maxRecDepth 100000 in
theorem pairRow : (73 : TypeId) < Tryd.prog.types.size := of_decide_eq_true (by kernel_rfl)
theorem pairCells : Tryd.prog.cellsOf 73 = 2 := by kernel_rfl
theorem intCells : Tryd.prog.cellsOf 3 = 1 := by kernel_rfl
theorem pairWide : (match Tryd.prog.underlying 73 with | some (.array _ _) | some (.struct _) => true | _ => false) = true := by rw [Tryd.underlying73]
set_option maxRecDepth 100000 in
theorem pairKeyed : Keyed Tryd.prog 73 := Keyed.of_law (deep_law_laid pairLaid (m := 2) (by omega) pairRow pairKT pairWide)
theorem pairKeyType : Tryd.prog.keyType 73 = true := by kernel_rfl
theorem zeroInt (w : World) : (zeroValue 3).run Tryd.prog w = .ok (.int .i64 0) w := by kernel_rfl

def Small (a : Int) : Prop := 0 ≤ a ∧ a ≤ 1000000
theorem wf_small {a : Int} (h : Small a) : (Lit.int .i64 a).wf = true := by
  obtain ⟨h1, h2⟩ := h
  simp [Lit.wf, IntKind.min, IntKind.max, IntKind.signed, IntKind.bits]; omega
def pairKey (a b : Int) : Lit := .string (keyBytes [.int .i64 a, .int .i64 b])
theorem pairKey_of {a b : Int} (ha : Small a) (hb : Small b) : keyOf Tryd.prog 73 (.agg #[.int .i64 a, .int .i64 b]) = some (pairKey a b) := by
  have hf : (Value.agg #[.int .i64 a, .int .i64 b]).formed Tryd.prog 73 = true := by simp [Value.formed, Tryd.underlying73, pairCells]
  unfold keyOf
  rw [Tryd.underlying73]
  simp only [pairKeyType, hf, Bool.and_self, if_true]
  obtain ⟨m, hm⟩ : ∃ m, Tryd.prog.types.size = m + 1 := ⟨Tryd.prog.types.size - 1, by have h : (73 : Nat) < Tryd.prog.types.size := pairRow; omega⟩
  rw [hm]
  simp [Program.keyLits, Tryd.underlying73, Tryd.underlying3, pairCells, intCells, Value.cells, List.range_succ, wf_small ha, wf_small hb, pairKey]

/-! ### the graph in memory -/
def MapOk (D : DataW Unit) (g : Gr) : Prop := ∀ a b, Small a → Small b →
  (∀ i, idx (a, b) g.ands = some i → Maps.has D (pairKey a b) = true ∧ D.atKey (pairKey a b) (.lit (.int .i64 0)) = .lit (.int .i64 (2 * ((g.n : Int) + i + 1)))) ∧ (idx (a, b) g.ands = none → Maps.has D (pairKey a b) = false)

/-- the sizes that every graph has -/
structure Gr.Ok (g : Gr) : Prop where
  len : g.len ≤ 8000
  small : ∀ p ∈ g.ands, Small p.1 ∧ Small p.2

/-- Block gb is the graph g; fp: the blocks that are its own. E: what stands for an error's number. -/
def IsGr (E : Nat → Value) (w : World) (fp : Nat → Prop) (gb : Nat) (g : Gr) : Prop :=
  g.Ok ∧ ∃ A c mb m D, Blk w gb 121 [.int .i64 g.n, .slice A g.ands.length c, .map (some mb), E g.bad] ∧ w.ownsRow 0 73 2 (.slice A g.ands.length c) g.ands.length (pairs g.ands) ∧
    w.ownsMap Tryd.prog 73 (plainElem Tryd.prog 3) mb m D ∧ m ≤ g.ands.length ∧ MapOk D g ∧ fp gb ∧ fp mb ∧ ∀ k, (Value.slice A g.ands.length c).ownBlock = some k → fp k

theorem ownsMap_frm {S : Nat → Prop} {w w' : World} {mb m : Nat} {D : DataW Unit} (h : w.ownsMap Tryd.prog 73 (plainElem Tryd.prog 3) mb m D) (hf : Frm S w w') (hd : ¬ S mb) : w'.ownsMap Tryd.prog 73 (plainElem Tryd.prog 3) mb m D := by
  obtain ⟨es, clock, hb, r⟩ := h
  have hlt : mb < w.heap.size := by
    rcases Nat.lt_or_ge mb w.heap.size with h | h
    · exact h
    · rw [Array.getElem?_eq_none h] at hb; cases hb
  exact ⟨es, clock, (hf.block mb hlt hd).trans hb, r⟩

theorem IsGr.frm {E : Nat → Value} {S : Nat → Prop} {w w' : World} {fp : Nat → Prop} {gb : Nat} {g : Gr} (h : IsGr E w fp gb g) (hf : Frm S w w') (hd : ∀ k, fp k → ¬ S k) : IsGr E w' fp gb g := by
  obtain ⟨ok, A, c, mb, m, D, hb, hr, hm, hml, hD, f1, f2, f3⟩ := h
  exact ⟨ok, A, c, mb, m, D, hb.frm hf (hd _ f1), own_frm hr hf (fun k hk => hd k (f3 k hk)), ownsMap_frm hm hf (hd _ f2), hml, hD, f1, f2, f3⟩

theorem IsGr.drewN {E : Nat → Value} {w : World} {fp : Nat → Prop} {gb : Nat} {g : Gr} (h : IsGr E w fp gb g) (n : Nat) : IsGr E (w.drewN n) fp gb g := h.frm ((Frm.refl (fun _ => False) w).drewN n) (fun _ _ => id)

set_option maxHeartbeats 400000 in
theorem not_any (l : Int) (h : Small l) (w : World) : Calls Tryd.prog 28 #[.int .i64 l] w fun e w' => e = .returned (.int .i64 (notL l)) ∧ w = w' := by
  obtain ⟨h1, h2⟩ := h
  go_enter Tryd.func28, Tryd.ntmps28
  go_wp2
  go_ret
  exact ⟨ret_int (bits_xor_one l h1 (by omega)), rfl⟩

set_option maxHeartbeats 400000 in
theorem is_any (l : Int) (n : Nat) (hn : n ≤ 1000000) (w : World) : Calls Tryd.prog 101 #[.int .i64 l, .int .i64 n] w fun e w' => e = .returned (.bool (isL l n)) ∧ w = w' := by
  by_cases h : 0 ≤ l
  · have hd : isL l n = decide (l ≤ 2 * (n : Int) + 1) := by unfold isL; rw [decide_eq_true h, Bool.true_and]
    have HD := Lib.hid hd
    clear hd
    go_enter Tryd.func101, Tryd.ntmps101
    go_wp2
    go_ret
    exact ⟨ret_bool HD.out.symm, rfl⟩
  · have hd : isL l n = false := by unfold isL; rw [decide_eq_false h, Bool.false_and]
    have HD := Lib.hid hd
    clear hd
    go_enter Tryd.func101, Tryd.ntmps101
    go_wp2
    go_ret
    exact ⟨ret_bool HD.out.symm, rfl⟩

set_option maxHeartbeats 400000 in
theorem len_raw (gb n k c : Nat) (A : Option Addr) (w : World) (h : n + k ≤ 10000) (c0 : w.cell? ⟨gb, 0, none⟩ = some (.int .i64 (n : Int))) (c1 : w.cell? ⟨gb, 1, none⟩ = some (.slice A k c)) :
    Calls Tryd.prog 26 #[.pointer (some ⟨gb, 0, none⟩)] w fun e w' => e = .returned (.int .i64 ((n + k : Nat) : Int)) ∧ ∃ n, w.drewN n = w' := by
  go_enter Tryd.func26, Tryd.ntmps26
  go_wp2_with fail
  go_quiet (fail)
  go_wp2
  go_ret
  exact ⟨ret_int (by omega), _, rfl⟩

theorem len_any (E : Nat → Value) (fp : Nat → Prop) (gb : Nat) (g : Gr) (w : World) (h : IsGr E w fp gb g) :
    Calls Tryd.prog 26 #[.pointer (some ⟨gb, 0, none⟩)] w fun e w' => e = .returned (.int .i64 (g.len : Int)) ∧ ∃ n, w.drewN n = w' := by
  obtain ⟨ok, A, c, mb, m, D, hb, hr, hm, hml, hD, f1, f2, f3⟩ := h
  have k1 : g.n + g.ands.length ≤ 8000 := ok.len
  exact len_raw gb g.n g.ands.length c A w (by omega) (hb.at_ 0 rfl) (hb.at_ 1 rfl)

def clamp (i : Int) : Nat := (min (max i 0) 8000).toNat

set_option maxHeartbeats 1000000 in
theorem new_any (E : Nat → Value) (hE : E 0 = .nilIface) (i : Int) (w : World) :
    Calls Tryd.prog 25 #[.int .i64 i] w fun e w' => ∃ gb fp, e = .returned (.pointer (some ⟨gb, 0, none⟩)) ∧ IsGr E w' fp gb ⟨clamp i, [], 0⟩ ∧ (∀ k, fp k → w.heap.size ≤ k ∧ k < w'.heap.size) ∧ Frm (fun _ => False) w w' := by
  have hc : ∀ x : Int, x = ((clamp i : Nat) : Int) → Calls Tryd.prog 25 #[.int .i64 i] w (fun e w' => e = .returned (.pointer (some ⟨w.heap.size + 1, 0, none⟩)) ∧ w' = (w.alloc (.map #[] 0)).alloc (.cells #[.int .i64 x, .slice none 0 0, .map (some w.heap.size), .nilIface] 121)) := by
    intro x hx
    have hmm := @run_makeMap Tryd.prog
    by_cases h0 : i < 0
    · obtain rfl : x = 0 := by rw [hx]; unfold clamp; omega
      clear hx
      go_enter Tryd.func25, Tryd.ntmps25
      go_wp2
      all_goals go_ret
      all_goals exact ⟨rfl, rfl⟩
    · by_cases h1 : 8000 < i
      · obtain rfl : x = 8000 := by rw [hx]; unfold clamp; omega
        clear hx
        go_enter Tryd.func25, Tryd.ntmps25
        go_wp2
        all_goals go_ret
        all_goals exact ⟨rfl, rfl⟩
      · obtain rfl : x = i := by rw [hx]; unfold clamp; omega
        clear hx
        go_enter Tryd.func25, Tryd.ntmps25
        go_wp2
        all_goals go_ret
        all_goals exact ⟨rfl, rfl⟩
  refine (hc _ rfl).mono ?_
  rintro e w' ⟨rfl, rfl⟩
  refine ⟨w.heap.size + 1, fun k => w.heap.size ≤ k ∧ k < w.heap.size + 2, rfl, ⟨⟨?_, by simp⟩, none, 0, w.heap.size, 0, .map [], ?_, ?_, ?_, by simp, ?_, by simp, by simp, by simp [Value.ownBlock]⟩, fun k hk => by simpa using hk, ((Frm.refl _ w).alloc _).alloc _⟩
  · show clamp i + 0 ≤ 8000; unfold clamp; omega
  · rw [hE]; exact Blk.new_at _ _ _ _ (by simp)
  · exact World.ownsRow_nil _ _ _ _
  · obtain ⟨es, clock, hb, r⟩ := World.ownsMap_made (H := Unit) w Tryd.prog 73 (plainElem Tryd.prog 3)
    exact ⟨es, clock, (Below.heap_alloc _ _ _ (by simp)).trans hb, r⟩
  · intro a b _ _
    exact ⟨fun i h => by simp [idx] at h, fun _ => rfl⟩

end Go.Proofs.YtkjlgamggkencaaDoor
