/-
  Rows that are made with zeros, copied into, set at a place.
-/
import Derived.Test.YtkjlgamggkencaaDoorMBase
import Derived.Laws.CopyOwn
import Derived.Laws.MakeOwn
import Derived.Laws.OwnMore
namespace Go.Proofs.YtkjlgamggkencaaDoor
open Go.RowKit

theorem made_list (z : Value) (n : Nat) : madeCells #[z] n = (List.replicate n z).toArray := by
  rw [← toList_madeCells_one, Array.toArray_toList]

section
variable {P : Program}
theorem run_make_z (w : World) (t e : TypeId) (i : TypeInfo) (z : Value) (ht : P.underlying t = some (.slice e)) (hi : P.info? e = some i) (hz : i.zero = some z) (hsize : i.size = 1) (hz1 : z.cells = #[z])
    (kl kc : IntKind) (ln cn : Nat) (hlc : ln ≤ cn) (hbytes : i.bytes * cn ≤ 281474976710656) (h63 : cn ≤ 9223372036854775807) :
    (Instr.makeSlice t (.int kl (ln : Int)) (.int kc (cn : Int))).run P w = .ok (.slice (some ⟨w.heap.size, 0, none⟩) ln cn) (w.alloc (.cells (List.replicate cn z).toArray e)) := by
  have hb' : (i.bytes : Int) * (cn : Int) ≤ 281474976710656 := by
    have h : ((i.bytes * cn : Nat) : Int) ≤ 281474976710656 := by omega
    rwa [Int.natCast_mul] at h
  have hr := run_make (P := P) w t e i z ht hi hz kl kc ln cn (by omega) (by omega) hb' (by omega)
  simp only [Int.toNat_natCast, hsize, Nat.mul_one, hz1, made_list] at hr
  exact hr
/-- make of one-cell elements, with a length and a capacity -/
theorem wpList_make_z (w : World) {ops : Array Oper} {rest : List Oper} {o : Oper} {a : Act} {Q : Exit → Act → World → Prop}
    (hg : o.guard = none) (l c : Operand) (t : TypeId) (hop : o.op = Op.makeSlice t l c)
    (e : TypeId) (i : TypeInfo) (z : Value) (ht : P.underlying t = some (.slice e)) (hi : P.info? e = some i) (hz : i.zero = some z) (hsize : i.size = 1) (hz1 : z.cells = #[z])
    (kl kc : IntKind) (ln cn : Nat) (hl : a.eval l = .int kl (ln : Int)) (hc : a.eval c = .int kc (cn : Int)) (hlc : ln ≤ cn) (hbytes : i.bytes * cn ≤ 281474976710656) (h63 : cn ≤ 9223372036854775807)
    (hK : ∀ w', Blk w' w.heap.size e (List.replicate cn z) → Frm (fun _ => False) w w' → wpList P ops Q rest (a.put o.dst (.slice (some ⟨w.heap.size, 0, none⟩) ln cn)) w') :
    wpList P ops Q (o :: rest) a w := by
  refine wpList_plain hg fun K hK' => ?_
  have hrun := run_make_z (P := P) w t e i z ht hi hz hsize hz1 kl kc ln cn hlc hbytes h63
  unfold Oper.wp
  simp [execOp, hop, hl, hc, hrun, Result.andThen]
  exact hK' _ _ (hK _ (Blk.new _ _ _) ((Frm.refl _ _).alloc _))
end

/-- a block that is known whole, as an owned row -/
theorem own_of_blk {w : World} {g base : Nat} {e : TypeId} {cs : List Value} (h : Blk w g e cs) (n cap : Nat) (hn : n ≤ cap) (hc : cs.length = cap) (hm : cap ≤ maxLen) (hb : base ≤ g) :
    w.ownsRow base e 1 (.slice (some ⟨g, 0, none⟩) n cap) n (cs.take n) := by
  refine ⟨by rw [List.length_take]; omega, .inr ⟨g, cap, cs.toArray, rfl, hb, h, hn, hm, by simpa using hc, by simp⟩⟩
/-- an owned row set at a place -/
theorem own_set {w : World} {g base n cap i : Nat} {e : TypeId} {xs : List Value} (h : w.ownsRow base e 1 (.slice (some ⟨g, 0, none⟩) n cap) n xs) (u : Value) :
    (w.setCell ⟨g, i, none⟩ u).ownsRow base e 1 (.slice (some ⟨g, 0, none⟩) n cap) n (xs.set i u) := by
  obtain ⟨hl, h⟩ := h
  refine ⟨by simpa using hl, ?_⟩
  rcases h with ⟨h, _⟩ | ⟨g', cap', cur, he, hb, hg, h1, h2, h3, h4⟩
  · cases h
  · cases he
    refine .inr ⟨g, cap, cur.setIfInBounds i u, rfl, hb, ?_, h1, h2, by simpa using h3, ?_⟩
    · simp [World.setCell, Array.getElem?_modify, hg]
    · rw [Array.toList_setIfInBounds, List.take_set, h4]
theorem own_at {w : World} {g base n cap i : Nat} {e : TypeId} {xs : List Value} (h : w.ownsRow base e 1 (.slice (some ⟨g, 0, none⟩) n cap) n xs) {u : Value} (hu : xs[i]? = some u) : w.cell? ⟨g, i, none⟩ = some u := by
  have := h.cells (g := g) rfl i u hu
  rwa [addr_add, Nat.zero_add] at this
theorem own_free {w : World} {g base n cap : Nat} {e : TypeId} {xs : List Value} (h : w.ownsRow base e 1 (.slice (some ⟨g, 0, none⟩) n cap) n xs) (i : Nat) : w.frozen? ⟨g, i, none⟩ = false := by
  rcases h.2 with ⟨h, _⟩ | ⟨g', cap', cur, he, hb, hg, _⟩
  · cases h
  · cases he; simp [World.frozen?, hg]

theorem Frm.of_below' {g : Nat} {S : Nat → Prop} {w w' : World} (h : Below g w w') (hS : ∀ k, k < w.heap.size → ¬ S k → k < g) : Frm S w w' :=
  ⟨h.os, h.tape, h.output, h.size, fun k hk hn => h.block k (hS k hk hn)⟩
/-- what a copy behind the first place leaves -/
theorem splice_head (C n : Nat) (l : List Bool) (hn : n + 1 ≤ C) :
    (splice (List.replicate C (Value.bool false)) 1 ((l.take n).map .bool)).take (n + 1) = ((false :: (List.range n).map fun i => l.getD i false).map .bool) := by
  apply List.ext_getElem?
  intro i
  unfold splice
  cases i with
  | zero => cases C with | zero => omega | succ C => simp [List.replicate_succ]
  | succ i =>
    rw [List.getElem?_take]
    by_cases hi : i + 1 < n + 1
    · rw [if_pos hi]
      have h1 : (List.take 1 (List.replicate C (Value.bool false))).length = 1 := by simp; omega
      rw [List.getElem?_append_right (by omega), h1, show i + 1 - 1 = i from by omega]
      rw [List.map_cons, List.getElem?_cons_succ, List.map_map, List.getElem?_map, List.getElem?_range (by omega)]
      simp only [Option.map_some, Function.comp]
      by_cases hl : i < l.length
      · rw [List.getElem?_append_left (by simp; omega)]
        simp [List.getD, hl, show i < n by omega]
      · rw [List.getElem?_append_right (by simp; omega)]
        simp only [List.length_map, List.length_take, List.getElem?_drop, List.getD]
        rw [List.getElem?_eq_none (l := l) (by omega), List.getElem?_replicate, if_pos (by omega)]
        rfl
    · rw [if_neg hi, List.getElem?_eq_none (by simp; omega)]

end Go.Proofs.YtkjlgamggkencaaDoor

namespace Go.Proofs.YtkjlgamggkencaaDoor
open Go.RowKit

theorem wpList_copy_frm {P : Program} {w : World} {ops : Array Oper} {rest : List Oper} {o : Oper} {a : Act} {Q : Exit → Act → World → Prop} (hgd : o.guard = none) (d s : Operand) (dT sT : TypeId)
    (ho : o.op = .call { callee := .builtin .copy, args := #[d, s], argTypes := #[dT, sT] }) (elem : TypeId) (hu : P.underlying dT = some (.slice elem)) (hsz : (P.info? elem).map (·.size) = some 1)
    (dp sp : Option Addr) (dLen dCap sLen sCap : Nat) (hd : a.eval d = .slice dp dLen dCap) (hs : a.eval s = .slice sp sLen sCap)
    (g off : Nat) (cur : List Value) (t : TypeId) (hg : Blk w g t cur) (cs : List Value) (hn : cs.length = Nat.min sLen dLen)
    (hpos : 0 < cs.length → dp = some ⟨g, off, none⟩ ∧ ∃ ad, sp = some ad ∧ ∀ j v, cs[j]? = some v → w.cell? (ad.add j) = some v)
    (hfit : off + cs.length ≤ cur.length) (h1 : ∀ v ∈ cs, v.oneCell' = true)
    (h : ∀ w', Hid (Blk w' g t (splice cur off cs)) → Frm (fun k => k = g) w w' → wpList P ops Q rest (a.put o.dst (goInt cs.length)) w') :
    wpList P ops Q (o :: rest) a w := by
  by_cases h0 : cs.length = 0
  · obtain rfl : cs = [] := List.eq_nil_of_length_eq_zero h0
    refine wpList_copy_nothing hgd d s dT sT ho elem hu hsz dp sp dLen dCap sLen sCap hd hs (by simpa using hn.symm) ?_
    exact h w (show Blk w g t (splice cur off []) by simpa [splice] using hg) (Frm.refl _ _)
  · obtain ⟨rfl, ad, rfl, hsrc⟩ := hpos (by omega)
    refine wpList_copy_own hgd d s dT sT ho elem hu hsz g off dLen dCap ad sLen sCap hd hs cur.toArray t hg cs hn hsrc (by simpa using hfit) h1 ?_
    refine h _ ?_ ⟨rfl, rfl, rfl, by simp [World.setRow], fun k _ hk => setRow_other w g k _ hk⟩
    show (w.setRow g _).heap[g]? = _
    simpa [splice] using setRow_heap w g _ _ t _ hg

end Go.Proofs.YtkjlgamggkencaaDoor

