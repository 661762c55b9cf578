/-
  Words on memory for the walks of this seat: which blocks a call may have turned, slices that read as lists, blocks that are known whole. Own work, no Go in it.
-/
import Derived.Test.YtkjlgamggkencaaDoorRows
import Derived.WalkKit
import Derived.WalkLawsBesides
import Derived.WalkSpells
import Derived.Deep.QuietTactic
import Derived.Deep.Draws
import Derived.BigQuiet
import Derived.Deep.RegionHeld3
import Derived.Deep.DeepFit
import Derived.BigRegion
import Derived.Lib.Hide
import Derived.Laws.OwnMore
import Derived.Maps.AppendAt
namespace Go.Proofs.YtkjlgamggkencaaDoor
open Go.RowKit

/-- Only blocks of S, and new ones, may have turned. -/
structure Frm (S : Nat → Prop) (w w' : World) : Prop where
  os : w'.os = w.os
  tape : w'.tape = w.tape
  output : w'.output = w.output
  size : w.heap.size ≤ w'.heap.size
  block : ∀ k, k < w.heap.size → ¬ S k → w'.heap[k]? = w.heap[k]?

section
variable {S T U : Nat → Prop} {w w' w'' : World}
theorem Frm.refl (S : Nat → Prop) (w : World) : Frm S w w := ⟨rfl, rfl, rfl, Nat.le_refl _, fun _ _ _ => rfl⟩
theorem Frm.mono (h : Frm S w w') (hS : ∀ k, k < w.heap.size → S k → T k) : Frm T w w' :=
  ⟨h.os, h.tape, h.output, h.size, fun k hk hn => h.block k hk (fun hs => hn (hS k hk hs))⟩
theorem Frm.trans' (h : Frm S w w') (h' : Frm T w' w'') (hS : ∀ k, k < w.heap.size → S k → U k) (hT : ∀ k, k < w.heap.size → T k → U k) : Frm U w w'' :=
  ⟨h'.os.trans h.os, h'.tape.trans h.tape, h'.output.trans h.output, Nat.le_trans h.size h'.size,
    fun k hk hn => (h'.block k (Nat.lt_of_lt_of_le hk h.size) (fun ht => hn (hT k hk ht))).trans (h.block k hk (fun hs => hn (hS k hk hs)))⟩
theorem Frm.trans (h : Frm S w w') (h' : Frm S w' w'') : Frm S w w'' := h.trans' h' (fun _ _ h => h) (fun _ _ h => h)
/-- the second step touches only what is new since w, or S -/
theorem Frm.then' (h : Frm S w w') (h' : Frm T w' w'') (hT : ∀ k, k < w.heap.size → T k → S k) : Frm S w w'' := h.trans' h' (fun _ _ h => h) hT
theorem Frm.drew (h : Frm S w w') : Frm S w w'.drew := ⟨h.os, h.tape, h.output, h.size, h.block⟩
theorem Frm.drewN (h : Frm S w w') (n : Nat) : Frm S w (w'.drewN n) := ⟨h.os, h.tape, h.output, h.size, h.block⟩
theorem Frm.alloc (h : Frm S w w') (o : Obj) : Frm S w (w'.alloc o) :=
  ⟨h.os, h.tape, h.output, Nat.le_trans h.size (by simp), fun k hk hn => (Below.heap_alloc w' o k (Nat.lt_of_lt_of_le hk h.size)).trans (h.block k hk hn)⟩
theorem Frm.setCell (h : Frm S w w') {p : Addr} (hp : p.block < w.heap.size → S p.block) (u : Value) : Frm S w (w'.setCell p u) :=
  ⟨h.os, h.tape, h.output, by simpa [World.setCell] using h.size, fun k hk hn => (Below.heap_setCell w' p u k (fun e => by subst e; exact hn (hp hk))).trans (h.block k hk hn)⟩
theorem Frm.grown (h : Frm S w w') {row : Option Nat} (hg : w'.grownBy w'' row) (hr : ∀ k, row = some k → k < w.heap.size → S k) : Frm S w w'' :=
  ⟨hg.os.trans h.os, hg.tape.trans h.tape, hg.output.trans h.output, Nat.le_trans h.size hg.size,
    fun k hk hn => (hg.block k (Nat.lt_of_lt_of_le hk h.size) (fun e => hn (hr k e.symm hk))).trans (h.block k hk hn)⟩
theorem Frm.below {B : Nat} (h : Frm S w w') (hS : ∀ k, k < w.heap.size → S k → B ≤ k) (hB : B ≤ w.heap.size) : Below B w w' :=
  ⟨h.os, h.tape, h.output, h.size, fun k hk => h.block k (by omega) (fun hs => by have := hS k (by omega) hs; omega)⟩
theorem Frm.of_below (h : Below w.heap.size w w') (S : Nat → Prop) : Frm S w w' := ⟨h.os, h.tape, h.output, h.size, fun k hk _ => h.block k hk⟩
theorem Frm.cell (h : Frm S w w') {p : Addr} {u : Value} (hc : w.cell? p = some u) (hp : ¬ S p.block) : w'.cell? p = some u :=
  (World.cell?_of_block (h.block p.block (World.block_lt_of_cell? w p hc) hp)).trans hc
end

/-- Block g is just these cells, none frozen. -/
def Blk (w : World) (g : Nat) (t : TypeId) (cs : List Value) : Prop := w.heap[g]? = some (.cells cs.toArray t (0, 0))

section
variable {S : Nat → Prop} {w w' : World} {g : Nat} {t : TypeId} {cs : List Value}
theorem Blk.lt (h : Blk w g t cs) : g < w.heap.size := by
  rcases Nat.lt_or_ge g w.heap.size with hlt | hge
  · exact hlt
  · unfold Blk at h; rw [Array.getElem?_eq_none hge] at h; cases h
theorem Blk.cell (h : Blk w g t cs) (i : Nat) : w.cell? ⟨g, i, none⟩ = cs[i]? := by
  unfold Blk at h; simp [World.cell?, h]
theorem Blk.at_ (h : Blk w g t cs) (i : Nat) {u : Value} (hu : cs[i]? = some u) : w.cell? ⟨g, i, none⟩ = some u := (h.cell i).trans hu
theorem Blk.frozen (h : Blk w g t cs) (i : Nat) : w.frozen? ⟨g, i, none⟩ = false := by
  unfold Blk at h; simp [World.frozen?, h]
theorem Blk.new (w : World) (t : TypeId) (cs : List Value) : Blk (w.alloc (.cells cs.toArray t)) w.heap.size t cs := heap_alloc_new w _
theorem Blk.new_at (w : World) (t : TypeId) (cs : List Value) (b : Nat) (hb : b = w.heap.size) : Blk (w.alloc (.cells cs.toArray t)) b t cs := by subst hb; exact heap_alloc_new w _
theorem Blk.drewN (h : Blk w g t cs) (n : Nat) : Blk (w.drewN n) g t cs := h
theorem Blk.alloc (h : Blk w g t cs) (o : Obj) : Blk (w.alloc o) g t cs := (Below.heap_alloc w o g h.lt).trans h
theorem Blk.set_ (h : Blk w g t cs) (i : Nat) (u : Value) : Blk (w.setCell ⟨g, i, none⟩ u) g t (cs.set i u) := by
  unfold Blk at h ⊢
  simp [World.setCell, Array.getElem?_modify, h]
theorem Blk.far (h : Blk w g t cs) {p : Addr} (hp : g ≠ p.block) (u : Value) : Blk (w.setCell p u) g t cs := (Below.heap_setCell w p u g hp).trans h
theorem Blk.frm (h : Blk w g t cs) (hf : Frm S w w') (hg : ¬ S g) : Blk w' g t cs := (hf.block g h.lt hg).trans h
end

/-- A slice of n elements (sz cells each) that reads as the cells xs; each cell lies in a block of F. -/
def Sl (w : World) (F : Nat → Prop) (sz : Nat) (v : Value) (n : Nat) (xs : List Value) : Prop :=
  xs.length = n * sz ∧ ∃ A c, v = .slice A n c ∧ n ≤ c ∧ (A = none → c = 0) ∧ ∀ i u, xs[i]? = some u → ∃ b o, A = some ⟨b, o, none⟩ ∧ F b ∧ w.cell? ⟨b, o + i, none⟩ = some u

theorem addr_add (b o i : Nat) : (⟨b, o, none⟩ : Addr).add i = ⟨b, o + i, none⟩ := by unfold Addr.add; split <;> simp_all

section
variable {S F G : Nat → Prop} {w w' : World} {sz n : Nat} {v : Value} {xs : List Value}
theorem Sl.form (h : Sl w F sz v n xs) : ∃ A c, v = .slice A n c ∧ n ≤ c ∧ (A = none → c = 0) := by
  obtain ⟨_, A, c, e, hc, ha, _⟩ := h; exact ⟨A, c, e, hc, ha⟩
theorem Sl.frm (h : Sl w F sz v n xs) (hf : Frm S w w') (hd : ∀ k, F k → ¬ S k) : Sl w' F sz v n xs := by
  obtain ⟨hl, A, c, e, hc, ha, hx⟩ := h
  refine ⟨hl, A, c, e, hc, ha, fun i u hu => ?_⟩
  obtain ⟨b, o, hb, hF, hcell⟩ := hx i u hu
  exact ⟨b, o, hb, hF, hf.cell hcell (hd b hF)⟩
theorem Sl.drewN (h : Sl w F sz v n xs) (k : Nat) : Sl (w.drewN k) F sz v n xs := h
theorem Sl.mono (h : Sl w F sz v n xs) (hd : ∀ k, k < w.heap.size → F k → G k) : Sl w G sz v n xs := by
  obtain ⟨hl, A, c, e, hc, ha, hx⟩ := h
  refine ⟨hl, A, c, e, hc, ha, fun i u hu => ?_⟩
  obtain ⟨b, o, hb, hF, hcell⟩ := hx i u hu
  exact ⟨b, o, hb, hd b (World.block_lt_of_cell? _ _ hcell) hF, hcell⟩
theorem Sl.nil_ (w : World) (F : Nat → Prop) (sz : Nat) : Sl w F sz (.slice none 0 0) 0 [] := ⟨by simp, none, 0, rfl, Nat.zero_le _, fun _ => rfl, fun i u h => by simp at h⟩
/-- the cell at index k of a slice of one-cell elements -/
theorem Sl.at_ {A : Option Addr} {c : Nat} (h : Sl w F 1 (.slice A n c) n xs) {k : Nat} (hk : k < n) : ∃ b o u, A = some ⟨b, o, none⟩ ∧ F b ∧ xs[k]? = some u ∧ w.cell? ⟨b, o + k, none⟩ = some u := by
  obtain ⟨hl, A', c', e, _, _, hx⟩ := h
  cases e
  have hk' : k < xs.length := by omega
  obtain ⟨b, o, ha, hF, hcell⟩ := hx k xs[k] (List.getElem?_eq_getElem hk')
  exact ⟨b, o, xs[k], ha, hF, List.getElem?_eq_getElem hk', hcell⟩
/-- all cells of a slice that is no nil, as the laws on append ask for them -/
theorem Sl.src {ad : Addr} {c : Nat} (h : Sl w F sz (.slice (some ad) n c) n xs) : ∀ j u, xs[j]? = some u → w.cell? (ad.add j) = some u := by
  obtain ⟨hl, A', c', e, _, _, hx⟩ := h
  cases e
  intro j u hu
  obtain ⟨b, o, ha, hF, hcell⟩ := hx j u hu
  cases ha
  rw [addr_add]; exact hcell
theorem Sl.of_own {base : Nat} {e : TypeId} (h : w.ownsRow base e sz v n xs) : Sl w (fun k => v.ownBlock = some k) sz v n xs := by
  have hh := h
  obtain ⟨hl, h⟩ := h
  rcases h with ⟨rfl, rfl⟩ | ⟨g, cap, cur, rfl, hb, hg, hn, hm, hs, ht⟩
  · exact ⟨hl, none, 0, rfl, Nat.le_refl _, fun _ => rfl, fun i u hu => by
      have : xs = [] := List.eq_nil_of_length_eq_zero (by simpa using hl)
      subst this; simp at hu⟩
  · refine ⟨hl, some ⟨g, 0, none⟩, cap, rfl, hn, (fun h => by cases h), fun i u hu => ⟨g, 0, rfl, rfl, ?_⟩⟩
    have := hh.cells (g := g) rfl i u hu
    rwa [addr_add] at this
end

/-- a block that is known whole, as a slice over all of it -/
theorem Blk.sl {w : World} {g : Nat} {t : TypeId} {cs : List Value} (h : Blk w g t cs) (sz n : Nat) (hn : cs.length = n * sz) : Sl w (fun k => k = g) sz (.slice (some ⟨g, 0, none⟩) n n) n cs :=
  ⟨hn, some ⟨g, 0, none⟩, n, rfl, Nat.le_refl _, (fun h => by cases h), fun i u hu => ⟨g, 0, rfl, rfl, by rw [Nat.zero_add]; exact (h.cell i).trans hu⟩⟩

/-- an argument's slice of integers, as the builder hands it over -/
theorem sl_of_ints {w : World} {x : Addr} {len cap : Nat} {zs : List Int} (hl : len ≤ cap) (hz : zs.length = cap)
    (hcell : ∀ i, i < zs.length → w.cell? (x.add i) = some (.int .i64 (zs.getD i 0))) (hw : ∀ n ∈ zs, (Lit.int .i64 n).wf = true) :
    ∃ l : List Int, l.length = len ∧ Sl w (fun k => k < w.heap.size) 1 (.slice (some x) len cap) len (l.map (.int .i64)) ∧ ∀ n ∈ l, (Lit.int .i64 n).wf = true := by
  refine ⟨zs.take len, by simp; omega, ⟨by simp; omega, some x, cap, rfl, hl, (fun h => by cases h), fun i u hu => ?_⟩, fun n hn => hw n (List.mem_of_mem_take hn)⟩
  have hi : i < len := by
    have := (List.getElem?_eq_some_iff.1 hu).1
    simp at this; omega
  have hc := hcell i (by omega)
  have h0 := hcell 0 (by omega)
  have hb := World.block_lt_of_cell? _ _ h0
  obtain ⟨b, o, sp⟩ := x
  have hsp : sp = none := by
    cases sp with
    | none => rfl
    | some s => simp [World.cell?, Addr.add] at h0; split at h0 <;> simp at h0
  subst hsp
  rw [addr_add] at hc h0 hb
  refine ⟨b, o, rfl, by simpa using hb, ?_⟩
  rw [hc]
  rw [List.getElem?_map, List.getElem?_take_of_lt hi, List.getElem?_eq_getElem (by omega)] at hu
  simp at hu
  rw [← hu]
  simp [List.getD, show i < zs.length by omega]

/-- the row after one more element -/
theorem own_more {w' : World} {base : Nat} {e : TypeId} {v' : Value} {k : Nat} {l : List Int} {f : Int → Value} (hk : k < l.length)
    (h : w'.ownsRow base e 1 v' (k + 1) ((l.take k).map f ++ [f (l.getD k 0)])) : ∃ A c, v' = .slice A (k + 1) c ∧ w'.ownsRow base e 1 (.slice A (k + 1) c) (k + 1) ((l.take (k + 1)).map f) := by
  have e1 : (l.take k).map f ++ [f (l.getD k 0)] = (l.take (k + 1)).map f := by
    rw [List.take_succ_eq_append_getElem hk, List.map_append, show l.getD k 0 = l[k] by simp [List.getD, hk]]; rfl
  rw [e1] at h
  obtain ⟨A, c, rfl, _⟩ := (Sl.of_own h).form
  exact ⟨A, c, rfl, h⟩

theorem World.setCell_self {w : World} {a : Addr} {v : Value} (h : w.cell? a = some v) : w.setCell a v = w := by
  unfold World.cell? at h
  split at h
  · rename_i c e f hb
    have hs : a.spot.isSome = false := by
      cases hs : a.spot.isSome with
      | false => rfl
      | true => simp [hs] at h
    rw [hs] at h
    simp only [Bool.false_eq_true, if_false] at h
    have : w.heap.modify a.block (fun | .cells c elem frozen => .cells (if a.spot.isSome then c else c.setIfInBounds a.off v) elem frozen | o => o) = w.heap := by
      apply Array.ext_getElem?
      intro i
      rw [Array.getElem?_modify]
      split
      · rename_i hi
        subst hi
        rw [hb]
        simp only [Option.map_some, hs, Bool.false_eq_true, if_false]
        congr 2
        apply Array.ext_getElem?
        intro j
        rw [Array.getElem?_setIfInBounds]
        split
        · rename_i hj
          subst hj
          split
          · exact h.symm
          · rename_i hlt
            rw [Array.getElem?_eq_none (by omega)] at h
            cases h
        · rfl
      · rfl
    exact congrArg (fun x : Array Obj => ({ w with heap := x } : World)) this
  · cases h

/-- Nothing that was there has turned, and these cells hold what they held: over one more step. -/
theorem held5 {w w1 w2 : World} {a0 a1 a2 a3 a4 : Addr} {v0 v1 v2 v3 v4 : Value} (hf : Frm (fun _ => False) w1 w2)
    (h : Frm (fun _ => False) w w1 ∧ w1.cell? a0 = some v0 ∧ w1.cell? a1 = some v1 ∧ w1.cell? a2 = some v2 ∧ w1.cell? a3 = some v3 ∧ w1.cell? a4 = some v4) :
    Frm (fun _ => False) w w2 ∧ w2.cell? a0 = some v0 ∧ w2.cell? a1 = some v1 ∧ w2.cell? a2 = some v2 ∧ w2.cell? a3 = some v3 ∧ w2.cell? a4 = some v4 :=
  ⟨h.1.trans hf, hf.cell h.2.1 id, hf.cell h.2.2.1 id, hf.cell h.2.2.2.1 id, hf.cell h.2.2.2.2.1 id, hf.cell h.2.2.2.2.2 id⟩

theorem ret_int {k : IntKind} {a b : Int} (h : a = b) : Ending.returned (.int k a) = .returned (.int k b) := by rw [h]
theorem ret_bool {a b : Bool} (h : a = b) : Ending.returned (.bool a) = .returned (.bool b) := by rw [h]

end Go.Proofs.YtkjlgamggkencaaDoor

namespace Go.Proofs.YtkjlgamggkencaaDoor
open Go.RowKit

/-- the row after one more element, as the walk spells it -/
theorem own_step {w' : World} {base : Nat} {e : TypeId} {v' : Value} {k : Nat} {l : List Int} {f : Int → Value} {u : Value} (hk : k < l.length) (hu : u = f (l.getD k 0))
    (h : w'.ownsRow base e 1 v' (k + 1) ((l.map f).take k ++ [u])) : ∃ A c, v' = .slice A (k + 1) c ∧ w'.ownsRow base e 1 (.slice A (k + 1) c) (k + 1) ((l.map f).take (k + 1)) := by
  have e1 : (l.map f).take k ++ [u] = (l.map f).take (k + 1) := by
    rw [hu, List.take_succ_eq_append_getElem (by simpa using hk)]; simp [List.getD, hk]
  rw [e1] at h
  obtain ⟨A, c, rfl, _⟩ := (Sl.of_own h).form
  exact ⟨A, c, rfl, h⟩

/-- an owned row, as a slice that is read -/
theorem own_sl {w : World} {base : Nat} {e : TypeId} {sz n : Nat} {v : Value} {xs : List Value} (h : w.ownsRow base e sz v n xs) : Sl w (fun k => base ≤ k ∧ k < w.heap.size) sz v n xs :=
  (Sl.of_own h).mono fun k _ hk => h.lt k hk

/-- an owned row stays owned over a step that leaves its block alone -/
theorem own_frm {w w' : World} {base : Nat} {e : TypeId} {sz n : Nat} {v : Value} {xs : List Value} {S : Nat → Prop} (h : w.ownsRow base e sz v n xs) (hf : Frm S w w') (hd : ∀ k, v.ownBlock = some k → ¬ S k) : w'.ownsRow base e sz v n xs := by
  refine ⟨h.1, ?_⟩
  have hlt := h.lt
  rcases h.2 with hn | ⟨g, cap, cur, rfl, hb, hg, rest⟩
  · exact .inl hn
  · exact .inr ⟨g, cap, cur, rfl, hb, (hf.block g (hlt g rfl).2 (hd g rfl)).trans hg, rest⟩

end Go.Proofs.YtkjlgamggkencaaDoor

namespace Go.Proofs.YtkjlgamggkencaaDoor
open Go.RowKit

theorem at_getD {l : List Int} {k : Nat} {u : Value} (h : (l.map (Value.int .i64))[k]? = some u) : u = .int .i64 (l.getD k 0) := by
  rw [List.getElem?_map] at h
  cases hg : l[k]? with
  | none => rw [hg] at h; cases h
  | some x => rw [hg] at h; simp at h; rw [← h, List.getD, hg]; rfl

theorem emod_of_tmod (n b : Int) (hb : 0 < b) : n % b = if n.tmod b < 0 then n.tmod b + b else n.tmod b := by
  have h1 := Int.emod_nonneg n (Int.ne_of_gt hb)
  have h2 := Int.emod_lt_of_pos n hb
  rw [Int.tmod_eq_emod]
  split <;> split <;> omega

theorem tmod_bounds (n b : Int) (hb : 0 < b) : -b < n.tmod b ∧ n.tmod b < b := by
  have h1 := Int.emod_nonneg n (Int.ne_of_gt hb)
  have h2 := Int.emod_lt_of_pos n hb
  rw [Int.tmod_eq_emod]
  split <;> omega

set_option maxHeartbeats 400000 in
theorem number_any (n b : Int) (w : World) (hb : 0 < b) (hb2 : b ≤ 4611686018427387904) :
    Calls Tryd.prog 40 #[.int .i64 n, .int .i64 b] w fun e w' => e = .returned (.int .i64 (n % b)) ∧ w = w' := by
  have ht := tmod_bounds n b hb
  have hb0 : (b == 0) = false := by simp; omega
  have hb1 : (b == -1) = false := by simp; omega
  have HE := Lib.hid (emod_of_tmod n b hb)
  go_enter Tryd.func40, Tryd.ntmps40
  go_wp2
  all_goals go_ret
  · exact ⟨ret_int (by rw [HE.out, if_pos (by assumption)]), rfl⟩
  · exact ⟨ret_int (by rw [HE.out, if_neg (by omega)]), rfl⟩

end Go.Proofs.YtkjlgamggkencaaDoor

