/-
  Circuit of a graph, of the reference's.
-/
import Derived.Test.YtkjlgamggkencaaDoorMRefAll
import Derived.Test.YtkjlgamggkencaaDoorMSame
namespace Go.Proofs.YtkjlgamggkencaaDoor
open Go.RowKit

/-- a circuit's value, its rows in blocks of F -/
def IsC (w : World) (F : Nat → Prop) (v : Value) (n : Int) (ands : List (Int × Int)) (outs : List Int) : Prop :=
  ∃ A c B d, v = cv n A ands.length c B outs.length d ∧ Sl w F 2 (.slice A ands.length c) ands.length (pairs ands) ∧ Sl w F 1 (.slice B outs.length d) outs.length (outs.map (.int .i64))
theorem IsC.frm {S F : Nat → Prop} {w w' : World} {v : Value} {n : Int} {ands : List (Int × Int)} {outs : List Int} (h : IsC w F v n ands outs) (hf : Frm S w w') (hd : ∀ k, F k → ¬ S k) : IsC w' F v n ands outs := by
  obtain ⟨A, c, B, d, e, h1, h2⟩ := h; exact ⟨A, c, B, d, e, h1.frm hf hd, h2.frm hf hd⟩
theorem IsC.mono {F G : Nat → Prop} {w : World} {v : Value} {n : Int} {ands : List (Int × Int)} {outs : List Int} (h : IsC w F v n ands outs) (hd : ∀ k, k < w.heap.size → F k → G k) : IsC w G v n ands outs := by
  obtain ⟨A, c, B, d, e, h1, h2⟩ := h; exact ⟨A, c, B, d, e, h1.mono hd, h2.mono hd⟩

/-- what Circuit's steps leave as it was -/
theorem heldC {w w1 w2 : World} {gb : Nat} {v0 v1 : Value} (hg : gb < w.heap.size) (hf : Frm (fun k => k = w.heap.size) w1 w2)
    (h : Frm (fun _ => False) w w1 ∧ w1.cell? ⟨gb, 0, none⟩ = some v0 ∧ w1.cell? ⟨gb, 1, none⟩ = some v1) :
    Frm (fun _ => False) w w2 ∧ w2.cell? ⟨gb, 0, none⟩ = some v0 ∧ w2.cell? ⟨gb, 1, none⟩ = some v1 := by
  obtain ⟨h0, h1, h2⟩ := h
  exact ⟨h0.then' hf (fun k hk e => by omega), hf.cell h1 (fun e => by simp at e; omega), hf.cell h2 (fun e => by simp at e; omega)⟩
theorem Frm.any {S : Nat → Prop} {w w' : World} (h : Frm (fun _ => False) w w') : Frm S w w' := h.mono fun _ _ h => h.elim

set_option maxRecDepth 100000 in
set_option maxHeartbeats 1000000 in
theorem circuit_any (E : Nat → Value) (fp : Nat → Prop) (gb : Nat) (g : Gr) (w : World) (hG : IsGr E w fp gb g) (A0 : Option Addr) (k c0 : Nat) (F : Nat → Prop) (l : List Int) (hk : l.length = k) (hb : k ≤ 1000000) (hs : Sl w F 1 (.slice A0 k c0) k (l.map (.int .i64))) :
    Calls Tryd.prog 37 #[.pointer (some ⟨gb, 0, none⟩), .slice A0 k c0] w fun e w' => ∃ v, e = .returned v ∧ IsC w' (fun k => w.heap.size ≤ k) v g.n g.ands l ∧ Frm (fun _ => False) w w' := by
  obtain ⟨ok, A, c, mb, m, D, hbk, hr, hm, hml, hD, f1, f2, f3⟩ := hG
  have hn : g.n + g.ands.length ≤ 8000 := ok.len
  have c0' := hbk.at_ 0 rfl
  have c1 := hbk.at_ 1 rfl
  have hsl := own_sl hr
  have hgw := hbk.lt
  have HX := Lib.hid (fun (W : World) (h : Frm (fun _ => False) w W) => clone2_any (.slice A g.ands.length c) _ g.ands.length g.ands W rfl (by omega) (hsl.frm h (fun _ _ => id)))
  have HY := Lib.hid (fun (W : World) (h : Frm (fun _ => False) w W) => clone_any (.slice A0 k c0) F k l W hk hb (hs.frm h (fun _ _ => id)))
  clear hbk hr hm hsl hs
  go_enter Tryd.func37, Tryd.ntmps37
  go_wp2_with fail
  have hb0 : Blk (w.alloc (.cells #[.int .i64 0, .slice none 0 0, .slice none 0 0] 40)) w.heap.size 40 [.int .i64 0, .slice none 0 0, .slice none 0 0] := Blk.new _ _ _
  have hf0 := (Frm.refl (fun _ => False) w).alloc (.cells #[.int .i64 0, .slice none 0 0, .slice none 0 0] 40)
  have hheld : ∀ W : World, W = w.alloc (.cells #[.int .i64 0, .slice none 0 0, .slice none 0 0] 40) → Frm (fun _ => False) w W.drew ∧ W.drew.cell? ⟨gb, 0, none⟩ = some (.int .i64 (g.n : Int)) ∧ W.drew.cell? ⟨gb, 1, none⟩ = some (.slice A g.ands.length c) := by
    rintro W rfl
    exact ⟨hf0.drew, hf0.drew.cell c0' id, hf0.drew.cell c1 id⟩
  have HH := Lib.hid hheld
  have HB := Lib.hid hb0
  clear hheld hb0 hf0
  go_region_held3 (fun w' => Frm (fun _ => False) w w' ∧ w'.cell? ⟨gb, 0, none⟩ = some (.int .i64 (g.n : Int)) ∧ w'.cell? ⟨gb, 1, none⟩ = some (.slice A g.ands.length c))
    (first | exact HH.out _ rfl | exact heldC hgw hf1.any (by assumption) | exact heldC hgw hf2.any (by assumption) | exact heldC hgw hf3 (by assumption))
    (first
      | (go_at_call 105; refine (HX.out _ (And.left (by assumption : Frm (fun _ => False) w _ ∧ _))).mono ?_; rintro e w1 ⟨A1, c1', rfl, hs1, hf1⟩; have hb1 := HB.out.drewN 1 |>.frm hf1 id)
      | (go_at_call 106; refine (HY.out _ (And.left (by assumption : Frm (fun _ => False) w _ ∧ _))).mono ?_; rintro e w2 ⟨A2, c2', rfl, hs2, hf2⟩; have hb2 := hb1.frm hf2 id; have r0 := hb2.at_ 0 rfl; have r1 := hb2.at_ 1 rfl; have r2 := hb2.at_ 2 rfl; have z0 := hb2.frozen 0; have z1 := hb2.frozen 1; have z2 := hb2.frozen 2; have hf3 := (((Frm.refl (fun k => k = w.heap.size) w2).setCell (p := ⟨w.heap.size, 0, none⟩) (fun _ => rfl) (.int .i64 (g.n : Int))).setCell (p := ⟨w.heap.size, 1, none⟩) (fun _ => rfl) (.slice A1 g.ands.length c1')).setCell (p := ⟨w.heap.size, 2, none⟩) (fun _ => rfl) (.slice A2 k c2')))
  have hb3 := ((hb2.set_ 0 (.int .i64 (g.n : Int))).set_ 1 (.slice A1 g.ands.length c1')).set_ 2 (.slice A2 k c2')
  have d0 := hb3.at_ 0 rfl
  have d1 := hb3.at_ 1 rfl
  have d2 := hb3.at_ 2 rfl
  have z1' := hf1.size
  simp at z1'
  clear r0 r1 r2 hb1 hb2 hb3 z0 z1 z2
  obtain rfl := hk
  go_wp2_with fail
  refine bodyPost_ret (v := cv g.n A1 g.ands.length c1' A2 l.length c2') (by simp [results, Tryd.results37, go_sem, d0, d1, d2]) rfl ⟨_, rfl, ⟨_, _, _, _, rfl, ?_, ?_⟩, ?_⟩
  · exact (((hs1.mono (G := fun k => w.heap.size + 1 ≤ k) (fun k _ h => by simpa using h)).frm hf2 (fun _ _ => id)).frm hf3 (fun k h e => by omega)).mono (fun k _ h => by omega)
  · exact ((hs2.mono (G := fun k => w.heap.size + 1 ≤ k) (fun k _ h => by omega)).frm hf3 (fun k h e => by omega)).mono (fun k _ h => by omega)
  · exact ((((Frm.refl (fun _ => False) w).alloc _).drew.trans hf1).trans hf2).then' hf3 (fun k h e => by omega)


theorem xInts_any (A0 : Option Addr) (n c0 : Nat) (F : Nat → Prop) (l : List Int) (w : World) (hn : l.length = n) (hb : n ≤ 1000000) (hs : Sl w F 1 (.slice A0 n c0) n (l.map (.int .i64))) :
    Calls Tryd.prog 108 #[.slice A0 n c0] w fun e w' => ∃ A c, e = .returned (.slice A n c) ∧ Sl w' (fun k => w.heap.size ≤ k) 1 (.slice A n c) n (l.map (.int .i64)) ∧ Frm (fun _ => False) w w' :=
  (ints_any A0 n c0 F l w hn hb hs).mono fun _ _ ⟨A, c, h1, h2, h3⟩ => ⟨A, c, h1, (own_sl h2).mono (fun _ _ h => h.1), h3⟩
theorem xPairs_any (A0 : Option Addr) (n c0 : Nat) (F : Nat → Prop) (l : List (Int × Int)) (w : World) (hn : l.length = n) (hb : n ≤ 1000000) (hs : Sl w F 2 (.slice A0 n c0) n (pairs l)) :
    Calls Tryd.prog 79 #[.slice A0 n c0] w fun e w' => ∃ A c, e = .returned (.slice A n c) ∧ Sl w' (fun k => w.heap.size ≤ k) 2 (.slice A n c) n (pairs l) ∧ Frm (fun _ => False) w w' :=
  (pairs_any A0 n c0 F l w hn hb hs).mono fun _ _ ⟨A, c, h1, h2, h3⟩ => ⟨A, c, h1, (own_sl h2).mono (fun _ _ h => h.1), h3⟩

set_option maxRecDepth 100000 in
set_option maxHeartbeats 1000000 in
theorem xcircuit_any (xp : Nat → Prop) (gb : Nat) (g : Gr) (w : World) (hG : IsX w xp gb g) (A0 : Option Addr) (k c0 : Nat) (F : Nat → Prop) (l : List Int) (hk : l.length = k) (hb : k ≤ 1000000) (hs : Sl w F 1 (.slice A0 k c0) k (l.map (.int .i64))) :
    Calls Tryd.prog 39 #[.pointer (some ⟨gb, 0, none⟩), .slice A0 k c0] w fun e w' => ∃ v, e = .returned v ∧ IsC w' (fun k => w.heap.size ≤ k) v g.n g.ands l ∧ Frm (fun _ => False) w w' := by
  obtain ⟨hn, hx1, A, c, hbk, hsl⟩ := hG
  have c0' := hbk.at_ 0 rfl
  have c1 := hbk.at_ 1 rfl
  have hgw := hbk.lt
  have HX := Lib.hid (fun (W : World) (h : Frm (fun _ => False) w W) => xPairs_any A g.ands.length c _ g.ands W rfl (by omega) (hsl.frm h (fun _ _ => id)))
  have HY := Lib.hid (fun (W : World) (h : Frm (fun _ => False) w W) => xInts_any A0 k c0 F l W hk hb (hs.frm h (fun _ _ => id)))
  clear hbk hsl hs
  go_enter Tryd.func39, Tryd.ntmps39
  go_wp2_with fail
  have hb0 : Blk (w.alloc (.cells #[.int .i64 0, .slice none 0 0, .slice none 0 0] 40)) w.heap.size 40 [.int .i64 0, .slice none 0 0, .slice none 0 0] := Blk.new _ _ _
  have hf0 := (Frm.refl (fun _ => False) w).alloc (.cells #[.int .i64 0, .slice none 0 0, .slice none 0 0] 40)
  have hheld : ∀ W : World, W = w.alloc (.cells #[.int .i64 0, .slice none 0 0, .slice none 0 0] 40) → Frm (fun _ => False) w W.drew ∧ W.drew.cell? ⟨gb, 0, none⟩ = some (.int .i64 (g.n : Int)) ∧ W.drew.cell? ⟨gb, 1, none⟩ = some (.slice A g.ands.length c) := by
    rintro W rfl
    exact ⟨hf0.drew, hf0.drew.cell c0' id, hf0.drew.cell c1 id⟩
  have HH := Lib.hid hheld
  have HB := Lib.hid hb0
  clear hheld hb0 hf0
  go_region_held3 (fun w' => Frm (fun _ => False) w w' ∧ w'.cell? ⟨gb, 0, none⟩ = some (.int .i64 (g.n : Int)) ∧ w'.cell? ⟨gb, 1, none⟩ = some (.slice A g.ands.length c))
    (first | exact HH.out _ rfl | exact heldC hgw hf1.any (by assumption) | exact heldC hgw hf2.any (by assumption) | exact heldC hgw hf3 (by assumption))
    (first
      | (go_at_call 79; refine (HX.out _ (And.left (by assumption : Frm (fun _ => False) w _ ∧ _))).mono ?_; rintro e w1 ⟨A1, c1', rfl, hs1, hf1⟩; have hb1 := HB.out.drewN 1 |>.frm hf1 id)
      | (go_at_call 108; refine (HY.out _ (And.left (by assumption : Frm (fun _ => False) w _ ∧ _))).mono ?_; rintro e w2 ⟨A2, c2', rfl, hs2, hf2⟩; have hb2 := hb1.frm hf2 id; have r0 := hb2.at_ 0 rfl; have r1 := hb2.at_ 1 rfl; have r2 := hb2.at_ 2 rfl; have z0 := hb2.frozen 0; have z1 := hb2.frozen 1; have z2 := hb2.frozen 2; have hf3 := (((Frm.refl (fun k => k = w.heap.size) w2).setCell (p := ⟨w.heap.size, 0, none⟩) (fun _ => rfl) (.int .i64 (g.n : Int))).setCell (p := ⟨w.heap.size, 1, none⟩) (fun _ => rfl) (.slice A1 g.ands.length c1')).setCell (p := ⟨w.heap.size, 2, none⟩) (fun _ => rfl) (.slice A2 k c2')))
  have hb3 := ((hb2.set_ 0 (.int .i64 (g.n : Int))).set_ 1 (.slice A1 g.ands.length c1')).set_ 2 (.slice A2 k c2')
  have d0 := hb3.at_ 0 rfl
  have d1 := hb3.at_ 1 rfl
  have d2 := hb3.at_ 2 rfl
  have z1' := hf1.size
  simp at z1'
  clear r0 r1 r2 hb1 hb2 hb3 z0 z1 z2
  obtain rfl := hk
  go_wp2_with fail
  refine bodyPost_ret (v := cv g.n A1 g.ands.length c1' A2 l.length c2') (by simp [results, Tryd.results39, go_sem, d0, d1, d2]) rfl ⟨_, rfl, ⟨_, _, _, _, rfl, ?_, ?_⟩, ?_⟩
  · exact (((hs1.mono (G := fun k => w.heap.size + 1 ≤ k) (fun k _ h => by simpa using h)).frm hf2 (fun _ _ => id)).frm hf3 (fun k h e => by omega)).mono (fun k _ h => by omega)
  · exact ((hs2.mono (G := fun k => w.heap.size + 1 ≤ k) (fun k _ h => by omega)).frm hf3 (fun k h e => by omega)).mono (fun k _ h => by omega)
  · exact ((((Frm.refl (fun _ => False) w).alloc _).drew.trans hf1).trans hf2).then' hf3 (fun k h e => by omega)


theorem sameCircuit_any {F G : Nat → Prop} {u v : Value} {n : Int} {ands : List (Int × Int)} {outs : List Int} {w : World} (hm : ands.length ≤ 1000000) (hk : outs.length ≤ 1000000) (h1 : IsC w F u n ands outs) (h2 : IsC w G v n ands outs) :
    Calls Tryd.prog 38 #[u, v] w fun e w' => e = .returned (.bool true) ∧ Frm (fun _ => False) w w' := by
  obtain ⟨A, c, B, d, rfl, a1, b1⟩ := h1
  obtain ⟨A', c', B', d', rfl, a2, b2⟩ := h2
  exact sameCircuit_eq n A A' B B' _ _ c c' d d' _ _ _ _ ands outs w hm hk rfl a1 a2 b1 b2

end Go.Proofs.YtkjlgamggkencaaDoor
