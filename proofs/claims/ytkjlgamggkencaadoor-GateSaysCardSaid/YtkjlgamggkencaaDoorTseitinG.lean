/-
  The contract of package tseitin's Gate.
-/
import Derived.Test.YtkjlgamggkencaaDoorTseitinC
import Derived.Deep.Cut
import Derived.Deep.CutRange
namespace Go.Proofs.YtkjlgamggkencaaDoor
open Go.RowKit

/-- what Gate's region leaves as it was -/
def GS (w : World) (q : Nat) (a b : Int) (w' : World) : Prop := Frm (fun _ => False) w w' ∧ w'.cell? ⟨q, 0, none⟩ = some (.int .i64 a) ∧ w'.cell? ⟨q, 1, none⟩ = some (.int .i64 b)
theorem GS.alloc {w w' : World} {q : Nat} {a b : Int} (h : GS w q a b w') (o : Obj) : GS w q a b (w'.alloc o) :=
  ⟨h.1.alloc o, (World.cell?_alloc_lt _ _ _ (World.block_lt_of_cell? _ _ h.2.1)).trans h.2.1, (World.cell?_alloc_lt _ _ _ (World.block_lt_of_cell? _ _ h.2.2)).trans h.2.2⟩

theorem infoInts : (Tryd.prog.info? 22).map (fun i => (i.zero, i.size, i.bytes)) = some (some (.slice none 0 0), 1, 24) := by kernel_rfl
theorem small_not {x : Int} (h : Small x) : notL x < 9223372036854775808 := by obtain ⟨h1, h2⟩ := h; unfold notL; split <;> omega
theorem gate3_small {n a b : Int} (hn : Small n) (ha : Small a) (hb : Small b) : ∀ l ∈ gate3 n (a, b), l.length ≤ 3 ∧ ∀ x ∈ l, x < 9223372036854775808 := by
  have k1 := small_not hn
  have k2 := small_not ha
  have k3 := small_not hb
  have j1 := hn.2
  have j2 := ha.2
  have j3 := hb.2
  intro l hl
  simp only [gate3, List.mem_cons, List.not_mem_nil, or_false] at hl
  rcases hl with rfl | rfl | rfl <;> refine ⟨by simp, ?_⟩ <;> intro x hx <;> simp only [List.mem_cons, List.not_mem_nil, or_false] at hx <;> rcases hx with rfl | rfl | rfl <;> omega

theorem Rw.drew {w : World} {F : Nat → Prop} {v : Value} {n : Nat} {cs : List (List Int)} (h : Rw w F v n cs) : Rw w.drew F v n cs := h.frm ((Frm.refl (fun _ => False) w).drew) (fun _ _ => id)
/-- three rows in blocks of their own -/
theorem gate_rows {W : World} {B b1 b2 b3 b4 : Nat} {n a b : Int} (h1 : Blk W b1 3 [.int .i64 (notL n), .int .i64 a]) (h2 : Blk W b2 3 [.int .i64 (notL n), .int .i64 b]) (h3 : Blk W b3 3 [.int .i64 n, .int .i64 (notL a), .int .i64 (notL b)])
    (h4 : Blk W b4 22 [.slice (some ⟨b1, 0, none⟩) 2 2, .slice (some ⟨b2, 0, none⟩) 2 2, .slice (some ⟨b3, 0, none⟩) 3 3]) (g1 : B ≤ b1) (g2 : B ≤ b2) (g3 : B ≤ b3) (g4 : B ≤ b4) :
    Rw W (fun k => B ≤ k) (.slice (some ⟨b4, 0, none⟩) 3 3) 3 (gate3 n (a, b)) := by
  refine ⟨rfl, _, (h4.sl 1 3 rfl).mono (fun k _ e => by omega), ?_⟩
  have e1 := Each.one (c := [notL n, a]) ((h1.sl 1 2 rfl).mono (G := fun k => B ≤ k) (fun k _ e => by omega))
  have e2 := Each.one (c := [notL n, b]) ((h2.sl 1 2 rfl).mono (G := fun k => B ≤ k) (fun k _ e => by omega))
  have e3 := Each.one (c := [n, notL a, notL b]) ((h3.sl 1 3 rfl).mono (G := fun k => B ≤ k) (fun k _ e => by omega))
  exact e1.append (e2.append e3)

set_option maxRecDepth 100000 in
set_option maxHeartbeats 4000000 in
theorem gate_any (n a b : Int) (hn : Small n) (ha : Small a) (hb : Small b) (w : World) :
    Calls Tryd.prog 111 #[.int .i64 n, .agg #[.int .i64 a, .int .i64 b]] w fun e w' => ∃ A c, e = .returned (.slice A (gateC n (a, b)).length c) ∧ Rw w' (fun k => w.heap.size ≤ k) (.slice A (gateC n (a, b)).length c) (gateC n (a, b)).length (gateC n (a, b)) ∧ Frm (fun _ => False) w w' := by
  have HN := Lib.hid (fun (x : Int) (h : Small x) (W : World) => not_any x h W)
  have HS := Lib.hid (And.intro hn (And.intro ha hb))
  clear hn ha hb
  go_enter Tryd.func111, Tryd.ntmps111
  go_upto_region 3 with (fail)
  go_cut [33, 34, 35] from 11 to 35 (fun t33 t34 t35 wr => ∃ c, t33 = .slice (some c) 3 3 ∧ t34 = .int .i64 3 ∧ t35 = .int .i64 0 ∧ Rw wr (fun k => w.heap.size ≤ k) t33 3 (gate3 n (a, b)) ∧ Frm (fun _ => False) w wr)
  case first =>
    have hb0 : Blk (w.alloc (.cells #[.int .i64 a, .int .i64 b] 73)) w.heap.size 73 [.int .i64 a, .int .i64 b] := Blk.new _ _ _
    have hgs : GS w w.heap.size a b (w.alloc (.cells #[.int .i64 a, .int .i64 b] 73)).drew := ⟨((Frm.refl (fun _ => False) w).alloc _).drew, hb0.at_ 0 rfl, hb0.at_ 1 rfl⟩
    go_region_held3 (fun w' => Frm (fun _ => False) w w' ∧ w'.cell? ⟨w.heap.size, 0, none⟩ = some (.int .i64 a) ∧ w'.cell? ⟨w.heap.size, 1, none⟩ = some (.int .i64 b))
      (first | exact hgs | assumption | exact GS.alloc (by assumption) _)
      (first | (go_at_call 28; refine (HN.out n HS.out.1 _).mono ?_; rintro e w1 ⟨rfl, rfl⟩) | (go_at_call 28; refine (HN.out a HS.out.2.1 _).mono ?_; rintro e w1 ⟨rfl, rfl⟩) | (go_at_call 28; refine (HN.out b HS.out.2.2 _).mono ?_; rintro e w1 ⟨rfl, rfl⟩))
    all_goals (go_wp2_with fail)
    all_goals (go_meet)
    all_goals
      refine ⟨_, rfl, rfl, rfl, Rw.drew (gate_rows ?_ ?_ ?_ (Blk.new_at _ _ _ _ (by simp)) ?_ ?_ ?_ ?_), Frm.drew ((((((Frm.refl _ _).alloc _).alloc _).alloc _).alloc _).alloc _)⟩
      · first | exact ((Blk.new_at _ _ _ _ (by simp; done)).alloc _) | exact ((Blk.new_at _ _ _ _ (by simp; done)).alloc _).alloc _ | exact (((Blk.new_at _ _ _ _ (by simp; done)).alloc _).alloc _).alloc _
      · first | exact ((Blk.new_at _ _ _ _ (by simp; done)).alloc _) | exact ((Blk.new_at _ _ _ _ (by simp; done)).alloc _).alloc _ | exact (((Blk.new_at _ _ _ _ (by simp; done)).alloc _).alloc _).alloc _
      · first | exact ((Blk.new_at _ _ _ _ (by simp; done)).alloc _) | exact ((Blk.new_at _ _ _ _ (by simp; done)).alloc _).alloc _ | exact (((Blk.new_at _ _ _ _ (by simp; done)).alloc _).alloc _).alloc _
      · omega
      · omega
      · omega
      · omega
  case rest =>
    obtain ⟨c, rfl, rfl, rfl, hrw, hf⟩ := hcut
    obtain ⟨i0, hi, hz0, hz1, hz2⟩ := info_parts infoInts
    have hG3 : (gate3 n (a, b)).length = 3 := rfl
    have hel := gate3_small HS.out.1 HS.out.2.1 HS.out.2.2
    have hgc : gateC n (a, b) = (gate3 n (a, b)).filterMap clC := rfl
    have HGC := Lib.hid hgc
    clear hgc
    have HF := Lib.hid hf
    clear hf
    generalize gate3 n (a, b) = L at *

    have HL := Lib.hid hG3
    have HEL := Lib.hid hel
    clear hG3 hel
    go_wp2_with fail
    go_loopw [6, 35] (fun t i wr => ∃ (k m : Nat) (A : Option Addr) (c : Nat), k ≤ 3 ∧ m ≤ k ∧ i = .int .i64 k ∧ t = .slice A m c ∧ RwO wr wc.heap.size 22 (.slice A m c) m ((L.take k).filterMap clC) ∧ Frm (fun _ => False) wc wr) (fun _ i _ => 3 - (intOf i).toNat)
    case atStart => exact ⟨0, 0, _, 0, by omega, by omega, rfl, rfl, RwO.nil_ _ _ _, Frm.refl _ _⟩
    case round =>
      obtain ⟨k, m, A, cc, hk, hmk, rfl, rfl, hO, hfk⟩ := hrel
      by_cases hlt : k < 3
      · have hlt2 : k < L.length := by rw [HL.out]; exact hlt
        obtain ⟨bb, o, B, d, e1, _, hcell, hrow⟩ := (hrw.frm hfk (fun _ _ => id)).at_ hlt
        cases e1
        have hts := filterMap_take hlt2
        have hmem := HEL.out (L.getD k []) (by simp [List.getD, hlt2])
        have HT := Lib.hid hts
        clear hts
        generalize L.getD k [] = l at *
        have k0 : (0 : Int) ≤ k := by omega
        have k1 : (k : Int) < 3 := by omega
        have HC := Lib.hid (clause_any B l.length d _ l wr rfl (by omega) hmem.2 hrow)
        clear hrow
        go_wp2_with fail
        refine HC.out.mono ?_
        generalize clC l = q at *
        rintro e w2 ⟨hcl, hf2⟩
        cases q with
        | none =>
          obtain rfl := hcl
          go_wp2_with fail
          go_roundw
          case rel => exact ⟨k + 1, m, A, cc, by omega, by omega, by go_num, rfl, by rw [HT.out]; simpa using hO.frm hf2 (fun _ _ => id), hfk.trans hf2⟩
          case measure => simp [intOf]; omega
        | some u =>
          obtain ⟨A2, c2, rfl, hs2⟩ := hcl
          have hO2 := hO.frm hf2 (fun _ _ => id)
          obtain ⟨h0, vs, hown, hea⟩ := hO2
          have hsz := hfk.size
          have hob := hO
          obtain ⟨_, vs', hown', _⟩ := hob
          have hown3 := hown'.lt
          clear hown' hO
          go_wp2_with (at_builtin; refine wpList_append_own_at _ rfl (.tmp 45) (.tmp 47) 49 rfl wc.heap.size 22 i0 (.slice none 0 0) 1 24 Tryd.underlying49 hi hz0 hz1 hz2 rfl (by decide) _ _ _ rfl (hown.alloc _) ⟨w2.heap.size, 0, none⟩ 1 1 [.slice A2 u.length c2] rfl rfl (cell_one_new _ _ _) ?c2 ?c3 ?c4 ?c5 ?_)
          case c2 => intro x hx; simp at hx; subst hx; rfl
          case c3 => unfold maxLen; omega
          case c4 => omega
          case c5 => have := hf2.size; simp; omega
          intro v' w3 hown2 hgrow _ h5
          have hal := (Frm.refl (fun _ => False) w2).alloc (.cells #[.slice A2 u.length c2] 22)
          have hmore := RwO.more h0 (hea.frm hal (fun _ _ => id)) (rfl : [u].length = 1) ((Each.one hs2).frm hal (fun _ _ => id)) (fun g _ hg => ⟨by omega, fun e => by have := hown3 g e; omega⟩) hown2 hgrow (h5.imp id fun h => h.trans (by simp))
          have hf3 : Frm (fun _ => False) wc w3 := ((hfk.trans hf2).trans hal).grown hgrow (fun g hg hlt => by have := (hown3 g hg).1; omega)
          obtain ⟨A3, c3, rfl, _⟩ := hmore.form
          clear hgrow hown hown2 hea hal hown3
          go_wp2_with fail
          go_roundw
          case rel => exact ⟨k + 1, m + 1, A3, c3, by omega, by omega, by go_num, rfl, by rw [HT.out]; simpa using hmore, hf3⟩
          case measure => simp [intOf]; omega
      · obtain rfl : 3 = k := by omega
        rw [List.take_of_length_le (by rw [HL.out]; exact Nat.le_refl _), ← HGC.out] at hO
        have hm := hO.1
        have hR := hO.rw
        have hszz := HF.out.size
        subst hm
        clear hO
        go_wp2_with fail
        go_ret
        exact ⟨A, cc, rfl, hR.mono (fun g _ hg => by omega), HF.out.trans hfk⟩

end Go.Proofs.YtkjlgamggkencaaDoor
