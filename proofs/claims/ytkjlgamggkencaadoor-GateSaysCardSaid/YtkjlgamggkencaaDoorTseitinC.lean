/-
  The contracts of package tseitin's Lit, clause, Gate.
-/
import Derived.Test.YtkjlgamggkencaaDoorTseitinP
import Derived.Test.YtkjlgamggkencaaDoorRows2
import Derived.Test.YtkjlgamggkencaaDoorCirc
import Derived.Test.YtkjlgamggkencaaDoorRegion
namespace Go.Proofs.YtkjlgamggkencaaDoor
open Go.RowKit

theorem bits_and_one' (l : Int) (h0 : 0 ≤ l) (h1 : l < 9223372036854775808) : bits .and .i64 l 1 = l % 2 := by
  obtain ⟨a, rfl⟩ := Int.eq_ofNat_of_zero_le h0
  have ha : a % 2 ^ IntKind.i64.bits = a := Nat.mod_eq_of_lt (by simp [IntKind.bits]; omega)
  have h1' : (1 : Int) = ((1 : Nat) : Int) := rfl
  unfold bits
  rw [h1']
  simp only [BitVec.ofInt_natCast, BitVec.toNat_and, BitVec.toNat_ofNat, ha]
  have hp : (2 : Int) ^ 62 = 4611686018427387904 := by decide
  rw [show (1 % 2 ^ IntKind.i64.bits) = 1 from by decide, Nat.and_one_is_mod, wrap_i64_small _ (by omega) (by omega)]
  omega

set_option maxHeartbeats 400000 in
theorem lit_any (l : Int) (hl : l < 9223372036854775808) (w : World) : Calls Tryd.prog 52 #[.int .i64 l] w fun e w' => e = .returned (.int .i64 (litC l)) ∧ w = w' := by
  by_cases h : l < 2
  · have e : litC l = 0 := by unfold litC; rw [if_pos h]
    rw [e]
    clear e
    go_enter Tryd.func52, Tryd.ntmps52
    go_wp2
    go_ret
    exact ⟨rfl, rfl⟩
  · have hand := bits_and_one' l (by omega) hl
    by_cases h1 : l % 2 = 1
    · have e : litC l = -(l / 2) := by unfold litC; rw [if_neg h, if_pos h1]
      rw [e]
      rw [h1] at hand
      have hd : l.tdiv 2 = l / 2 := by rw [Int.tdiv_eq_ediv_of_nonneg (by omega)]
      have hq : 0 ≤ l / 2 ∧ l / 2 < 9223372036854775808 := by omega
      clear e h1
      go_enter Tryd.func52, Tryd.ntmps52
      go_wp2
      go_ret
      exact ⟨rfl, rfl⟩
    · have e : litC l = l / 2 := by unfold litC; rw [if_neg h, if_neg h1]
      rw [e]
      rw [show l % 2 = 0 from by omega] at hand
      have hd : l.tdiv 2 = l / 2 := by rw [Int.tdiv_eq_ediv_of_nonneg (by omega)]
      clear e h1
      go_enter Tryd.func52, Tryd.ntmps52
      go_wp2
      go_ret
      exact ⟨rfl, rfl⟩

/-- the literals up to k that a clause has -/
def clFew (l : List Int) (k : Nat) : List Int := ((l.take k).filter fun x => decide (1 < x)).map litC
theorem clFew_succ {l : List Int} {k : Nat} (hk : k < l.length) : clFew l (k + 1) = if 1 < l.getD k 0 then clFew l k ++ [litC (l.getD k 0)] else clFew l k := by
  unfold clFew
  rw [List.take_succ_eq_append_getElem hk, show l.getD k 0 = l[k] from by simp [List.getD, hk], List.filter_append, List.map_append]
  split
  · rename_i h; simp [h]
  · rename_i h; simp [h]
theorem clFew_length (l : List Int) (k : Nat) (hk : k ≤ l.length) : (clFew l k).length ≤ k := by
  unfold clFew
  rw [List.length_map]
  have := List.length_filter_le (fun x => decide (1 < x)) (l.take k)
  rw [List.length_take] at this
  omega

/-- what clause hands back -/
def Cl (w w' : World) (e : Ending) (o : Option (List Int)) : Prop :=
  match o with
  | none => e = .returned (.tuple #[.slice none 0 0, .bool false])
  | some o => ∃ A c, e = .returned (.tuple #[.slice A o.length c, .bool true]) ∧ Sl w' (fun k => w.heap.size ≤ k) 1 (.slice A o.length c) o.length (o.map (.int .i64))

set_option maxRecDepth 100000 in
set_option maxHeartbeats 2000000 in
theorem clause_any (A0 : Option Addr) (n c0 : Nat) (F : Nat → Prop) (l : List Int) (w : World) (hn : l.length = n) (hb : n ≤ 1000000) (hx : ∀ x ∈ l, x < 9223372036854775808) (hs : Sl w F 1 (.slice A0 n c0) n (l.map (.int .i64))) :
    Calls Tryd.prog 112 #[.slice A0 n c0] w fun e w' => Cl w w' e (clC l) ∧ Frm (fun _ => False) w w' := by
  obtain ⟨i0, hi, hz0, hz1, hz2⟩ := info_parts infoIntG
  have HN := Lib.hid hn
  have HX := Lib.hid hx
  have HC := Lib.hid (rfl : clC l = clC l)
  clear hn hx
  go_enter Tryd.func112, Tryd.ntmps112
  go_wp2_with (at_make; refine wpList_make_own _ rfl _ _ 22 rfl w.heap.size 3 i0 (.int .i64 0) 1 Tryd.underlying22 hi hz0 hz1 .i64 .i64 _ n rfl rfl (by omega) (by rw [hz2]; omega) (by unfold maxLen; omega) (Nat.le_refl _) ?_; intro w0 hown0 hgrow0)
  have hf0 : Frm (fun _ => False) w w0 := (Frm.refl _ w).grown hgrow0 (fun k hk hlt => by cases hk)
  go_loopw [4, 12] (fun t i wr => ∃ (k m : Nat) (A : Option Addr) (c : Nat), k ≤ n ∧ i = .int .i64 k ∧ t = .slice A m c ∧ m = (clFew l k).length ∧ (∀ j, j < k → l.getD j 0 ≠ 1) ∧ wr.ownsRow w.heap.size 3 1 (.slice A m c) m ((clFew l k).map (.int .i64)) ∧ Frm (fun _ => False) w wr) (fun _ i _ => n - (intOf i).toNat)
  case atStart => exact ⟨0, 0, _, n, by omega, rfl, rfl, rfl, fun j hj => absurd hj (Nat.not_lt_zero _), by simpa [clFew] using hown0, hf0⟩
  case round =>
    obtain ⟨k, m, A, c, hk, rfl, rfl, hm, hno, hown, hfk⟩ := hrel
    have HM := Lib.hid hm
    have HNO := Lib.hid hno
    clear hm hno
    by_cases hlt : k < n
    · have hlt2 : k < l.length := by rw [HN.out]; exact hlt
      have sk := hs.frm hfk (fun _ _ => id)
      obtain ⟨b, o, u, rfl, hbF, hu, hcell⟩ := sk.at_ hlt
      obtain rfl := at_getD hu
      have hsu := clFew_succ hlt2
      have hxk := HX.out (l.getD k 0) (by simp [List.getD, hlt2])
      have hmk := clFew_length l k (by omega)
      have hmem : l.getD k 0 ∈ l := by simp [List.getD, hlt2]
      clear hu hbF sk
      obtain ⟨x, hx⟩ : ∃ x, x = l.getD k 0 := ⟨_, rfl⟩
      rw [← hx] at hcell hsu hxk hmem
      have HXX := Lib.hid hx
      have HSU := Lib.hid hsu
      clear hx hsu
      have hm0 := HM.out
      have hmn : m ≤ n := by omega
      clear hm0 hmk
      by_cases h1 : x = 1
      · subst h1
        have hcl : clC l = none := by unfold clC; rw [if_pos hmem]
        have HCL := Lib.hid hcl
        clear hcl hmem hxk
        go_wp2_with fail
        refine bodyPost_ret (v := .tuple #[.slice none 0 0, .bool false]) (by simp [results, Tryd.results112, go_sem]) rfl ⟨by rw [HCL.out]; rfl, hfk⟩
      · have hno2 : ∀ j, j < k + 1 → l.getD j 0 ≠ 1 := by
          intro j hj
          rcases Nat.lt_or_ge j k with h | h
          · exact HNO.out j h
          · obtain rfl : j = k := by omega
            rw [← HXX.out]; exact h1
        have HNO2 := Lib.hid hno2
        have hx1 : (x == 1) = false := by simpa using h1
        clear hno2 hmem h1
        by_cases h2 : 1 < x
        · have hsu : clFew l (k + 1) = clFew l k ++ [litC x] := by rw [HSU.out, if_pos h2]
          have HSU2 := Lib.hid hsu
          clear hsu
          go_wp2_with fail
          refine (lit_any x hxk _).mono ?_
          rintro e w' ⟨rfl, rfl⟩
          generalize litC x = y at *
          go_wp2_with (at_builtin; refine wpList_append_own _ rfl (.tmp 20) (.tmp 23) 22 rfl w.heap.size 3 i0 (.int .i64 0) 1 8 Tryd.underlying22 hi hz0 hz1 hz2 rfl (by decide) _ _ _ rfl (hown.alloc _) ⟨wr.heap.size, 0, none⟩ 1 1 [.int .i64 y] rfl rfl (cell_one_new _ _ _) ?c2 ?c3 ?c4 ?c5 ?_)
          case c2 => intro u hu; simp at hu; subst hu; rfl
          case c3 => unfold maxLen; omega
          case c4 => omega
          case c5 => have := hfk.size; simp; omega
          intro v' w2 hown2 hgrow _
          have hfr2 := (hfk.alloc (.cells #[.int .i64 y] 3)).grown hgrow (fun g hg hlt => by have := (hown.lt g hg).1; omega)
          have hm2 : (clFew l k).map (Value.int .i64) ++ [.int .i64 y] = (clFew l (k + 1)).map (.int .i64) := by rw [HSU2.out]; simp
          rw [hm2] at hown2
          obtain ⟨A', c', rfl, _⟩ := (Sl.of_own hown2).form
          clear hgrow hown hfk hcell hm2
          go_wp2_with fail
          go_roundw
          case rel => exact ⟨k + 1, m + 1, A', c', by omega, by go_num, rfl, by rw [HSU2.out, List.length_append, ← HM.out]; rfl, HNO2.out, hown2, hfr2⟩
          case measure => simp [intOf]; omega
        · have hsu : clFew l (k + 1) = clFew l k := by rw [HSU.out, if_neg h2]
          have HSU2 := Lib.hid hsu
          clear hsu
          go_wp2_with fail
          go_roundw
          case rel => exact ⟨k + 1, m, A, c, by omega, by go_num, rfl, by rw [HSU2.out]; exact HM.out, HNO2.out, by rw [HSU2.out]; exact hown, hfk⟩
          case measure => simp [intOf]; omega
    · obtain rfl : n = k := by omega
      have hno : 1 ∉ l := by
        intro h
        obtain ⟨i, hi, he⟩ := List.mem_iff_getElem.1 h
        exact HNO.out i (by rw [← HN.out]; exact hi) (by simp [List.getD, hi, he])
      have hcl : clC l = some (clFew l n) := by
        unfold clC clFew
        rw [if_neg hno, List.take_of_length_le (by rw [HN.out]; exact Nat.le_refl _)]
      have HCL := Lib.hid hcl
      obtain rfl := HM.out
      have hsl := (own_sl hown).mono (G := fun k => w.heap.size ≤ k) (fun _ _ h => h.1)
      clear hcl hown
      generalize clFew l n = o at *
      go_wp2_with fail
      refine bodyPost_ret (v := .tuple #[.slice A o.length c, .bool true]) (by simp [results, Tryd.results112, go_sem]) rfl ⟨by rw [HCL.out]; exact ⟨A, c, rfl, hsl⟩, hfk⟩

end Go.Proofs.YtkjlgamggkencaaDoor
