/-
  The contracts of the reference's Lit, clause.
-/
import Derived.Test.YtkjlgamggkencaaDoorTseitinE
import Derived.Deep.Cut
import Derived.Deep.CutRange
namespace Go.Proofs.YtkjlgamggkencaaDoor
open Go.RowKit

set_option maxHeartbeats 400000 in
theorem rlit_any (l : Int) (hl : l < 9223372036854775808) (w : World) : Calls Tryd.prog 74 #[.int .i64 l] w fun e w' => e = .returned (.int .i64 (litC l)) ∧ w = w' := by
  by_cases h : l < 2
  · have e : litC l = 0 := by unfold litC; rw [if_pos h]
    rw [e]
    clear e
    go_enter Tryd.func74, Tryd.ntmps74
    go_wp2
    go_ret
    exact ⟨rfl, rfl⟩
  · have hand := bits_and_one' l (by omega) hl
    by_cases h1 : l % 2 = 1
    · have e : litC l = -(l / 2) := by unfold litC; rw [if_neg h, if_pos h1]
      rw [e]
      rw [h1] at hand
      have hw : IntKind.i64.wrap (-(l / 2)) = -(l / 2) := IntWalk.i64_in _ (by omega)
      clear e h1
      go_enter Tryd.func74, Tryd.ntmps74
      go_wp2
      go_ret
      exact ⟨rfl, rfl⟩
    · have e : litC l = l / 2 := by unfold litC; rw [if_neg h, if_neg h1]
      rw [e]
      rw [show l % 2 = 0 from by omega] at hand
      clear e h1
      go_enter Tryd.func74, Tryd.ntmps74
      go_wp2
      go_ret
      exact ⟨rfl, rfl⟩

/-- the reference's clause: a literal of clauses first -/
def rclC (f : List Int) (l : List Int) : Option (List Int) := if 1 ∈ l then none else some (f ++ (l.filter fun x => decide (1 < x)).map litC)
def firstL (n : Int) : List Int := if n = 0 then [] else [n]

set_option maxRecDepth 100000 in
set_option maxHeartbeats 4000000 in
/-- the loop behind the first literal -/
theorem rclause_any (fi : Int) (A0 : Option Addr) (n c0 : Nat) (F : Nat → Prop) (l : List Int) (w : World) (hn : l.length = n) (hb : n ≤ 1000000) (hx : ∀ x ∈ l, 0 ≤ x ∧ x < 9223372036854775808) (hs : Sl w F 1 (.slice A0 n c0) n (l.map (.int .i64))) :
    Calls Tryd.prog 122 #[.int .i64 fi, .slice A0 n c0] w fun e w' => Cl w w' e (rclC (firstL fi) l) ∧ Frm (fun _ => False) w w' := by
  obtain ⟨i0, hi, hz0, hz1, hz2⟩ := info_parts infoIntG
  have HN := Lib.hid hn
  have HX := Lib.hid hx
  have hfl : (firstL fi).length ≤ 1 := by unfold firstL; split <;> simp
  have HFL := Lib.hid hfl
  have hfe : fi = 0 → firstL fi = [] := fun h => by rw [firstL, if_pos h]
  have hfe2 : fi ≠ 0 → firstL fi = [fi] := fun h => by rw [firstL, if_neg h]
  have HE1 := Lib.hid hfe
  have HE2 := Lib.hid hfe2
  clear hn hx hfl hfe hfe2
  generalize firstL fi = f at *
  go_enter Tryd.func122, Tryd.ntmps122
  go_upto_if 9 with (fail)
  go_cut [6] from 8 to 13 (fun m6 wr => ∃ A c, m6 = .slice A f.length c ∧ wr.ownsRow w.heap.size 3 1 (.slice A f.length c) f.length (f.map (.int .i64)) ∧ Frm (fun _ => False) w wr)
  case first =>
    by_cases h0 : fi = 0
    · have hf2 := HE1.out h0
      clear HE1 HE2 HFL
      subst h0
      subst hf2
      go_wp2_with fail
      go_meet
      exact ⟨none, 0, rfl, World.ownsRow_nil _ _ _ _, Frm.refl _ _⟩
    · have hf2 := HE2.out h0
      clear HE1 HE2 HFL
      subst hf2
      have h1 : (fi != 0) = true := by simpa using h0
      go_wp2_with (at_builtin; refine wpList_append_own _ rfl (.tmp 10) (.tmp 12) 22 rfl w.heap.size 3 i0 (.int .i64 0) 1 8 Tryd.underlying22 hi hz0 hz1 hz2 rfl (by decide) (.slice none 0 0) 0 [] rfl (World.ownsRow_nil _ _ _ _) ⟨w.heap.size, 0, none⟩ 1 1 [.int .i64 fi] rfl rfl (cell_one_new _ _ _) ?c2 ?c3 ?c4 ?c5 ?_)
      case c2 => first | (intro u hu; simp at hu; subst hu; rfl) | rfl
      case c3 => unfold maxLen; omega
      case c4 => omega
      case c5 => first | omega | (simp; omega) | simp
      intro v' w2 hown2 hgrow _
      have hfr2 : Frm (fun _ => False) w w2 := ((Frm.refl (fun _ => False) w).alloc (.cells #[.int .i64 fi] 3)).grown hgrow (fun g hg hlt => by simp [Value.ownBlock] at hg)
      obtain ⟨A', c', rfl, _⟩ := (Sl.of_own hown2).form
      go_wp2_with fail
      go_meet
      exact ⟨A', c', rfl, hown2, hfr2⟩
  case rest =>
    obtain ⟨A1, c1, rfl, hown0, hf0⟩ := hcut
    have hfl := HFL.out
    clear HE1 HE2
    go_wp2_with fail
    go_loopw [6, 7] (fun mv iv wr => ∃ (k m : Nat) (A : Option Addr) (c : Nat), k ≤ n ∧ iv = .int .i64 k ∧ mv = .slice A m c ∧ m = (f ++ clFew l k).length ∧ (∀ j, j < k → l.getD j 0 ≠ 1) ∧ wr.ownsRow w.heap.size 3 1 (.slice A m c) m ((f ++ clFew l k).map (.int .i64)) ∧ Frm (fun _ => False) w wr) (fun _ i _ => n - (intOf i).toNat)
    case atStart => exact ⟨0, f.length, A1, c1, by omega, rfl, rfl, by simp [clFew], fun j hj => absurd hj (Nat.not_lt_zero _), by simpa [clFew] using hown0, hf0⟩
    case round =>
      clear hown0 hf0
      obtain ⟨k, m, A, c, hk, rfl, rfl, hm, hno, hown, hfk⟩ := hrel
      obtain ⟨Z, hZ⟩ : ∃ Z, f ++ clFew l k = Z := ⟨_, rfl⟩
      have hm0 : m = f.length + (clFew l k).length := by rw [hm, List.length_append]
      rw [hZ] at hown hm
      have HZ := Lib.hid hZ
      have HM := Lib.hid hm
      have HNO := Lib.hid hno
      clear hm hno hZ
      by_cases hlt : k < n
      · have hlt2 : k < l.length := by rw [HN.out]; exact hlt
        have sk := hs.frm hfk (fun _ _ => id)
        obtain ⟨b, o, u, rfl, hbF, hu, hcell⟩ := sk.at_ hlt
        obtain rfl := at_getD hu
        have hsu := clFew_succ hlt2
        have hxk := HX.out (l.getD k 0) (by simp [List.getD, hlt2])
        have hmk := clFew_length l k (by omega)
        have hmem : l.getD k 0 ∈ l := by simp [List.getD, hlt2]
        clear hu hbF sk
        obtain ⟨x, hx⟩ : ∃ x, x = l.getD k 0 := ⟨_, rfl⟩
        rw [← hx] at hcell hsu hxk hmem
        have HXX := Lib.hid hx
        have HSU := Lib.hid hsu
        clear hx hsu
        have hmn : m ≤ n + 1 := by omega
        clear hm0 hmk
        have k0 : (0 : Int) ≤ k := by omega
        have k1 : (k : Int) < n := by omega
        by_cases h1 : x = 1
        · subst h1
          have hcl : rclC f l = none := by unfold rclC; rw [if_pos hmem]
          have HCL := Lib.hid hcl
          clear hcl hmem hxk
          go_wp2_with fail
          refine bodyPost_ret (v := .tuple #[.slice none 0 0, .bool false]) (by simp [results, Tryd.results122, go_sem]) rfl ⟨by rw [HCL.out]; rfl, hfk⟩
        · have hno2 : ∀ j, j < k + 1 → l.getD j 0 ≠ 1 := by
            intro j hj
            rcases Nat.lt_or_ge j k with h | h
            · exact HNO.out j h
            · obtain rfl : j = k := by omega
              rw [← HXX.out]; exact h1
          have HNO2 := Lib.hid hno2
          have hx1 : (x == 1) = false := by simpa using h1
          clear hno2 hmem h1
          by_cases h2 : 1 < x
          · have hsu : clFew l (k + 1) = clFew l k ++ [litC x] := by rw [HSU.out, if_pos h2]
            have hx0 : (x == 0) = false := by simp; omega
            have HSU2 := Lib.hid hsu
            have hxk2 := hxk.2
            clear hsu
            go_wp2_with fail
            refine (rlit_any x hxk2 _).mono ?_
            rintro e w' ⟨rfl, rfl⟩
            generalize litC x = y at *
            go_wp2_with (at_builtin; refine wpList_append_own _ rfl (.tmp 24) (.tmp 30) 22 rfl w.heap.size 3 i0 (.int .i64 0) 1 8 Tryd.underlying22 hi hz0 hz1 hz2 rfl (by decide) _ _ _ rfl (hown.alloc (.cells #[.int .i64 y] 3)) ⟨wr.heap.size, 0, none⟩ 1 1 [.int .i64 y] rfl rfl (cell_one_new _ _ _) ?c2 ?c3 ?c4 ?c5 ?_)
            case c2 => first | (intro u hu; simp at hu; subst hu; rfl) | rfl
            case c3 => unfold maxLen; omega
            case c4 => omega
            case c5 => have := hfk.size; simp; omega
            intro v' w2 hown2 hgrow _
            have hfr2 := (hfk.alloc (.cells #[.int .i64 y] 3)).grown hgrow (fun g hg hlt => by have := (hown.lt g hg).1; omega)
            have hm2 : Z.map (Value.int .i64) ++ [.int .i64 y] = (f ++ clFew l (k + 1)).map (.int .i64) := by rw [HSU2.out, ← List.append_assoc, HZ.out]; simp
            rw [hm2] at hown2
            obtain ⟨A', c', rfl, _⟩ := (Sl.of_own hown2).form
            clear hgrow hown hfk hcell hm2
            go_wp2_with fail
            go_roundw
            case rel => exact ⟨k + 1, m + 1, A', c', by omega, by go_num, rfl, by rw [HSU2.out, ← List.append_assoc, HZ.out, List.length_append, ← HM.out]; rfl, HNO2.out, hown2, hfr2⟩
            case measure => simp [intOf]; omega
          · have hsu : clFew l (k + 1) = clFew l k := by rw [HSU.out, if_neg h2]
            have HSU2 := Lib.hid hsu
            obtain rfl : x = 0 := by have := beq_eq_false_iff_ne.1 hx1; omega
            clear hsu hx1
            go_wp2_with fail
            go_roundw
            case rel => exact ⟨k + 1, m, A, c, by omega, by go_num, rfl, by rw [HSU2.out, HZ.out]; exact HM.out, HNO2.out, by rw [HSU2.out, HZ.out]; exact hown, hfk⟩
            case measure => simp [intOf]; omega
      · obtain rfl : n = k := by omega
        have hno : 1 ∉ l := by
          intro h
          obtain ⟨i, hi, he⟩ := List.mem_iff_getElem.1 h
          exact HNO.out i (by rw [← HN.out]; exact hi) (by simp [List.getD, hi, he])
        have hcl : rclC f l = some Z := by
          rw [← HZ.out]
          unfold rclC clFew
          rw [if_neg hno, List.take_of_length_le (by rw [HN.out]; exact Nat.le_refl _)]
        have HCL := Lib.hid hcl
        obtain rfl := HM.out
        have hsl := (own_sl hown).mono (G := fun k => w.heap.size ≤ k) (fun _ _ h => h.1)
        clear hcl hown hm0 HZ
        go_wp2_with fail
        refine bodyPost_ret (v := .tuple #[.slice A Z.length c, .bool true]) (by simp [results, Tryd.results122, go_sem]) rfl ⟨by rw [HCL.out]; exact ⟨A, c, rfl, hsl⟩, hfk⟩

theorem rcl_1 {N : Nat} (hN : 0 < N) (a : Int) : rclC (firstL (-(N : Int))) [a] = clC [notL (2 * (N : Int)), a] := by
  have e : notL (2 * (N : Int)) = 2 * (N : Int) + 1 := by unfold notL; rw [if_pos (by omega)]
  have e2 : litC (2 * (N : Int) + 1) = -(N : Int) := by unfold litC; rw [if_neg (by omega), if_pos (by omega)]; omega
  unfold rclC clC firstL
  rw [e, if_neg (show ¬ -(N : Int) = 0 by omega)]
  by_cases h : a = 1
  · subst h; simp
  · rw [if_neg (by simp; omega), if_neg (by simp; omega)]
    have e3 : ([2 * (N : Int) + 1, a].filter fun x => decide (1 < x)) = (2 * (N : Int) + 1) :: ([a].filter fun x => decide (1 < x)) := List.filter_cons_of_pos (by simp; omega)
    rw [e3, List.map_cons, e2]
    rfl
theorem rcl_3 {N : Nat} (hN : 0 < N) (a b : Int) : rclC (firstL (N : Int)) [a, b] = clC [2 * (N : Int), a, b] := by
  have e2 : litC (2 * (N : Int)) = (N : Int) := by unfold litC; rw [if_neg (by omega), if_neg (by omega)]; omega
  unfold rclC clC firstL
  rw [if_neg (show ¬ (N : Int) = 0 by omega)]
  by_cases h : a = 1 ∨ b = 1
  · rw [if_pos (by simp; omega), if_pos (by simp; omega)]
  · rw [if_neg (by simp; omega), if_neg (by simp; omega)]
    have e3 : ([2 * (N : Int), a, b].filter fun x => decide (1 < x)) = (2 * (N : Int)) :: ([a, b].filter fun x => decide (1 < x)) := List.filter_cons_of_pos (by simp; omega)
    rw [e3, List.map_cons, e2]
    rfl
theorem rcl_0 (a : Int) : rclC (firstL 0) [a] = clC [a] := rfl

end Go.Proofs.YtkjlgamggkencaaDoor
