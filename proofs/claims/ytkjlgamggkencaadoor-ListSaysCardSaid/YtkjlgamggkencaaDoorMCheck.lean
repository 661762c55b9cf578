/-
  The contract of graph.Check.
-/
import Derived.Test.YtkjlgamggkencaaDoorMCirc
import Derived.Test.YtkjlgamggkencaaDoorMPure
import Derived.Test.YtkjlgamggkencaaDoorMErrs
namespace Go.Proofs.YtkjlgamggkencaaDoor
open Go.RowKit

def ckGate (n i : Nat) (p : Int × Int) : Bool := isL p.1 (n + i) && isL p.2 (n + i) && decide (p.2 ≤ p.1)
def ckAnds (n : Nat) (L : List (Int × Int)) : Bool := (List.range L.length).all fun i => ckGate n i (L.getD i (0, 0))
def ckOuts (n : Nat) (l : List Int) : Bool := l.all fun x => isL x n
/-- the error's number; 0: it is right -/
def ckCode (N : Int) (L : List (Int × Int)) (l : List Int) : Nat :=
  if N < 0 ∨ 8000 < N ∨ 8000 < N + (L.length : Int) then 102 else if ckAnds N.toNat L = false then 104 else if ckOuts (N.toNat + L.length) l = false then 104 else 0

theorem ckAnds_iff {n : Nat} {L : List (Int × Int)} : ckAnds n L = true ↔ Right n L := by
  unfold ckAnds
  rw [List.all_eq_true]
  constructor
  · intro h i p hp
    have hi := (List.getElem?_eq_some_iff.1 hp).1
    have h1 := h i (List.mem_range.2 hi)
    rw [show L.getD i (0, 0) = p from by simp [List.getD, hp]] at h1
    simp only [ckGate, Bool.and_eq_true, decide_eq_true_eq] at h1
    have a := isL_iff.1 h1.1.1
    have b := isL_iff.1 h1.1.2
    omega
  · intro h i hi
    have hi' := List.mem_range.1 hi
    have := h i (L.getD i (0, 0)) (by simp [List.getD, hi'])
    simp only [ckGate, Bool.and_eq_true, decide_eq_true_eq, isL_iff]
    omega
theorem ckCode_right {n : Nat} {L : List (Int × Int)} {l : List Int} (hr : Right n L) (hn : n + L.length ≤ 8000) (hl : ∀ x ∈ l, isL x (n + L.length) = true) : ckCode n L l = 0 := by
  unfold ckCode
  rw [if_neg (by omega), show (n : Int).toNat = n from by omega, if_neg (by rw [ckAnds_iff.2 hr]; simp), if_neg]
  have : ckOuts (n + L.length) l = true := by unfold ckOuts; rw [List.all_eq_true]; exact hl
  rw [this]; simp

set_option maxRecDepth 100000 in
set_option maxHeartbeats 4000000 in
theorem check_any (Ls : List Nat) (P : Nat → Addr) (h102 : 102 ∈ Ls) (h104 : 104 ∈ Ls) (N : Int) (A : Option Addr) (m c : Nat) (B : Option Addr) (k d : Nat) (L : List (Int × Int)) (l : List Int) (F G : Nat → Prop) (w : World) (hm : L.length = m) (hk : l.length = k)
    (hm4 : m ≤ 100000) (hk4 : k ≤ 100000) (hs : Sl w F 2 (.slice A m c) m (pairs L)) (ho : Sl w G 1 (.slice B k d) k (l.map (.int .i64))) (hS : ckCode N L l ≠ 0 → Sents Ls P w) :
    Calls Tryd.prog 42 #[cv N A m c B k d] w fun e w' => e = .returned (PE P (ckCode N L l)) ∧ Frm (fun _ => False) w w' := by
  have hf0 := (Frm.refl (fun _ => False) w).alloc (.cells #[.int .i64 N, .slice A m c, .slice B k d] 40)
  have hb0 : Blk (w.alloc (.cells #[.int .i64 N, .slice A m c, .slice B k d] 40)) w.heap.size 40 [.int .i64 N, .slice A m c, .slice B k d] := Blk.new _ _ _
  have b00 := hb0.at_ 0 rfl
  have b01 := hb0.at_ 1 rfl
  by_cases hv : N < 0 ∨ 8000 < N ∨ 8000 < N + (L.length : Int)
  · have hc : ckCode N L l = 102 := by unfold ckCode; rw [if_pos hv]
    have hS2 := hS (by rw [hc]; decide)
    have e4 : (w.alloc (.cells #[.int .i64 N, .slice A m c, .slice B k d] 40)).cell? ⟨1, 0, none⟩ = some (.iface 158 (.pointer (some (P 102)))) := (hS2.frm hf0).cell 102 h102
    rw [hc, PE_pos P 102 (by decide)]
    rw [hm] at hv
    clear hc hS hS2 hs ho hm hb0
    have HF := Lib.hid hf0
    clear hf0
    generalize P 102 = a at *
    by_cases h1 : N < 0
    · clear hv
      go_enter Tryd.func42, Tryd.ntmps42
      go_wp2_with fail
      go_ret
      exact ⟨rfl, HF.out⟩
    · by_cases h2 : 8000 < N
      · clear hv
        go_enter Tryd.func42, Tryd.ntmps42
        go_wp2_with fail
        go_ret
        exact ⟨rfl, HF.out⟩
      · have h3 : 8000 < N + (m : Int) := by omega
        clear hv
        go_enter Tryd.func42, Tryd.ntmps42
        go_wp2_with fail
        go_ret
        exact ⟨rfl, HF.out⟩
  · obtain ⟨n, rfl⟩ : ∃ n : Nat, N = n := ⟨N.toNat, by omega⟩
    have hnm : n + m ≤ 8000 := by omega
    have g1 : ¬ (n : Int) < 0 := by omega
    have g2 : ¬ 8000 < (n : Int) := by omega
    have g3 : ¬ 8000 < (n : Int) + m := by omega
    have hcode : ckCode n L l = if ckAnds n L = false then 104 else if ckOuts (n + L.length) l = false then 104 else 0 := by unfold ckCode; rw [if_neg hv, show (n : Int).toNat = n from by omega]
    have HS := Lib.hid hS
    have HM := Lib.hid hm
    have HK := Lib.hid hk
    have HC := Lib.hid hcode
    clear hv hS hm hk hcode
    go_enter Tryd.func42, Tryd.ntmps42
    go_wp2_with fail
    go_loopw [29] (fun iv wr => ∃ (j : Nat), j ≤ m ∧ iv = .int .i64 (j : Int) ∧ (∀ i, i < j → ckGate n i (L.getD i (0, 0)) = true) ∧ Blk wr w.heap.size 40 [.int .i64 n, .slice A m c, .slice B k d] ∧ Frm (fun _ => False) w wr) (fun iv _ => m - (intOf iv).toNat)
    case atStart => exact ⟨0, by omega, rfl, fun i h => absurd h (Nat.not_lt_zero _), hb0, hf0⟩
    case round =>
      clear hb0 hf0 b00 b01
      obtain ⟨j, hj, rfl, hgood, hb, hfk⟩ := hrel
      have HG := Lib.hid hgood
      clear hgood
      by_cases hlt : j < m
      · have hlt2 : j < L.length := by rw [HM.out]; exact hlt
        obtain ⟨b, o, rfl, _, q1, q2⟩ := sl_pair (hs.frm hfk (fun _ _ => id)) hlt
        rw [← Nat.add_assoc] at q2
        have hcg : ckGate n j (L.getD j (0, 0)) = (isL (L.getD j (0, 0)).1 (n + j) && isL (L.getD j (0, 0)).2 (n + j) && decide ((L.getD j (0, 0)).2 ≤ (L.getD j (0, 0)).1)) := rfl
        have hbad : ckGate n j (L.getD j (0, 0)) = false → ckCode n L l = 104 := by
          intro h
          rw [HC.out, if_pos]
          unfold ckAnds
          rw [List.all_eq_false]
          exact ⟨j, List.mem_range.2 hlt2, by rw [h]; simp⟩
        have HB := Lib.hid hbad
        have HCG := Lib.hid hcg
        clear hbad hcg
        obtain ⟨p, hp⟩ : ∃ p, L.getD j (0, 0) = p := ⟨_, rfl⟩
        rw [hp] at q1 q2 HB HCG
        have HP := Lib.hid hp
        clear hp
        obtain ⟨x, y⟩ := p
        simp only at q1 q2
        have j0 : (0 : Int) ≤ j := by omega
        have j1 : (j : Int) < m := by omega
        have hf1 := hfk.alloc (.cells #[.int .i64 x, .int .i64 y] 73)
        have hbA := hb.alloc (.cells #[.int .i64 x, .int .i64 y] 73)
        have b0 := hbA.at_ 0 rfl
        have b1 := hbA.at_ 1 rfl
        have C1 := Lib.hid (fun W => is_any x (n + j) (by omega) W)
        have C2 := Lib.hid (fun W => is_any y (n + j) (by omega) W)
        have wn : IntKind.i64.wrap ((n : Int) + j) = ((n + j : Nat) : Int) := by rw [IntWalk.i64_in _ (by omega)]; omega
        have hbad2 : ckGate n j (x, y) = false → (wr.alloc (.cells #[.int .i64 x, .int .i64 y] 73)).cell? ⟨0, 0, none⟩ = some (.iface 158 (.pointer (some (P 104)))) ∧ PE P (ckCode n L l) = .iface 158 (.pointer (some (P 104))) := by
          intro h
          have h1 := HB.out h
          exact ⟨((HS.out (by rw [h1]; decide)).frm hf1).cell 104 h104, by rw [h1]; exact PE_pos P 104 (by decide)⟩
        have HB2 := Lib.hid hbad2
        have HCG2 := Lib.hid HCG.out
        clear hbad2 HB HCG
        by_cases c1 : isL x (n + j) = true
        · by_cases c2 : isL y (n + j) = true
          · by_cases c3 : y ≤ x
            · go_wp2_with fail
              refine (C1.out _).mono ?_
              rw [c1]
              rintro e w' ⟨rfl, rfl⟩
              go_wp2_with fail
              refine (C2.out _).mono ?_
              rw [c2]
              rintro e w' ⟨rfl, rfl⟩
              have c4 : ¬ x < y := by omega
              go_wp2_with fail
              exact ⟨⟨j + 1, by omega, by go_num, fun i hi => by
                rcases Nat.lt_or_ge i j with h | h
                · exact HG.out i h
                · obtain rfl : i = j := by omega
                  rw [HP.out, HCG2.out, c1, c2, decide_eq_true c3]; rfl, hbA, hf1⟩, by simp [intOf]; omega⟩
            · have hfalse : ckGate n j (x, y) = false := by rw [HCG2.out, decide_eq_false c3, Bool.and_false]
              have c4 : x < y := by omega
              obtain ⟨e4, epe⟩ := HB2.out hfalse
              have HPE := Lib.hid epe
              clear epe HB2 HS
              generalize P 104 = a at *
              go_wp2_with fail
              refine (C1.out _).mono ?_
              rw [c1]
              rintro e w' ⟨rfl, rfl⟩
              go_wp2_with fail
              refine (C2.out _).mono ?_
              rw [c2]
              rintro e w' ⟨rfl, rfl⟩
              go_wp2_with fail
              go_ret
              exact ⟨congrArg Ending.returned HPE.out.symm, hf1⟩
          · have c2 : isL y (n + j) = false := by simpa using c2
            have hfalse : ckGate n j (x, y) = false := by rw [HCG2.out, c2, Bool.and_false, Bool.false_and]
            obtain ⟨e4, epe⟩ := HB2.out hfalse
            have HPE := Lib.hid epe
            clear epe HB2 HS
            generalize P 104 = a at *
            go_wp2_with fail
            refine (C1.out _).mono ?_
            rw [c1]
            rintro e w' ⟨rfl, rfl⟩
            go_wp2_with fail
            refine (C2.out _).mono ?_
            rw [c2]
            rintro e w' ⟨rfl, rfl⟩
            go_wp2_with fail
            go_ret
            exact ⟨congrArg Ending.returned HPE.out.symm, hf1⟩
        · have c1 : isL x (n + j) = false := by simpa using c1
          have hfalse : ckGate n j (x, y) = false := by rw [HCG2.out, c1, Bool.false_and, Bool.false_and]
          obtain ⟨e4, epe⟩ := HB2.out hfalse
          have HPE := Lib.hid epe
          clear epe HB2 HS
          generalize P 104 = a at *
          go_wp2_with fail
          refine (C1.out _).mono ?_
          rw [c1]
          rintro e w' ⟨rfl, rfl⟩
          go_wp2_with fail
          go_ret
          exact ⟨congrArg Ending.returned HPE.out.symm, hf1⟩
      · have hands : ckAnds n L = true := by
          unfold ckAnds
          rw [List.all_eq_true]
          intro i hi
          exact HG.out i (by have := List.mem_range.1 hi; have := HM.out; omega)
        have hcode : ckCode n L l = if ckOuts (n + m) l = false then 104 else 0 := by rw [HC.out, if_neg (by rw [hands]; simp), HM.out]
        have HC2 := Lib.hid hcode
        clear hcode hands HG HC hs
        have b0 := hb.at_ 0 rfl
        have b1 := hb.at_ 1 rfl
        have b2 := hb.at_ 2 rfl
        have hge : ¬ (j : Int) < m := by omega
        go_wp2_with fail
        go_loopw [62] (fun iv wr => ∃ (j : Nat), j ≤ k ∧ iv = .int .i64 (j : Int) ∧ (∀ i, i < j → isL (l.getD i 0) (n + m) = true) ∧ Blk wr w.heap.size 40 [.int .i64 n, .slice A m c, .slice B k d] ∧ Frm (fun _ => False) w wr) (fun iv _ => k - (intOf iv).toNat)
        case atStart => exact ⟨0, by omega, rfl, fun i h => absurd h (Nat.not_lt_zero _), hb, hfk⟩
        case round =>
          clear hb hfk b0 b1 b2 hge hlt
          obtain ⟨j, hj, rfl, hgood, hb, hfk⟩ := hrel
          have HG := Lib.hid hgood
          clear hgood
          have b0 := hb.at_ 0 rfl
          have b1 := hb.at_ 1 rfl
          by_cases hlt : j < k
          · have hlt2 : j < l.length := by rw [HK.out]; exact hlt
            obtain ⟨b, o, u, rfl, _, hu, hcell⟩ := (ho.frm hfk (fun _ _ => id)).at_ hlt
            obtain rfl := at_getD hu
            clear hu
            have hbad : isL (l.getD j 0) (n + m) = false → ckCode n L l = 104 := by
              intro h
              rw [HC2.out, if_pos]
              unfold ckOuts
              rw [List.all_eq_false]
              exact ⟨l.getD j 0, by simp [List.getD, hlt2], by rw [h]; simp⟩
            have HB := Lib.hid hbad
            clear hbad
            generalize hx : l.getD j 0 = x at *
            have HX := Lib.hid hx
            clear hx
            have j0 : (0 : Int) ≤ j := by omega
            have j1 : (j : Int) < k := by omega
            have C1 := Lib.hid (fun W => is_any x (n + m) (by omega) W)
            have wn : IntKind.i64.wrap ((n : Int) + m) = ((n + m : Nat) : Int) := by rw [IntWalk.i64_in _ (by omega)]; omega
            by_cases c1 : isL x (n + m) = true
            · go_wp2_with fail
              refine (C1.out _).mono ?_
              rw [c1]
              rintro e w' ⟨rfl, rfl⟩
              go_wp2_with fail
              go_roundw
              case rel => exact ⟨j + 1, by omega, by go_num, fun i hi => by
                rcases Nat.lt_or_ge i j with h | h
                · exact HG.out i h
                · obtain rfl : i = j := by omega
                  rw [HX.out, c1], hb, hfk⟩
              case measure => simp [intOf]; omega
            · have c1 : isL x (n + m) = false := by simpa using c1
              have h1 := HB.out c1
              have e4 := ((HS.out (by rw [h1]; decide)).frm hfk).cell 104 h104
              have epe : PE P (ckCode n L l) = .iface 158 (.pointer (some (P 104))) := by rw [h1]; exact PE_pos P 104 (by decide)
              have HPE := Lib.hid epe
              clear epe h1 HS HB
              simp only [gOf] at e4
              generalize P 104 = a at *
              go_wp2_with fail
              refine (C1.out _).mono ?_
              rw [c1]
              rintro e w' ⟨rfl, rfl⟩
              go_wp2_with fail
              go_ret
              exact ⟨congrArg Ending.returned HPE.out.symm, hfk⟩
          · have houts : ckOuts (n + m) l = true := by
              unfold ckOuts
              rw [List.all_eq_true]
              intro x hx
              obtain ⟨i, hi, rfl⟩ := List.mem_iff_getElem.1 hx
              have := HG.out i (by have := HK.out; omega)
              rwa [show l.getD i 0 = l[i] from by simp [List.getD, hi]] at this
            have hcode : ckCode n L l = 0 := by rw [HC2.out, houts]; simp
            have HC3 := Lib.hid hcode
            clear hcode houts HC2 HG
            go_wp2_with fail
            go_ret
            exact ⟨by rw [HC3.out]; rfl, hfk⟩

end Go.Proofs.YtkjlgamggkencaaDoor
