/-
  The contracts of slices.IndexFunc, ContainsFunc over rows of booleans; list's Choose, Right.
-/
import Derived.Test.YtkjlgamggkencaaDoorMCegarC
namespace Go.Proofs.YtkjlgamggkencaaDoor
open Go.RowKit
set_option linter.unusedVariables false

def idxP (p : List Bool → Bool) (cs : List (List Bool)) : Int := match cs.findIdx? p with | some i => (i : Int) | none => -1
theorem idxP_none {p : List Bool → Bool} {cs : List (List Bool)} (h : ∀ j, j < cs.length → p (cs.getD j []) = false) : idxP p cs = -1 := by
  unfold idxP
  have : cs.findIdx? p = none := by
    rw [List.findIdx?_eq_none_iff]
    intro x hx
    obtain ⟨i, hi, rfl⟩ := List.mem_iff_getElem.1 hx
    have := h i hi
    rwa [show cs.getD i [] = cs[i] from by simp [List.getD, hi]] at this
  rw [this]
theorem idxP_at {p : List Bool → Bool} {cs : List (List Bool)} {k : Nat} (hk : k < cs.length) (hp : p (cs.getD k []) = true) (h : ∀ j, j < k → p (cs.getD j []) = false) : idxP p cs = k := by
  unfold idxP
  have : cs.findIdx? p = some k := by
    rw [List.findIdx?_eq_some_iff_getElem]
    refine ⟨hk, ?_, fun j hj => ?_⟩
    · rwa [show cs.getD k [] = cs[k] from by simp [List.getD, hk]] at hp
    · have := h j hj
      rw [show cs.getD j [] = cs[j] from by simp [List.getD, show j < cs.length by omega]] at this
      rw [this]; simp
  rw [this]

/-- what a call of the asked function on each row does -/
def Asks (w : World) (F : Nat → Prop) (cs : List (List Bool)) (p : List Bool → Bool) (f : FuncId) (tl : List Value) : Prop :=
  ∀ (W : World), Frm (fun _ => False) w W → ∀ j, j < cs.length → ∀ (B : Option Addr) (d : Nat), Sl W F 1 (.slice B (cs.getD j []).length d) (cs.getD j []).length ((cs.getD j []).map .bool) →
    Calls Tryd.prog f (.slice B (cs.getD j []).length d :: tl).toArray W fun e w' => e = .returned (.bool (p (cs.getD j []))) ∧ Frm (fun _ => False) W w'

set_option maxRecDepth 100000 in
set_option maxHeartbeats 1000000 in
theorem index2_any (p1 p2 : Value) (A : Option Addr) (n c : Nat) (F : Nat → Prop) (cs : List (List Bool)) (p : List Bool → Bool) (w : World) (hn : n ≤ 1000000) (hR : RwB w F (.slice A n c) n cs) (hq : Asks w F cs p 141 [p1, p2]) :
    Calls Tryd.prog 140 #[.slice A n c, .func (.func 141) #[] #[p1, p2]] w fun e w' => e = .returned (.int .i64 (idxP p cs)) ∧ Frm (fun _ => False) w w' := by
  have HN := Lib.hid hR.1
  have HQ := Lib.hid hq
  clear hq
  go_enter Tryd.func140, Tryd.ntmps140
  go_wp2_with fail
  go_loopw [8] (fun iv wr => ∃ (j : Nat), j ≤ n ∧ iv = .int .i64 (j : Int) ∧ (∀ i, i < j → p (cs.getD i []) = false) ∧ Frm (fun _ => False) w wr) (fun iv _ => n - (intOf iv).toNat)
  case atStart => exact ⟨0, by omega, rfl, fun i h => absurd h (Nat.not_lt_zero _), Frm.refl _ _⟩
  case round =>
    obtain ⟨j, hj, rfl, hno, hfk⟩ := hrel
    have HNO := Lib.hid hno
    clear hno
    by_cases hlt : j < n
    · have hlt2 : j < cs.length := by rw [HN.out]; exact hlt
      obtain ⟨b, o, B, d, rfl, _, hc, hs⟩ := (hR.frm hfk (fun _ _ => id)).at_ hlt
      have HC := Lib.hid (HQ.out wr hfk j hlt2 B d hs)
      have hmore : p (cs.getD j []) = false → ∀ i, i < j + 1 → p (cs.getD i []) = false := fun h i hi => by
        rcases Nat.lt_or_ge i j with h1 | h1
        · exact HNO.out i h1
        · obtain rfl : i = j := by omega
          exact h
      have hat : p (cs.getD j []) = true → idxP p cs = j := fun h => idxP_at hlt2 h HNO.out
      have HM := Lib.hid hmore
      have HAT := Lib.hid hat
      clear hmore hat hs
      have j0 : (0 : Int) ≤ j := by omega
      have j1 : (j : Int) < n := by omega
      generalize p (cs.getD j []) = z at *
      generalize (cs.getD j []).length = len at *
      go_wp2_with fail
      refine HC.out.mono ?_
      rintro e w2 ⟨rfl, hf2⟩
      cases z
      · have hm := HM.out rfl
        have HM2 := Lib.hid hm
        clear hm HM HAT
        go_wp2_with fail
        go_roundw
        case rel => exact ⟨j + 1, by omega, by go_num, HM2.out, hfk.trans hf2⟩
        case measure => simp [intOf]; omega
      · have hi := HAT.out rfl
        go_wp2_with fail
        go_ret
        exact ⟨ret_int hi.symm, hfk.trans hf2⟩
    · obtain rfl : n = j := by omega
      have hi := idxP_none (p := p) (cs := cs) (by rw [HN.out]; exact HNO.out)
      have HI := Lib.hid hi
      clear hi
      go_wp2_with fail
      go_ret
      exact ⟨ret_int HI.out.symm, hfk⟩

set_option maxRecDepth 100000 in
set_option maxHeartbeats 1000000 in
theorem index1_any (p1 : Value) (A : Option Addr) (n c : Nat) (F : Nat → Prop) (cs : List (List Bool)) (p : List Bool → Bool) (w : World) (hn : n ≤ 1000000) (hR : RwB w F (.slice A n c) n cs) (hq : Asks w F cs p 147 [p1]) :
    Calls Tryd.prog 140 #[.slice A n c, .func (.func 147) #[] #[p1]] w fun e w' => e = .returned (.int .i64 (idxP p cs)) ∧ Frm (fun _ => False) w w' := by
  have HN := Lib.hid hR.1
  have HQ := Lib.hid hq
  clear hq
  go_enter Tryd.func140, Tryd.ntmps140
  go_wp2_with fail
  go_loopw [8] (fun iv wr => ∃ (j : Nat), j ≤ n ∧ iv = .int .i64 (j : Int) ∧ (∀ i, i < j → p (cs.getD i []) = false) ∧ Frm (fun _ => False) w wr) (fun iv _ => n - (intOf iv).toNat)
  case atStart => exact ⟨0, by omega, rfl, fun i h => absurd h (Nat.not_lt_zero _), Frm.refl _ _⟩
  case round =>
    obtain ⟨j, hj, rfl, hno, hfk⟩ := hrel
    have HNO := Lib.hid hno
    clear hno
    by_cases hlt : j < n
    · have hlt2 : j < cs.length := by rw [HN.out]; exact hlt
      obtain ⟨b, o, B, d, rfl, _, hc, hs⟩ := (hR.frm hfk (fun _ _ => id)).at_ hlt
      have HC := Lib.hid (HQ.out wr hfk j hlt2 B d hs)
      have hmore : p (cs.getD j []) = false → ∀ i, i < j + 1 → p (cs.getD i []) = false := fun h i hi => by
        rcases Nat.lt_or_ge i j with h1 | h1
        · exact HNO.out i h1
        · obtain rfl : i = j := by omega
          exact h
      have hat : p (cs.getD j []) = true → idxP p cs = j := fun h => idxP_at hlt2 h HNO.out
      have HM := Lib.hid hmore
      have HAT := Lib.hid hat
      clear hmore hat hs
      have j0 : (0 : Int) ≤ j := by omega
      have j1 : (j : Int) < n := by omega
      generalize p (cs.getD j []) = z at *
      generalize (cs.getD j []).length = len at *
      go_wp2_with fail
      refine HC.out.mono ?_
      rintro e w2 ⟨rfl, hf2⟩
      cases z
      · have hm := HM.out rfl
        have HM2 := Lib.hid hm
        clear hm HM HAT
        go_wp2_with fail
        go_roundw
        case rel => exact ⟨j + 1, by omega, by go_num, HM2.out, hfk.trans hf2⟩
        case measure => simp [intOf]; omega
      · have hi := HAT.out rfl
        go_wp2_with fail
        go_ret
        exact ⟨ret_int hi.symm, hfk.trans hf2⟩
    · obtain rfl : n = j := by omega
      have hi := idxP_none (p := p) (cs := cs) (by rw [HN.out]; exact HNO.out)
      have HI := Lib.hid hi
      clear hi
      go_wp2_with fail
      go_ret
      exact ⟨ret_int HI.out.symm, hfk⟩

set_option maxRecDepth 100000 in
set_option maxHeartbeats 1000000 in
theorem contains1_any (p1 : Value) (A : Option Addr) (n c : Nat) (F : Nat → Prop) (cs : List (List Bool)) (p : List Bool → Bool) (w : World) (hn : n ≤ 1000000) (hR : RwB w F (.slice A n c) n cs) (hq : Asks w F cs p 147 [p1]) :
    Calls Tryd.prog 146 #[.slice A n c, .func (.func 147) #[] #[p1]] w fun e w' => e = .returned (.bool (decide (0 ≤ idxP p cs))) ∧ Frm (fun _ => False) w w' := by
  have HI := Lib.hid (index1_any p1 A n c F cs p w hn hR hq)
  clear hR hq
  generalize idxP p cs = k at *
  go_enter Tryd.func146, Tryd.ntmps146
  go_wp2_with fail
  refine HI.out.mono ?_
  rintro e w1 ⟨rfl, hf1⟩
  go_wp2_with fail
  go_ret
  exact ⟨ret_bool (by simp), hf1⟩

def rightP (inn : Nat) (cs : List (List Bool)) : Bool := !(decide (0 ≤ idxP (fun r => decide (r.length ≠ inn)) cs))
theorem rightP_true {inn : Nat} {cs : List (List Bool)} (h : ∀ r ∈ cs, r.length = inn) : rightP inn cs = true := by
  unfold rightP
  rw [idxP_none (p := fun r => decide (r.length ≠ inn)) (fun j hj => by
    have := h (cs.getD j []) (by simp [List.getD, hj])
    simp only [this]; simp)]
  rfl
theorem rightP_false {inn : Nat} {cs : List (List Bool)} {r : List Bool} (hall : ∀ r ∈ cs, r.length = inn) (hr : r.length ≠ inn) : rightP inn (cs ++ [r]) = false := by
  unfold rightP
  rw [idxP_at (p := fun r => decide (r.length ≠ inn)) (k := cs.length) (by simp) (by simpa using hr) (fun j hj => by
    have := hall (cs.getD j []) (by simp [List.getD, hj])
    have e : (cs ++ [r]).getD j [] = cs.getD j [] := by rw [List.getD, List.getElem?_append_left hj]; rfl
    rw [e]; simp only [this]; simp)]
  simp

set_option maxRecDepth 100000 in
set_option maxHeartbeats 2000000 in
theorem right_any (ex : Bool) (ou inn n : Nat) (hn : n = ou + inn) (A : Option Addr) (m c : Nat) (B : Option Addr) (d : Nat) (Av : Option Addr) (k cv' : Nat) (F : Nat → Prop) (cs : List (List Bool)) (w : World) (hk : k ≤ 1000000) (h4 : n ≤ 1000) (hl : ∀ r ∈ cs, r.length ≤ 100000) (hR : RwB w F (.slice Av k cv') k cs) :
    Calls Tryd.prog 131 #[mtv ex ou n A m c B d, .slice Av k cv'] w fun e w' => e = .returned (.bool (rightP inn cs)) ∧ Frm (fun _ => False) w w' := by
  have hf0 := ((Frm.refl (fun _ => False) w).alloc (.cells #[.bool ex, .int .i64 ou, .int .i64 n, .slice A m c, .slice B 1 d] 104)).alloc (.cells #[.int .i64 inn] 3)
  have hb0 : Blk (w.alloc (.cells #[.bool ex, .int .i64 ou, .int .i64 n, .slice A m c, .slice B 1 d] 104)) w.heap.size 104 [.bool ex, .int .i64 ou, .int .i64 n, .slice A m c, .slice B 1 d] := Blk.new _ _ _
  have hbi : Blk ((w.alloc (.cells #[.bool ex, .int .i64 ou, .int .i64 n, .slice A m c, .slice B 1 d] 104)).alloc (.cells #[.int .i64 inn] 3)) (w.heap.size + 1) 3 [.int .i64 inn] := Blk.new_at _ _ _ _ (by simp)
  have hq : Asks ((w.alloc (.cells #[.bool ex, .int .i64 ou, .int .i64 n, .slice A m c, .slice B 1 d] 104)).alloc (.cells #[.int .i64 inn] 3)) F cs (fun r => decide (r.length ≠ inn)) 147 [.pointer (some ⟨w.heap.size + 1, 0, none⟩)] := by
    intro W hf j hj B' d' hs
    have c0 := (hbi.frm hf id).at_ 0 rfl
    show Calls Tryd.prog 147 #[.slice B' (cs.getD j []).length d', .pointer (some ⟨w.heap.size + 1, 0, none⟩)] W fun e w' => e = .returned (.bool (decide ((cs.getD j []).length ≠ inn))) ∧ Frm (fun _ => False) W w'
    generalize (cs.getD j []).length = len at *
    have hp : (decide (len ≠ inn)) = ((len : Int) != (inn : Int)) := by
      by_cases h : len = inn
      · subst h; simp
      · simp [h]; omega
    rw [hp]
    clear hp hs
    go_enter Tryd.func147, Tryd.ntmps147
    go_wp2_with fail
    go_ret
    exact ⟨rfl, Frm.refl _ _⟩
  have HC := Lib.hid (contains1_any (.pointer (some ⟨w.heap.size + 1, 0, none⟩)) Av k cv' F cs _ _ hk (hR.frm hf0 (fun _ _ => id)) hq)
  have hrp : rightP inn cs = !(decide (0 ≤ idxP (fun r => decide (r.length ≠ inn)) cs)) := rfl
  rw [hrp]
  generalize (decide (0 ≤ idxP (fun r => decide (r.length ≠ inn)) cs)) = z at *
  have wi : IntKind.i64.wrap ((n : Int) - ou) = inn := by rw [IntWalk.i64_in _ (by omega)]; omega
  have b1 := hb0.at_ 1 rfl
  have b2 := hb0.at_ 2 rfl
  clear hq hR hrp hn hl
  go_enter Tryd.func131, Tryd.ntmps131
  go_wp2_with fail
  refine HC.out.mono ?_
  rintro e w1 ⟨rfl, hf1⟩
  go_wp2_with fail
  go_ret
  exact ⟨rfl, hf0.trans hf1⟩

set_option maxRecDepth 100000 in
set_option maxHeartbeats 2000000 in
theorem choose_any {M : Mt} (hM : M.Ok) (n : Nat) (hn : n = M.ou + M.inn) (A : Option Addr) (c : Nat) (B : Option Addr) (d : Nat) (F Fa Fb : Nat → Prop) (Aa : Option Addr) (la ca : Nat) (ua : List Bool) (Av : Option Addr) (k cv' : Nat) (cs : List (List Bool)) (w : World) (h4 : n ≤ 1000) (h5 : M.L.length ≤ 1000) (hk : k ≤ 1000000)
    (hA : Sl w F 2 (.slice A M.L.length c) M.L.length (pairs M.L)) (hB : Sl w F 1 (.slice B 1 d) 1 ([M.o].map (.int .i64))) (hla : ua.length = la) (h1 : la = M.ou) (hl : ∀ r ∈ cs, r.length = M.inn)
    (ha : Sl w Fa 1 (.slice Aa la ca) la (ua.map .bool)) (hR : RwB w Fb (.slice Av k cv') k cs) :
    Calls Tryd.prog 99 #[mtv M.ex M.ou n A M.L.length c B d, .slice Aa la ca, .slice Av k cv'] w fun e w' => e = .returned (.int .i64 (M.choose ua cs)) ∧ Frm (fun _ => False) w w' := by
  have hf0 := ((Frm.refl (fun _ => False) w).alloc (.cells #[.bool M.ex, .int .i64 M.ou, .int .i64 n, .slice A M.L.length c, .slice B 1 d] 104)).alloc (.cells #[.slice Aa la ca] 54)
  have hb0 : Blk ((w.alloc (.cells #[.bool M.ex, .int .i64 M.ou, .int .i64 n, .slice A M.L.length c, .slice B 1 d] 104)).alloc (.cells #[.slice Aa la ca] 54)) w.heap.size 104 [.bool M.ex, .int .i64 M.ou, .int .i64 n, .slice A M.L.length c, .slice B 1 d] := (Blk.new _ _ _).alloc _
  have hbi : Blk ((w.alloc (.cells #[.bool M.ex, .int .i64 M.ou, .int .i64 n, .slice A M.L.length c, .slice B 1 d] 104)).alloc (.cells #[.slice Aa la ca] 54)) (w.heap.size + 1) 54 [.slice Aa la ca] := Blk.new_at _ _ _ _ (by simp)
  have hq : Asks ((w.alloc (.cells #[.bool M.ex, .int .i64 M.ou, .int .i64 n, .slice A M.L.length c, .slice B 1 d] 104)).alloc (.cells #[.slice Aa la ca] 54)) Fb cs (fun mv => !(M.wanted ua mv)) 141 [.pointer (some ⟨w.heap.size, 0, none⟩), .pointer (some ⟨w.heap.size + 1, 0, none⟩)] := by
    intro W hf j hj B' d' hs
    have hm := hb0.frm hf id
    have q0 := hm.at_ 0 rfl
    have q1 := hm.at_ 1 rfl
    have q2 := hm.at_ 2 rfl
    have q3 := hm.at_ 3 rfl
    have q4 := hm.at_ 4 rfl
    have c0 := (hbi.frm hf id).at_ 0 rfl
    have hlen := hl (cs.getD j []) (by simp [List.getD, hj])
    have hfw := hf0.trans hf
    have HBT := Lib.hid (beats_any hM n hn A c B d F Fa Fb Aa la ca ua B' (cs.getD j []).length d' (cs.getD j []) W h4 h5 (hA.frm hfw (fun _ _ => id)) (hB.frm hfw (fun _ _ => id)) hla rfl h1 hlen (ha.frm hfw (fun _ _ => id)) hs)
    show Calls Tryd.prog 141 #[.slice B' (cs.getD j []).length d', .pointer (some ⟨w.heap.size, 0, none⟩), .pointer (some ⟨w.heap.size + 1, 0, none⟩)] W fun e w' => e = .returned (.bool (!(M.wanted ua (cs.getD j [])))) ∧ Frm (fun _ => False) W w'
    generalize (cs.getD j []).length = len at *
    generalize M.wanted ua (cs.getD j []) = z at *
    clear hs hlen hm hM hn hA hB hla ha hR hl hb0 hbi h1
    generalize M.ex = ex at *
    generalize M.ou = ou at *
    generalize M.L.length = m at *
    go_enter Tryd.func141, Tryd.ntmps141
    go_wp2_with fail
    refine HBT.out.mono ?_
    rintro e w1 ⟨rfl, hf1⟩
    go_wp2_with fail
    go_ret
    exact ⟨rfl, hf1⟩
  have HI := Lib.hid (index2_any (.pointer (some ⟨w.heap.size, 0, none⟩)) (.pointer (some ⟨w.heap.size + 1, 0, none⟩)) Av k cv' Fb cs _ _ hk (hR.frm hf0 (fun _ _ => id)) hq)
  rw [show idxP (fun mv => !(M.wanted ua mv)) cs = M.choose ua cs from rfl] at HI
  generalize M.choose ua cs = r at *
  clear hq hR hM hn hA hB hla ha hl hb0 hbi h1
  generalize M.ex = ex at *
  generalize M.ou = ou at *
  generalize M.L.length = m at *
  go_enter Tryd.func99, Tryd.ntmps99
  go_wp2_with fail
  refine HI.out.mono ?_
  rintro e w1 ⟨rfl, hf1⟩
  go_wp2_with fail
  go_ret
  exact ⟨rfl, hf0.trans hf1⟩

end Go.Proofs.YtkjlgamggkencaaDoor
