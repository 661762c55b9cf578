/-
  The contract of (*graph.Graph).And at literals of the graph.
-/
import Derived.Test.YtkjlgamggkencaaDoorGraph
namespace Go.Proofs.YtkjlgamggkencaaDoor
open Go.RowKit Go.Maps

theorem infoPair : (Tryd.prog.info? 73).map (fun i => (i.zero, i.size, i.bytes)) = some (some (.agg #[.int .i64 0, .int .i64 0]), 2, 16) := by kernel_rfl

/-- the two literals, in either order -/
def Ordered (x y hi lo : Int) : Prop := (x = hi ∧ y = lo ∧ lo < hi) ∨ (x = lo ∧ y = hi ∧ lo < hi) ∨ (x = hi ∧ y = hi ∧ lo = hi)

set_option maxRecDepth 100000 in
set_option maxHeartbeats 2000000 in
theorem and_plain0 (E : Nat → Value) (fp : Nat → Prop) (gb : Nat) (g : Gr) (w : World) (x y hi lo : Int) (hG : IsGr E w fp gb g) (ho : Ordered x y hi lo) (h1 : isL hi g.len = true) (h2 : isL lo g.len = true) (h0 : lo = 0) :
    Calls Tryd.prog 27 #[.pointer (some ⟨gb, 0, none⟩), .int .i64 x, .int .i64 y] w fun e w' => e = .returned (.int .i64 0) ∧ ∃ n, w.drewN n = w' := by
  have hl := hG.1.len
  have k1 : 0 ≤ hi ∧ hi ≤ 2 * (g.len : Int) + 1 := by simpa [isL] using h1
  have k2 : 0 ≤ lo ∧ lo ≤ 2 * (g.len : Int) + 1 := by simpa [isL] using h2
  have k3 := k1.1
  have k4 := k2.1
  have k5 : hi ≤ 16001 := by omega
  have k6 : lo ≤ 16001 := by omega
  have c1 := fun w' => is_any hi g.len (by omega) w'
  have c2 := fun w' => is_any lo g.len (by omega) w'
  rw [h1] at c1
  rw [h2] at c2
  have C1 := Lib.hid c1
  have C2 := Lib.hid c2
  clear c1 c2 h1 h2 k1 k2
  subst h0
  rcases ho with ⟨rfl, rfl, ho⟩ | ⟨rfl, rfl, ho⟩ | ⟨rfl, rfl, rfl⟩
  all_goals
    go_enter Tryd.func27, Tryd.ntmps27
    go_wp2_with fail
    refine (len_any E fp gb g w hG).mono ?_
    rintro e w' ⟨rfl, n1, rfl⟩
    go_wp2_with fail
    refine (C1.out _).mono ?_
    rintro e w' ⟨rfl, rfl⟩
    go_wp2_with fail
    refine (len_any E fp gb g _ (hG.drewN n1)).mono ?_
    rintro e w' ⟨rfl, n2, rfl⟩
    go_wp2_with fail
    refine (C2.out _).mono ?_
    rintro e w' ⟨rfl, rfl⟩
    go_wp2_with fail
    go_ret
    exact ⟨rfl, _, rfl⟩

set_option maxRecDepth 100000 in
set_option maxHeartbeats 2000000 in
theorem and_plain1 (E : Nat → Value) (fp : Nat → Prop) (gb : Nat) (g : Gr) (w : World) (x y hi lo : Int) (hG : IsGr E w fp gb g) (ho : Ordered x y hi lo) (h1 : isL hi g.len = true) (h2 : isL lo g.len = true) (h0 : lo = 1) :
    Calls Tryd.prog 27 #[.pointer (some ⟨gb, 0, none⟩), .int .i64 x, .int .i64 y] w fun e w' => e = .returned (.int .i64 hi) ∧ ∃ n, w.drewN n = w' := by
  have hl := hG.1.len
  have k1 : 0 ≤ hi ∧ hi ≤ 2 * (g.len : Int) + 1 := by simpa [isL] using h1
  have k2 : 0 ≤ lo ∧ lo ≤ 2 * (g.len : Int) + 1 := by simpa [isL] using h2
  have k3 := k1.1
  have k4 := k2.1
  have k5 : hi ≤ 16001 := by omega
  have k6 : lo ≤ 16001 := by omega
  have c1 := fun w' => is_any hi g.len (by omega) w'
  have c2 := fun w' => is_any lo g.len (by omega) w'
  rw [h1] at c1
  rw [h2] at c2
  have C1 := Lib.hid c1
  have C2 := Lib.hid c2
  clear c1 c2 h1 h2 k1 k2
  subst h0
  rcases ho with ⟨rfl, rfl, ho⟩ | ⟨rfl, rfl, ho⟩ | ⟨rfl, rfl, rfl⟩
  all_goals
    go_enter Tryd.func27, Tryd.ntmps27
    go_wp2_with fail
    refine (len_any E fp gb g w hG).mono ?_
    rintro e w' ⟨rfl, n1, rfl⟩
    go_wp2_with fail
    refine (C1.out _).mono ?_
    rintro e w' ⟨rfl, rfl⟩
    go_wp2_with fail
    refine (len_any E fp gb g _ (hG.drewN n1)).mono ?_
    rintro e w' ⟨rfl, n2, rfl⟩
    go_wp2_with fail
    refine (C2.out _).mono ?_
    rintro e w' ⟨rfl, rfl⟩
    go_wp2_with fail
    go_ret
    exact ⟨rfl, _, rfl⟩

set_option maxRecDepth 100000 in
set_option maxHeartbeats 2000000 in
theorem and_plain2 (E : Nat → Value) (fp : Nat → Prop) (gb : Nat) (g : Gr) (w : World) (x y hi lo : Int) (hG : IsGr E w fp gb g) (ho : Ordered x y hi lo) (h1 : isL hi g.len = true) (h2 : isL lo g.len = true) (h0 : lo ≠ 0) (h10 : lo ≠ 1) (h20 : hi = lo) :
    Calls Tryd.prog 27 #[.pointer (some ⟨gb, 0, none⟩), .int .i64 x, .int .i64 y] w fun e w' => e = .returned (.int .i64 hi) ∧ ∃ n, w.drewN n = w' := by
  have hl := hG.1.len
  have k1 : 0 ≤ hi ∧ hi ≤ 2 * (g.len : Int) + 1 := by simpa [isL] using h1
  have k2 : 0 ≤ lo ∧ lo ≤ 2 * (g.len : Int) + 1 := by simpa [isL] using h2
  have k3 := k1.1
  have k4 := k2.1
  have k5 : hi ≤ 16001 := by omega
  have k6 : lo ≤ 16001 := by omega
  have c1 := fun w' => is_any hi g.len (by omega) w'
  have c2 := fun w' => is_any lo g.len (by omega) w'
  rw [h1] at c1
  rw [h2] at c2
  have C1 := Lib.hid c1
  have C2 := Lib.hid c2
  clear c1 c2 h1 h2 k1 k2
  subst h20
  have d0 : (hi == 0) = false := by simpa using h0
  have d1 : (hi == 1) = false := by simpa using h10
  clear h0 h10
  obtain ⟨rfl, rfl⟩ : x = hi ∧ y = hi := by rcases ho with ⟨_, _, _⟩ | ⟨_, _, _⟩ | ⟨rfl, rfl, _⟩ <;> first | omega | exact ⟨rfl, rfl⟩
  clear ho
  go_enter Tryd.func27, Tryd.ntmps27
  go_wp2_with fail
  refine (len_any E fp gb g w hG).mono ?_
  rintro e w' ⟨rfl, n1, rfl⟩
  go_wp2_with fail
  refine (C1.out _).mono ?_
  rintro e w' ⟨rfl, rfl⟩
  go_wp2_with fail
  refine (len_any E fp gb g _ (hG.drewN n1)).mono ?_
  rintro e w' ⟨rfl, n2, rfl⟩
  go_wp2_with fail
  refine (C2.out _).mono ?_
  rintro e w' ⟨rfl, rfl⟩
  go_wp2_with fail
  go_ret
  exact ⟨rfl, _, rfl⟩

set_option maxRecDepth 100000 in
set_option maxHeartbeats 2000000 in
theorem and_plain3 (E : Nat → Value) (fp : Nat → Prop) (gb : Nat) (g : Gr) (w : World) (x y hi lo : Int) (hG : IsGr E w fp gb g) (ho : Ordered x y hi lo) (h1 : isL hi g.len = true) (h2 : isL lo g.len = true) (h0 : lo ≠ 0) (h10 : lo ≠ 1) (h20 : hi ≠ lo) (he : hi = notL lo) :
    Calls Tryd.prog 27 #[.pointer (some ⟨gb, 0, none⟩), .int .i64 x, .int .i64 y] w fun e w' => e = .returned (.int .i64 0) ∧ ∃ n, w.drewN n = w' := by
  have hl := hG.1.len
  have k1 : 0 ≤ hi ∧ hi ≤ 2 * (g.len : Int) + 1 := by simpa [isL] using h1
  have k2 : 0 ≤ lo ∧ lo ≤ 2 * (g.len : Int) + 1 := by simpa [isL] using h2
  have k3 := k1.1
  have k4 := k2.1
  have k5 : hi ≤ 16001 := by omega
  have k6 : lo ≤ 16001 := by omega
  have c1 := fun w' => is_any hi g.len (by omega) w'
  have c2 := fun w' => is_any lo g.len (by omega) w'
  rw [h1] at c1
  rw [h2] at c2
  have C1 := Lib.hid c1
  have C2 := Lib.hid c2
  clear c1 c2 h1 h2 k1 k2
  have d0 : (lo == 0) = false := by simpa using h0
  have d1 : (lo == 1) = false := by simpa using h10
  have d2 : (hi == lo) = false := by simpa using h20
  have d3 : (hi == notL lo) = true := by simpa using he
  have hn := fun w' => not_any lo ⟨by omega, by omega⟩ w'
  have HN := Lib.hid hn
  clear h0 h10 he hn
  rcases ho with ⟨rfl, rfl, ho⟩ | ⟨rfl, rfl, ho⟩ | ⟨rfl, rfl, ho⟩
  rotate_left 2
  · exact absurd ho.symm h20
  all_goals
    clear h20
    go_enter Tryd.func27, Tryd.ntmps27
    go_wp2_with fail
    refine (len_any E fp gb g w hG).mono ?_
    rintro e w' ⟨rfl, n1, rfl⟩
    go_wp2_with fail
    refine (C1.out _).mono ?_
    rintro e w' ⟨rfl, rfl⟩
    go_wp2_with fail
    refine (len_any E fp gb g _ (hG.drewN n1)).mono ?_
    rintro e w' ⟨rfl, n2, rfl⟩
    go_wp2_with fail
    refine (C2.out _).mono ?_
    rintro e w' ⟨rfl, rfl⟩
    go_wp2_with fail
    refine (HN.out _).mono ?_
    rintro e w' ⟨rfl, rfl⟩
    go_wp2_with fail
    go_ret
    exact ⟨rfl, _, rfl⟩

set_option maxRecDepth 100000 in
set_option maxHeartbeats 4000000 in
/-- the gate is there -/
theorem and_found (E : Nat → Value) (fp : Nat → Prop) (gb : Nat) (g : Gr) (w : World) (x y hi lo : Int) (i : Nat) (hG : IsGr E w fp gb g) (ho : Ordered x y hi lo) (h1 : isL hi g.len = true) (h2 : isL lo g.len = true)
    (h0 : lo ≠ 0) (h10 : lo ≠ 1) (h20 : hi ≠ lo) (he : hi ≠ notL lo) (hi' : idx (hi, lo) g.ands = some i) :
    Calls Tryd.prog 27 #[.pointer (some ⟨gb, 0, none⟩), .int .i64 x, .int .i64 y] w fun e w' => e = .returned (.int .i64 (2 * ((g.n : Int) + i + 1))) ∧ ∃ n, w.drewN n = w' := by
  have hl := hG.1.len
  have k1 : 0 ≤ hi ∧ hi ≤ 2 * (g.len : Int) + 1 := by simpa [isL] using h1
  have k2 : 0 ≤ lo ∧ lo ≤ 2 * (g.len : Int) + 1 := by simpa [isL] using h2
  have k3 := k1.1
  have k4 := k2.1
  have k5 : hi ≤ 16001 := by omega
  have k6 : lo ≤ 16001 := by omega
  have c1 := fun w' => is_any hi g.len (by omega) w'
  have c2 := fun w' => is_any lo g.len (by omega) w'
  rw [h1] at c1
  rw [h2] at c2
  have C1 := Lib.hid c1
  have C2 := Lib.hid c2
  have d0 : (lo == 0) = false := by simpa using h0
  have d1 : (lo == 1) = false := by simpa using h10
  have d2 : (hi == lo) = false := by simpa using h20
  have d3 : (hi == notL lo) = false := by simpa using he
  have hn := fun w' => not_any lo ⟨by omega, by omega⟩ w'
  have HN := Lib.hid hn
  have hkey := pairKey_of (a := hi) (b := lo) ⟨by omega, by omega⟩ ⟨by omega, by omega⟩
  have hG0 := hG
  obtain ⟨ok, A, c, mb, m, D, hb, hr, hm, hml, hD, f1, f2, f3⟩ := hG0
  obtain ⟨hD1, _⟩ := hD hi lo ⟨by omega, by omega⟩ ⟨by omega, by omega⟩
  obtain ⟨hhas, hat0⟩ := hD1 i hi'
  have HAT := Lib.hid hat0
  have q2 := hb.at_ 2 rfl
  clear c1 c2 h1 h2 k1 k2 h0 h10 he hn hD hD1 hat0 hi' hb hr f1 f2 f3 ok hml
  rcases ho with ⟨rfl, rfl, ho⟩ | ⟨rfl, rfl, ho⟩ | ⟨rfl, rfl, ho⟩
  rotate_left 2
  · exact absurd ho.symm h20
  all_goals
    clear h20
    go_enter Tryd.func27, Tryd.ntmps27
    go_wp2_with fail
    refine (len_any E fp gb g w hG).mono ?_
    rintro e w' ⟨rfl, n1, rfl⟩
    go_wp2_with fail
    refine (C1.out _).mono ?_
    rintro e w' ⟨rfl, rfl⟩
    go_wp2_with fail
    refine (len_any E fp gb g _ (hG.drewN n1)).mono ?_
    rintro e w' ⟨rfl, n2, rfl⟩
    go_wp2_with fail
    refine (C2.out _).mono ?_
    rintro e w' ⟨rfl, rfl⟩
    go_wp2_with fail
    refine (HN.out _).mono ?_
    rintro e w' ⟨rfl, rfl⟩
    go_wp2_with (at_lookup; refine wpList_lookup_own_ok_int _ rfl _ _ 119 rfl 73 3 .i64 pairKeyed Tryd.underlying119 Tryd.underlying3 (zeroInt _) mb m D rfl hm _ _ rfl hkey ?_; intro r hat hwc)
    go_ret
    have hr : r = 2 * ((g.n : Int) + i + 1) := by have := hat.symm.trans HAT.out; simpa using this
    exact ⟨ret_int hr, _, rfl⟩

end Go.Proofs.YtkjlgamggkencaaDoor
