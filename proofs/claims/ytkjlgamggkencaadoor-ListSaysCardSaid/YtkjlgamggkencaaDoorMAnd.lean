/-
  The contract of (*graph.Graph).And at literals of the graph.
-/
import Derived.Test.YtkjlgamggkencaaDoorMGraph
import Derived.Test.YtkjlgamggkencaaDoorMGr
namespace Go.Proofs.YtkjlgamggkencaaDoor
open Go.RowKit Go.Maps

theorem infoPair : (Tryd.prog.info? 73).map (fun i => (i.zero, i.size, i.bytes)) = some (some (.agg #[.int .i64 0, .int .i64 0]), 2, 16) := by kernel_rfl

/-- the two literals, in either order -/
def Ordered (x y hi lo : Int) : Prop := (x = hi ∧ y = lo ∧ lo < hi) ∨ (x = lo ∧ y = hi ∧ lo < hi) ∨ (x = hi ∧ y = hi ∧ lo = hi)

set_option maxRecDepth 100000 in
set_option maxHeartbeats 2000000 in
theorem and_plain0 (E : Nat → Value) (fp : Nat → Prop) (gb : Nat) (g : Gr) (w : World) (x y hi lo : Int) (hG : IsGr E w fp gb g) (ho : Ordered x y hi lo) (h1 : isL hi g.len = true) (h2 : isL lo g.len = true) (h0 : lo = 0) :
    Calls Tryd.prog 27 #[.pointer (some ⟨gb, 0, none⟩), .int .i64 x, .int .i64 y] w fun e w' => e = .returned (.int .i64 0) ∧ ∃ n, w.drewN n = w' := by
  have hl := hG.1.len
  have k1 : 0 ≤ hi ∧ hi ≤ 2 * (g.len : Int) + 1 := by simpa [isL] using h1
  have k2 : 0 ≤ lo ∧ lo ≤ 2 * (g.len : Int) + 1 := by simpa [isL] using h2
  have k3 := k1.1
  have k4 := k2.1
  have k5 : hi ≤ 16001 := by omega
  have k6 : lo ≤ 16001 := by omega
  have c1 := fun w' => is_any hi g.len (by omega) w'
  have c2 := fun w' => is_any lo g.len (by omega) w'
  rw [h1] at c1
  rw [h2] at c2
  have C1 := Lib.hid c1
  have C2 := Lib.hid c2
  clear c1 c2 h1 h2 k1 k2
  subst h0
  rcases ho with ⟨rfl, rfl, ho⟩ | ⟨rfl, rfl, ho⟩ | ⟨rfl, rfl, rfl⟩
  all_goals
    go_enter Tryd.func27, Tryd.ntmps27
    go_wp2_with fail
    refine (len_any E fp gb g w hG).mono ?_
    rintro e w' ⟨rfl, n1, rfl⟩
    go_wp2_with fail
    refine (C1.out _).mono ?_
    rintro e w' ⟨rfl, rfl⟩
    go_wp2_with fail
    refine (len_any E fp gb g _ (hG.drewN n1)).mono ?_
    rintro e w' ⟨rfl, n2, rfl⟩
    go_wp2_with fail
    refine (C2.out _).mono ?_
    rintro e w' ⟨rfl, rfl⟩
    go_wp2_with fail
    go_ret
    exact ⟨rfl, _, rfl⟩

set_option maxRecDepth 100000 in
set_option maxHeartbeats 2000000 in
theorem and_plain1 (E : Nat → Value) (fp : Nat → Prop) (gb : Nat) (g : Gr) (w : World) (x y hi lo : Int) (hG : IsGr E w fp gb g) (ho : Ordered x y hi lo) (h1 : isL hi g.len = true) (h2 : isL lo g.len = true) (h0 : lo = 1) :
    Calls Tryd.prog 27 #[.pointer (some ⟨gb, 0, none⟩), .int .i64 x, .int .i64 y] w fun e w' => e = .returned (.int .i64 hi) ∧ ∃ n, w.drewN n = w' := by
  have hl := hG.1.len
  have k1 : 0 ≤ hi ∧ hi ≤ 2 * (g.len : Int) + 1 := by simpa [isL] using h1
  have k2 : 0 ≤ lo ∧ lo ≤ 2 * (g.len : Int) + 1 := by simpa [isL] using h2
  have k3 := k1.1
  have k4 := k2.1
  have k5 : hi ≤ 16001 := by omega
  have k6 : lo ≤ 16001 := by omega
  have c1 := fun w' => is_any hi g.len (by omega) w'
  have c2 := fun w' => is_any lo g.len (by omega) w'
  rw [h1] at c1
  rw [h2] at c2
  have C1 := Lib.hid c1
  have C2 := Lib.hid c2
  clear c1 c2 h1 h2 k1 k2
  subst h0
  rcases ho with ⟨rfl, rfl, ho⟩ | ⟨rfl, rfl, ho⟩ | ⟨rfl, rfl, rfl⟩
  all_goals
    go_enter Tryd.func27, Tryd.ntmps27
    go_wp2_with fail
    refine (len_any E fp gb g w hG).mono ?_
    rintro e w' ⟨rfl, n1, rfl⟩
    go_wp2_with fail
    refine (C1.out _).mono ?_
    rintro e w' ⟨rfl, rfl⟩
    go_wp2_with fail
    refine (len_any E fp gb g _ (hG.drewN n1)).mono ?_
    rintro e w' ⟨rfl, n2, rfl⟩
    go_wp2_with fail
    refine (C2.out _).mono ?_
    rintro e w' ⟨rfl, rfl⟩
    go_wp2_with fail
    go_ret
    exact ⟨rfl, _, rfl⟩

set_option maxRecDepth 100000 in
set_option maxHeartbeats 2000000 in
theorem and_plain2 (E : Nat → Value) (fp : Nat → Prop) (gb : Nat) (g : Gr) (w : World) (x y hi lo : Int) (hG : IsGr E w fp gb g) (ho : Ordered x y hi lo) (h1 : isL hi g.len = true) (h2 : isL lo g.len = true) (h0 : lo ≠ 0) (h10 : lo ≠ 1) (h20 : hi = lo) :
    Calls Tryd.prog 27 #[.pointer (some ⟨gb, 0, none⟩), .int .i64 x, .int .i64 y] w fun e w' => e = .returned (.int .i64 hi) ∧ ∃ n, w.drewN n = w' := by
  have hl := hG.1.len
  have k1 : 0 ≤ hi ∧ hi ≤ 2 * (g.len : Int) + 1 := by simpa [isL] using h1
  have k2 : 0 ≤ lo ∧ lo ≤ 2 * (g.len : Int) + 1 := by simpa [isL] using h2
  have k3 := k1.1
  have k4 := k2.1
  have k5 : hi ≤ 16001 := by omega
  have k6 : lo ≤ 16001 := by omega
  have c1 := fun w' => is_any hi g.len (by omega) w'
  have c2 := fun w' => is_any lo g.len (by omega) w'
  rw [h1] at c1
  rw [h2] at c2
  have C1 := Lib.hid c1
  have C2 := Lib.hid c2
  clear c1 c2 h1 h2 k1 k2
  subst h20
  have d0 : (hi == 0) = false := by simpa using h0
  have d1 : (hi == 1) = false := by simpa using h10
  clear h0 h10
  obtain ⟨rfl, rfl⟩ : x = hi ∧ y = hi := by rcases ho with ⟨_, _, _⟩ | ⟨_, _, _⟩ | ⟨rfl, rfl, _⟩ <;> first | omega | exact ⟨rfl, rfl⟩
  clear ho
  go_enter Tryd.func27, Tryd.ntmps27
  go_wp2_with fail
  refine (len_any E fp gb g w hG).mono ?_
  rintro e w' ⟨rfl, n1, rfl⟩
  go_wp2_with fail
  refine (C1.out _).mono ?_
  rintro e w' ⟨rfl, rfl⟩
  go_wp2_with fail
  refine (len_any E fp gb g _ (hG.drewN n1)).mono ?_
  rintro e w' ⟨rfl, n2, rfl⟩
  go_wp2_with fail
  refine (C2.out _).mono ?_
  rintro e w' ⟨rfl, rfl⟩
  go_wp2_with fail
  go_ret
  exact ⟨rfl, _, rfl⟩

set_option maxRecDepth 100000 in
set_option maxHeartbeats 2000000 in
theorem and_plain3 (E : Nat → Value) (fp : Nat → Prop) (gb : Nat) (g : Gr) (w : World) (x y hi lo : Int) (hG : IsGr E w fp gb g) (ho : Ordered x y hi lo) (h1 : isL hi g.len = true) (h2 : isL lo g.len = true) (h0 : lo ≠ 0) (h10 : lo ≠ 1) (h20 : hi ≠ lo) (he : hi = notL lo) :
    Calls Tryd.prog 27 #[.pointer (some ⟨gb, 0, none⟩), .int .i64 x, .int .i64 y] w fun e w' => e = .returned (.int .i64 0) ∧ ∃ n, w.drewN n = w' := by
  have hl := hG.1.len
  have k1 : 0 ≤ hi ∧ hi ≤ 2 * (g.len : Int) + 1 := by simpa [isL] using h1
  have k2 : 0 ≤ lo ∧ lo ≤ 2 * (g.len : Int) + 1 := by simpa [isL] using h2
  have k3 := k1.1
  have k4 := k2.1
  have k5 : hi ≤ 16001 := by omega
  have k6 : lo ≤ 16001 := by omega
  have c1 := fun w' => is_any hi g.len (by omega) w'
  have c2 := fun w' => is_any lo g.len (by omega) w'
  rw [h1] at c1
  rw [h2] at c2
  have C1 := Lib.hid c1
  have C2 := Lib.hid c2
  clear c1 c2 h1 h2 k1 k2
  have d0 : (lo == 0) = false := by simpa using h0
  have d1 : (lo == 1) = false := by simpa using h10
  have d2 : (hi == lo) = false := by simpa using h20
  have d3 : (hi == notL lo) = true := by simpa using he
  have hn := fun w' => not_any lo ⟨by omega, by omega⟩ w'
  have HN := Lib.hid hn
  clear h0 h10 he hn
  rcases ho with ⟨rfl, rfl, ho⟩ | ⟨rfl, rfl, ho⟩ | ⟨rfl, rfl, ho⟩
  rotate_left 2
  · exact absurd ho.symm h20
  all_goals
    clear h20
    go_enter Tryd.func27, Tryd.ntmps27
    go_wp2_with fail
    refine (len_any E fp gb g w hG).mono ?_
    rintro e w' ⟨rfl, n1, rfl⟩
    go_wp2_with fail
    refine (C1.out _).mono ?_
    rintro e w' ⟨rfl, rfl⟩
    go_wp2_with fail
    refine (len_any E fp gb g _ (hG.drewN n1)).mono ?_
    rintro e w' ⟨rfl, n2, rfl⟩
    go_wp2_with fail
    refine (C2.out _).mono ?_
    rintro e w' ⟨rfl, rfl⟩
    go_wp2_with fail
    refine (HN.out _).mono ?_
    rintro e w' ⟨rfl, rfl⟩
    go_wp2_with fail
    go_ret
    exact ⟨rfl, _, rfl⟩

set_option maxRecDepth 100000 in
set_option maxHeartbeats 4000000 in
/-- the gate is there -/
theorem and_found (E : Nat → Value) (fp : Nat → Prop) (gb : Nat) (g : Gr) (w : World) (x y hi lo : Int) (i : Nat) (hG : IsGr E w fp gb g) (ho : Ordered x y hi lo) (h1 : isL hi g.len = true) (h2 : isL lo g.len = true)
    (h0 : lo ≠ 0) (h10 : lo ≠ 1) (h20 : hi ≠ lo) (he : hi ≠ notL lo) (hi' : idx (hi, lo) g.ands = some i) :
    Calls Tryd.prog 27 #[.pointer (some ⟨gb, 0, none⟩), .int .i64 x, .int .i64 y] w fun e w' => e = .returned (.int .i64 (2 * ((g.n : Int) + i + 1))) ∧ ∃ n, w.drewN n = w' := by
  have hl := hG.1.len
  have k1 : 0 ≤ hi ∧ hi ≤ 2 * (g.len : Int) + 1 := by simpa [isL] using h1
  have k2 : 0 ≤ lo ∧ lo ≤ 2 * (g.len : Int) + 1 := by simpa [isL] using h2
  have k3 := k1.1
  have k4 := k2.1
  have k5 : hi ≤ 16001 := by omega
  have k6 : lo ≤ 16001 := by omega
  have c1 := fun w' => is_any hi g.len (by omega) w'
  have c2 := fun w' => is_any lo g.len (by omega) w'
  rw [h1] at c1
  rw [h2] at c2
  have C1 := Lib.hid c1
  have C2 := Lib.hid c2
  have d0 : (lo == 0) = false := by simpa using h0
  have d1 : (lo == 1) = false := by simpa using h10
  have d2 : (hi == lo) = false := by simpa using h20
  have d3 : (hi == notL lo) = false := by simpa using he
  have hn := fun w' => not_any lo ⟨by omega, by omega⟩ w'
  have HN := Lib.hid hn
  have hkey := pairKey_of (a := hi) (b := lo) ⟨by omega, by omega⟩ ⟨by omega, by omega⟩
  have hG0 := hG
  obtain ⟨ok, A, c, mb, m, D, hb, hr, hm, hml, hD, f1, f2, f3⟩ := hG0
  obtain ⟨hD1, _⟩ := hD hi lo ⟨by omega, by omega⟩ ⟨by omega, by omega⟩
  obtain ⟨hhas, hat0⟩ := hD1 i hi'
  have HAT := Lib.hid hat0
  have q2 := hb.at_ 2 rfl
  clear c1 c2 h1 h2 k1 k2 h0 h10 he hn hD hD1 hat0 hi' hb hr f1 f2 f3 ok hml
  rcases ho with ⟨rfl, rfl, ho⟩ | ⟨rfl, rfl, ho⟩ | ⟨rfl, rfl, ho⟩
  rotate_left 2
  · exact absurd ho.symm h20
  all_goals
    clear h20
    go_enter Tryd.func27, Tryd.ntmps27
    go_wp2_with fail
    refine (len_any E fp gb g w hG).mono ?_
    rintro e w' ⟨rfl, n1, rfl⟩
    go_wp2_with fail
    refine (C1.out _).mono ?_
    rintro e w' ⟨rfl, rfl⟩
    go_wp2_with fail
    refine (len_any E fp gb g _ (hG.drewN n1)).mono ?_
    rintro e w' ⟨rfl, n2, rfl⟩
    go_wp2_with fail
    refine (C2.out _).mono ?_
    rintro e w' ⟨rfl, rfl⟩
    go_wp2_with fail
    refine (HN.out _).mono ?_
    rintro e w' ⟨rfl, rfl⟩
    go_wp2_with (at_lookup; refine wpList_lookup_own_ok_int _ rfl _ _ 119 rfl 73 3 .i64 pairKeyed Tryd.underlying119 Tryd.underlying3 (zeroInt _) mb m D rfl hm _ _ rfl hkey ?_; intro r hat hwc)
    go_ret
    have hr : r = 2 * ((g.n : Int) + i + 1) := by have := hat.symm.trans HAT.out; simpa using this
    exact ⟨ret_int hr, _, rfl⟩

end Go.Proofs.YtkjlgamggkencaaDoor

namespace Go.Proofs.YtkjlgamggkencaaDoor
open Go.RowKit Go.Maps

theorem own_blk_ne' {w : World} {base : Nat} {e : TypeId} {sz n : Nat} {v : Value} {xs : List Value} {g : Nat} {t : TypeId} {cs : List Value} (h : w.ownsRow base e sz v n xs) (hb : Blk w g t cs) (hne : e ≠ t) : v.ownBlock ≠ some g := by
  rcases h.2 with ⟨rfl, _⟩ | ⟨g', cap, cur, rfl, _, hh, _⟩
  · simp [Value.ownBlock]
  · intro he
    have : g' = g := by simpa [Value.ownBlock] using he
    subst this
    unfold Blk at hb
    rw [hb] at hh
    injection hh with hh
    injection hh with _ ht
    exact hne ht.symm
theorem own_map_ne {w : World} {base : Nat} {e : TypeId} {sz n : Nat} {v : Value} {xs : List Value} {mb m : Nat} {D : DataW Unit} (h : w.ownsRow base e sz v n xs) (hb : w.ownsMap Tryd.prog 73 (plainElem Tryd.prog 3) mb m D) : v.ownBlock ≠ some mb := by
  obtain ⟨es, clock, hb, _⟩ := hb
  rcases h.2 with ⟨rfl, _⟩ | ⟨g', cap, cur, rfl, _, hh, _⟩
  · simp [Value.ownBlock]
  · intro he
    have : g' = mb := by simpa [Value.ownBlock] using he
    subst this
    rw [hb] at hh
    cases hh
theorem blk_map_ne {w : World} {g : Nat} {t : TypeId} {cs : List Value} {mb m : Nat} {D : DataW Unit} (h : Blk w g t cs) (hb : w.ownsMap Tryd.prog 73 (plainElem Tryd.prog 3) mb m D) : g ≠ mb := by
  obtain ⟨es, clock, hb, _⟩ := hb
  rintro rfl
  unfold Blk at h
  rw [h] at hb
  cases hb

theorem mapOk_put {D : DataW Unit} {g : Gr} {hi lo : Int} (h : MapOk D g) (hD : IsMap D) (h1 : Small hi) (h2 : Small lo) (hn : idx (hi, lo) g.ands = none) :
    MapOk (D.put (pairKey hi lo) (.lit (.int .i64 (2 * ((g.n : Int) + g.ands.length + 1))))) { g with ands := g.ands ++ [(hi, lo)] } := by
  intro a b ha hb
  have hk := pairKeyed.key (pairKey_of h1 h2)
  by_cases e : (hi, lo) = (a, b)
  · cases e
    constructor
    · intro i hi'
      rw [idx_append] at hi'
      simp [hn] at hi'
      subst hi'
      exact ⟨has_put_same hD hk _, atKey_put_same hD hk _ _⟩
    · intro h'
      rw [idx_append] at h'
      simp [hn] at h'
  · have hne : pairKey a b ≠ pairKey hi lo := by
      intro hh
      have := pairKeyed.inj (pairKey_of ha hb) (by rw [hh]; exact pairKey_of h1 h2)
      simp at this
      exact e (by rw [this.1, this.2])
    have hi2 : idx (a, b) (g.ands ++ [(hi, lo)]) = idx (a, b) g.ands := by
      rw [idx_append, if_neg e]
      split
      · rename_i h'; exact h'.symm
      · rfl
    show (∀ i, idx (a, b) (g.ands ++ [(hi, lo)]) = some i → _) ∧ _
    rw [hi2, has_put_other hne, atKey_put_other hne]
    exact h a b ha hb

set_option maxRecDepth 100000 in
set_option maxHeartbeats 8000000 in
/-- the gate is new -/
theorem and_new (E : Nat → Value) (fp : Nat → Prop) (gb : Nat) (g : Gr) (w : World) (x y hi lo : Int) (hG : IsGr E w fp gb g) (ho : Ordered x y hi lo) (h1 : isL hi g.len = true) (h2 : isL lo g.len = true)
    (h0 : lo ≠ 0) (h10 : lo ≠ 1) (h20 : hi ≠ lo) (he : hi ≠ notL lo) (hi' : idx (hi, lo) g.ands = none) (hlt : g.len < 8000) :
    Calls Tryd.prog 27 #[.pointer (some ⟨gb, 0, none⟩), .int .i64 x, .int .i64 y] w fun e w' => e = .returned (.int .i64 (2 * ((g.len : Int) + 1))) ∧
      ∃ fp', IsGr E w' fp' gb { g with ands := g.ands ++ [(hi, lo)] } ∧ (∀ k, fp' k → fp k ∨ (w.heap.size ≤ k ∧ k < w'.heap.size)) ∧ Frm fp w w' := by
  have hl := hG.1.len
  have k1 : 0 ≤ hi ∧ hi ≤ 2 * (g.len : Int) + 1 := by simpa [isL] using h1
  have k2 : 0 ≤ lo ∧ lo ≤ 2 * (g.len : Int) + 1 := by simpa [isL] using h2
  have k3 := k1.1
  have k4 := k2.1
  have k5 : hi ≤ 16001 := by omega
  have k6 : lo ≤ 16001 := by omega
  have c1 := fun w' => is_any hi g.len (by omega) w'
  have c2 := fun w' => is_any lo g.len (by omega) w'
  rw [h1] at c1
  rw [h2] at c2
  have C1 := Lib.hid c1
  have C2 := Lib.hid c2
  have d0 : (lo == 0) = false := by simpa using h0
  have d1 : (lo == 1) = false := by simpa using h10
  have d2 : (hi == lo) = false := by simpa using h20
  have d3 : (hi == notL lo) = false := by simpa using he
  have hn := fun w' => not_any lo ⟨by omega, by omega⟩ w'
  have HN := Lib.hid hn
  have s1 : Small hi := ⟨by omega, by omega⟩
  have s2 : Small lo := ⟨by omega, by omega⟩
  have hkey := pairKey_of s1 s2
  have hG0 := hG
  obtain ⟨ok, A, c, mb, m, D, hb, hr, hm, hml, hD, f1, f2, f3⟩ := hG0
  obtain ⟨_, hD2⟩ := hD hi lo s1 s2
  have hhas := hD2 hi'
  have q1 := hb.at_ 1 rfl
  have q2 := hb.at_ 2 rfl
  have hgl : g.n + g.ands.length < 8000 := hlt
  have HI := Lib.hid hi'
  have HD := Lib.hid hD
  obtain ⟨i0, hi0, hz0, hz1, hz2⟩ := info_parts infoPair
  clear c1 c2 h1 h2 k1 k2 h0 h10 he hn hD2 hD hi'
  have hp1 : some gb ≠ (Value.slice A g.ands.length c).ownBlock := fun e => own_blk_ne' hr hb (by decide) e.symm
  have hp2 : some mb ≠ (Value.slice A g.ands.length c).ownBlock := fun e => own_map_ne hr hm e.symm
  have hp3 := blk_map_ne hb hm
  rcases ho with ⟨rfl, rfl, ho⟩ | ⟨rfl, rfl, ho⟩ | ⟨rfl, rfl, ho⟩
  rotate_left 2
  · exact absurd ho.symm h20
  · clear h20
    go_enter Tryd.func27, Tryd.ntmps27
    go_wp2_with fail
    refine (len_any E fp gb g w hG).mono ?_
    rintro e w' ⟨rfl, n1, rfl⟩
    go_wp2_with fail
    refine (C1.out _).mono ?_
    rintro e w' ⟨rfl, rfl⟩
    go_wp2_with fail
    refine (len_any E fp gb g _ (hG.drewN n1)).mono ?_
    rintro e w' ⟨rfl, n2, rfl⟩
    go_wp2_with fail
    refine (C2.out _).mono ?_
    rintro e w' ⟨rfl, rfl⟩
    go_wp2_with fail
    refine (HN.out _).mono ?_
    rintro e w' ⟨rfl, rfl⟩
    go_wp2_with (at_lookup; refine wpList_lookup_own_ok_int _ rfl _ _ 119 rfl 73 3 .i64 pairKeyed Tryd.underlying119 Tryd.underlying3 (zeroInt _) mb m D rfl hm _ _ rfl hkey ?_; intro r hat hwc)
    clear hat hwc
    refine (len_any E fp gb g _ (hG.drewN _)).mono ?_
    rintro e w' ⟨rfl, n3, rfl⟩
    go_wp2_with (at_builtin; refine wpList_append_own_at _ rfl (.tmp 72) (.tmp 76) 35 rfl 0 73 i0 (.agg #[.int .i64 0, .int .i64 0]) 2 16 Tryd.underlying35 hi0 hz0 hz1 hz2 rfl (by decide) _ _ _ rfl (hr.alloc (.cells #[.int .i64 x, .int .i64 y] 73)) ⟨w.heap.size, 0, none⟩ 1 1 [.int .i64 x, .int .i64 y] rfl rfl ?c1 ?c2 ?c3 ?c4 ?c5 ?_)
    case c1 => intro j u hu; rw [addr_add, Nat.zero_add]; exact ((Blk.new w 73 [.int .i64 x, .int .i64 y]).cell j).trans hu
    case c2 => intro u hu; simp at hu; rcases hu with rfl | rfl <;> rfl
    case c3 => unfold maxLen; omega
    case c4 => omega
    case c5 => omega
    intro v' w1 hown1 hgrow _ hloc
    have hown1' := hown1
    obtain ⟨A', c', rfl, _⟩ := (Sl.of_own hown1').form
    clear hown1'
    have hfrA : Frm fp w w1 := (((Frm.refl fp w).alloc (.cells #[.int .i64 x, .int .i64 y] 73)).drewN _).grown hgrow (fun k hk _ => f3 k hk)
    have hgl' := hb.lt
    have hml' : mb < w.heap.size := by
      obtain ⟨es, clock, hmb, _⟩ := hm
      rcases Nat.lt_or_ge mb w.heap.size with h | h
      · exact h
      · rw [Array.getElem?_eq_none h] at hmb; cases hmb
    have hb1 : Blk w1 gb 121 _ := (hgrow.block gb (by simp; omega) hp1).trans (hb.alloc (.cells #[.int .i64 x, .int .i64 y] 73))
    have hm1 : w1.ownsMap Tryd.prog 73 (plainElem Tryd.prog 3) mb m D := by
      obtain ⟨es, clock, hmb, r⟩ := hm
      exact ⟨es, clock, (hgrow.block mb (by simp; omega) hp2).trans ((Below.heap_alloc w _ mb hml').trans hmb), r⟩
    have hz := hgrow.size
    have hne1 := own_blk_ne' hown1 hb1 (by decide)
    have hne2 := own_map_ne hown1 hm1
    have hbase : w.heap.size ≤ w1.heap.size := hfrA.size
    have hloc' : ∀ k, (Value.slice A' (g.ands.length + 1) c').ownBlock = some k → fp k ∨ (w.heap.size ≤ k ∧ k < w1.heap.size) := by
      intro k hk
      rcases hloc with e | e
      · exact .inl (f3 k (e.symm.trans hk))
      · refine .inr ⟨?_, (hown1.lt k hk).2⟩
        have := e.symm.trans hk
        simp at this
        omega
    have q1 := hb1.at_ 1 rfl
    have q2 := hb1.at_ 2 rfl
    have fr1 := hb1.frozen 1
    clear hgrow hloc hz hr hb
    go_wp2_with fail
    have hb2 := hb1.set_ 1 (.slice A' (g.ands.length + 1) c')
    refine (len_raw gb g.n (g.ands.length + 1) c' A' _ (by omega) (hb2.at_ 0 rfl) (hb2.at_ 1 rfl)).mono ?_
    rintro e w' ⟨rfl, n4, rfl⟩
    have hm2 := hm1.setCell (a := ⟨gb, 1, none⟩) (fun e => hp3 e.symm) (.slice A' (g.ands.length + 1) c')
    have q2' := hb2.at_ 2 rfl
    go_wp2_with (at_mapUpdate; refine wpList_mapUpdate_in _ rfl _ _ _ 119 rfl 73 3 pairKeyed Tryd.underlying119 (plainElem Tryd.prog 3) mb m D rfl hm2 ?hn _ _ _ rfl rfl hkey (.lit (.int .i64 (2 * ((g.n : Int) + g.ands.length + 1)))) [] ?hv ?_)
    case hn => unfold maxLen; omega
    case hv =>
      show plainElem Tryd.prog 3 (.int .i64 (2 * ((g.n : Int) + ((g.ands.length : Int) + 1)))) = _
      rw [show 2 * ((g.n : Int) + ((g.ands.length : Int) + 1)) = 2 * ((g.n : Int) + g.ands.length + 1) from by omega]
      exact plainElem_int Tryd.underlying3 (wf_small ⟨by omega, by omega⟩)
    intro w2 hown2 hturn
    have hfrB : Frm (fun k => k = gb ∨ k = mb) w1 w2 := (((Frm.refl (fun k => k = gb ∨ k = mb) w1).setCell (p := ⟨gb, 1, none⟩) (fun _ => .inl rfl) _).drewN n4).grown hturn.grown (fun k hk _ => .inr (by injection hk with hk; exact hk.symm))
    have hb3 : Blk w2 gb 121 _ := (hturn.grown.block gb hb2.lt (fun e => hp3 (by injection e))).trans hb2
    have hr3 := own_frm hown1 hfrB (fun k hk e => by
      rcases e with rfl | rfl
      · exact hne1 hk
      · exact hne2 hk)
    have hfr : Frm fp w w2 := hfrA.trans' hfrB (fun _ _ h => h) (fun k _ e => by
      rcases e with rfl | rfl
      · exact f1
      · exact f2)
    have hmo := mapOk_put HD.out hm.isMap s1 s2 HI.out
    have HS := Lib.hid hfrB.size
    clear hown1 hturn hm1 hm2 hfrA hfrB q1 q2 q2' hm hG
    go_wp2_with fail
    go_ret
    have hsz : w1.heap.size ≤ w2.heap.size := HS.out
    refine ⟨ret_int (by unfold Gr.len; omega), fun k => fp k ∨ (w.heap.size ≤ k ∧ k < w2.heap.size), ⟨⟨by show g.n + (g.ands ++ [(x, y)]).length ≤ 8000; simp; omega, ?_⟩, A', c', mb, m + 1, _, ?_, ?_, hown2, by simp; omega, hmo, .inl f1, .inl f2, ?_⟩, fun _ => id, hfr⟩
    · intro p hp
      rcases List.mem_append.1 hp with hp | hp
      · exact ok.small p hp
      · simp at hp; subst hp; exact ⟨s1, s2⟩
    · simpa using hb3
    · rw [pairs_append]; simpa [pairs] using hr3
    · intro k hk
      rcases hloc' k (by simpa using hk) with h | h
      · exact .inl h
      · exact .inr ⟨h.1, by omega⟩
  · clear h20
    go_enter Tryd.func27, Tryd.ntmps27
    go_wp2_with fail
    refine (len_any E fp gb g w hG).mono ?_
    rintro e w' ⟨rfl, n1, rfl⟩
    go_wp2_with fail
    refine (C1.out _).mono ?_
    rintro e w' ⟨rfl, rfl⟩
    go_wp2_with fail
    refine (len_any E fp gb g _ (hG.drewN n1)).mono ?_
    rintro e w' ⟨rfl, n2, rfl⟩
    go_wp2_with fail
    refine (C2.out _).mono ?_
    rintro e w' ⟨rfl, rfl⟩
    go_wp2_with fail
    refine (HN.out _).mono ?_
    rintro e w' ⟨rfl, rfl⟩
    go_wp2_with (at_lookup; refine wpList_lookup_own_ok_int _ rfl _ _ 119 rfl 73 3 .i64 pairKeyed Tryd.underlying119 Tryd.underlying3 (zeroInt _) mb m D rfl hm _ _ rfl hkey ?_; intro r hat hwc)
    clear hat hwc
    refine (len_any E fp gb g _ (hG.drewN _)).mono ?_
    rintro e w' ⟨rfl, n3, rfl⟩
    go_wp2_with (at_builtin; refine wpList_append_own_at _ rfl (.tmp 72) (.tmp 76) 35 rfl 0 73 i0 (.agg #[.int .i64 0, .int .i64 0]) 2 16 Tryd.underlying35 hi0 hz0 hz1 hz2 rfl (by decide) _ _ _ rfl (hr.alloc (.cells #[.int .i64 y, .int .i64 x] 73)) ⟨w.heap.size, 0, none⟩ 1 1 [.int .i64 y, .int .i64 x] rfl rfl ?c1 ?c2 ?c3 ?c4 ?c5 ?_)
    case c1 => intro j u hu; rw [addr_add, Nat.zero_add]; exact ((Blk.new w 73 [.int .i64 y, .int .i64 x]).cell j).trans hu
    case c2 => intro u hu; simp at hu; rcases hu with rfl | rfl <;> rfl
    case c3 => unfold maxLen; omega
    case c4 => omega
    case c5 => omega
    intro v' w1 hown1 hgrow _ hloc
    have hown1' := hown1
    obtain ⟨A', c', rfl, _⟩ := (Sl.of_own hown1').form
    clear hown1'
    have hfrA : Frm fp w w1 := (((Frm.refl fp w).alloc (.cells #[.int .i64 y, .int .i64 x] 73)).drewN _).grown hgrow (fun k hk _ => f3 k hk)
    have hgl' := hb.lt
    have hml' : mb < w.heap.size := by
      obtain ⟨es, clock, hmb, _⟩ := hm
      rcases Nat.lt_or_ge mb w.heap.size with h | h
      · exact h
      · rw [Array.getElem?_eq_none h] at hmb; cases hmb
    have hb1 : Blk w1 gb 121 _ := (hgrow.block gb (by simp; omega) hp1).trans (hb.alloc (.cells #[.int .i64 y, .int .i64 x] 73))
    have hm1 : w1.ownsMap Tryd.prog 73 (plainElem Tryd.prog 3) mb m D := by
      obtain ⟨es, clock, hmb, r⟩ := hm
      exact ⟨es, clock, (hgrow.block mb (by simp; omega) hp2).trans ((Below.heap_alloc w _ mb hml').trans hmb), r⟩
    have hz := hgrow.size
    have hne1 := own_blk_ne' hown1 hb1 (by decide)
    have hne2 := own_map_ne hown1 hm1
    have hbase : w.heap.size ≤ w1.heap.size := hfrA.size
    have hloc' : ∀ k, (Value.slice A' (g.ands.length + 1) c').ownBlock = some k → fp k ∨ (w.heap.size ≤ k ∧ k < w1.heap.size) := by
      intro k hk
      rcases hloc with e | e
      · exact .inl (f3 k (e.symm.trans hk))
      · refine .inr ⟨?_, (hown1.lt k hk).2⟩
        have := e.symm.trans hk
        simp at this
        omega
    have q1 := hb1.at_ 1 rfl
    have q2 := hb1.at_ 2 rfl
    have fr1 := hb1.frozen 1
    clear hgrow hloc hz hr hb
    go_wp2_with fail
    have hb2 := hb1.set_ 1 (.slice A' (g.ands.length + 1) c')
    refine (len_raw gb g.n (g.ands.length + 1) c' A' _ (by omega) (hb2.at_ 0 rfl) (hb2.at_ 1 rfl)).mono ?_
    rintro e w' ⟨rfl, n4, rfl⟩
    have hm2 := hm1.setCell (a := ⟨gb, 1, none⟩) (fun e => hp3 e.symm) (.slice A' (g.ands.length + 1) c')
    have q2' := hb2.at_ 2 rfl
    go_wp2_with (at_mapUpdate; refine wpList_mapUpdate_in _ rfl _ _ _ 119 rfl 73 3 pairKeyed Tryd.underlying119 (plainElem Tryd.prog 3) mb m D rfl hm2 ?hn _ _ _ rfl rfl hkey (.lit (.int .i64 (2 * ((g.n : Int) + g.ands.length + 1)))) [] ?hv ?_)
    case hn => unfold maxLen; omega
    case hv =>
      show plainElem Tryd.prog 3 (.int .i64 (2 * ((g.n : Int) + ((g.ands.length : Int) + 1)))) = _
      rw [show 2 * ((g.n : Int) + ((g.ands.length : Int) + 1)) = 2 * ((g.n : Int) + g.ands.length + 1) from by omega]
      exact plainElem_int Tryd.underlying3 (wf_small ⟨by omega, by omega⟩)
    intro w2 hown2 hturn
    have hfrB : Frm (fun k => k = gb ∨ k = mb) w1 w2 := (((Frm.refl (fun k => k = gb ∨ k = mb) w1).setCell (p := ⟨gb, 1, none⟩) (fun _ => .inl rfl) _).drewN n4).grown hturn.grown (fun k hk _ => .inr (by injection hk with hk; exact hk.symm))
    have hb3 : Blk w2 gb 121 _ := (hturn.grown.block gb hb2.lt (fun e => hp3 (by injection e))).trans hb2
    have hr3 := own_frm hown1 hfrB (fun k hk e => by
      rcases e with rfl | rfl
      · exact hne1 hk
      · exact hne2 hk)
    have hfr : Frm fp w w2 := hfrA.trans' hfrB (fun _ _ h => h) (fun k _ e => by
      rcases e with rfl | rfl
      · exact f1
      · exact f2)
    have hmo := mapOk_put HD.out hm.isMap s1 s2 HI.out
    have HS := Lib.hid hfrB.size
    clear hown1 hturn hm1 hm2 hfrA hfrB q1 q2 q2' hm hG
    go_wp2_with fail
    go_ret
    have hsz : w1.heap.size ≤ w2.heap.size := HS.out
    refine ⟨ret_int (by unfold Gr.len; omega), fun k => fp k ∨ (w.heap.size ≤ k ∧ k < w2.heap.size), ⟨⟨by show g.n + (g.ands ++ [(y, x)]).length ≤ 8000; simp; omega, ?_⟩, A', c', mb, m + 1, _, ?_, ?_, hown2, by simp; omega, hmo, .inl f1, .inl f2, ?_⟩, fun _ => id, hfr⟩
    · intro p hp
      rcases List.mem_append.1 hp with hp | hp
      · exact ok.small p hp
      · simp at hp; subst hp; exact ⟨s1, s2⟩
    · simpa using hb3
    · rw [pairs_append]; simpa [pairs] using hr3
    · intro k hk
      rcases hloc' k (by simpa using hk) with h | h
      · exact .inl h
      · exact .inr ⟨h.1, by omega⟩

end Go.Proofs.YtkjlgamggkencaaDoor

namespace Go.Proofs.YtkjlgamggkencaaDoor
open Go.RowKit

/-- fp' is fp and what is new -/
def Grows (fp fp' : Nat → Prop) (w w' : World) : Prop := ∀ k, fp' k → fp k ∨ (w.heap.size ≤ k ∧ k < w'.heap.size)

theorem ordered_of {a b hi lo : Int} (h : (hi = a ∧ lo = b ∧ b ≤ a) ∨ (hi = b ∧ lo = a ∧ a < b)) : Ordered a b hi lo := by
  rcases h with ⟨rfl, rfl, h⟩ | ⟨rfl, rfl, h⟩
  · by_cases e : lo = hi
    · exact .inr (.inr ⟨rfl, e, e⟩)
    · exact .inl ⟨rfl, rfl, by omega⟩
  · exact .inr (.inl ⟨rfl, rfl, h⟩)

theorem and_any (E : Nat → Value) (fp : Nat → Prop) (gb : Nat) (g : Gr) (w : World) (a b : Int) (hG : IsGr E w fp gb g) (h1 : isL a g.len = true) (h2 : isL b g.len = true) (hl : g.len < 8000) :
    Calls Tryd.prog 27 #[.pointer (some ⟨gb, 0, none⟩), .int .i64 a, .int .i64 b] w fun e w' => e = .returned (.int .i64 (g.and a b).1) ∧
      ∃ fp', IsGr E w' fp' gb (g.and a b).2 ∧ Grows fp fp' w w' ∧ Frm fp w w' := by
  obtain ⟨hi, lo, he, ho⟩ := and_hi_lo a b
  have h3 : isL hi g.len = true ∧ isL lo g.len = true := by rcases ho with ⟨rfl, rfl, _⟩ | ⟨rfl, rfl, _⟩ <;> exact ⟨by assumption, by assumption⟩
  have hO := ordered_of ho
  rw [he]
  have same : ∀ {r : Int}, (Calls Tryd.prog 27 #[.pointer (some ⟨gb, 0, none⟩), .int .i64 a, .int .i64 b] w fun e w' => e = .returned (.int .i64 r) ∧ ∃ n, w.drewN n = w') → g.put hi lo = (r, g) →
      Calls Tryd.prog 27 #[.pointer (some ⟨gb, 0, none⟩), .int .i64 a, .int .i64 b] w fun e w' => e = .returned (.int .i64 (g.put hi lo).1) ∧ ∃ fp', IsGr E w' fp' gb (g.put hi lo).2 ∧ Grows fp fp' w w' ∧ Frm fp w w' := by
    intro r hc e
    rw [e]
    refine hc.mono ?_
    rintro e w' ⟨rfl, n, rfl⟩
    exact ⟨rfl, fp, hG.drewN n, fun k hk => .inl hk, (Frm.refl _ _).drewN n⟩
  rcases put_cases h3.1 h3.2 hl with ⟨a1, e⟩ | ⟨a1, a2, e⟩ | ⟨a1, a2, a3, e⟩ | ⟨a1, a2, a3, a4, e⟩ | ⟨a1, a2, a3, a4, i, hi', e⟩ | ⟨a1, a2, a3, a4, hn, e⟩
  · exact same (and_plain0 E fp gb g w a b hi lo hG hO h3.1 h3.2 a1) e
  · exact same (and_plain1 E fp gb g w a b hi lo hG hO h3.1 h3.2 a2) e
  · exact same (and_plain2 E fp gb g w a b hi lo hG hO h3.1 h3.2 a1 a2 a3) e
  · exact same (and_plain3 E fp gb g w a b hi lo hG hO h3.1 h3.2 a1 a2 a3 a4) e
  · exact same (and_found E fp gb g w a b hi lo i hG hO h3.1 h3.2 a1 a2 a3 a4 hi') e
  · rw [e]
    exact and_new E fp gb g w a b hi lo hG hO h3.1 h3.2 a1 a2 a3 a4 hn hl

/-- a gate that makes nothing new -/
theorem and_same (E : Nat → Value) (fp : Nat → Prop) (gb : Nat) (g : Gr) (w : World) (a b r : Int) (hG : IsGr E w fp gb g) (h1 : isL a g.len = true) (h2 : isL b g.len = true) (hl : g.len < 8000) (h : g.and a b = (r, g)) :
    Calls Tryd.prog 27 #[.pointer (some ⟨gb, 0, none⟩), .int .i64 a, .int .i64 b] w fun e w' => e = .returned (.int .i64 r) ∧ ∃ fp', IsGr E w' fp' gb g ∧ Grows fp fp' w w' ∧ Frm fp w w' := by
  have := and_any E fp gb g w a b hG h1 h2 hl
  rwa [h] at this

set_option maxHeartbeats 400000 in
theorem err_any (E : Nat → Value) (fp : Nat → Prop) (gb : Nat) (g : Gr) (w : World) (hG : IsGr E w fp gb g) (v : Value) (hv : E g.bad = v) :
    Calls Tryd.prog 29 #[.pointer (some ⟨gb, 0, none⟩)] w fun e w' => e = .returned v ∧ w = w' := by
  obtain ⟨ok, A, c, mb, m, D, hb, hr, hm, hml, hD, f1, f2, f3⟩ := hG
  have q := hb.at_ 3 rfl
  rw [hv] at q
  clear hv
  go_enter Tryd.func29, Tryd.ntmps29
  go_wp2
  go_ret
  exact ⟨rfl, rfl⟩

end Go.Proofs.YtkjlgamggkencaaDoor

