/-
  The walk of PaceLists.
-/
import Derived.Test.YtfhillobhfaikaaPaceBudgets
import Derived.Test.YtfhillobhfaikaaBase2
namespace Go.Proofs.Ytfhillobhfaikaa
open Go.RowKit

def f99 (x : Int) : Value := .int .i64 (x % 99)
def f12 (x : Int) : Value := .int .i64 (1 + x % 2)

theorem at_getD {l : List Int} {k : Nat} {u : Value} (h : (l.map (Value.int .i64))[k]? = some u) : u = .int .i64 (l.getD k 0) := by
  rw [List.getElem?_map] at h
  cases hg : l[k]? with
  | none => rw [hg] at h; cases h
  | some x => rw [hg] at h; simp at h; rw [← h, List.getD, hg]; rfl
def kOf (l : List Int) (i : Nat) : Nat := if l = [] then 0 else i % l.length
theorem nxtK_kOf (l : List Int) (i : Nat) : nxtK l (kOf l i) = kOf l (i + 1) := by
  unfold nxtK kOf
  by_cases h : l = []
  · simp [h]
  · simp [h]
theorem nxt_kOf (l : List Int) (i : Nat) : nxt l (kOf l i) = l.getD (i % l.length) 0 := by
  unfold nxt kOf
  by_cases h : l = []
  · simp [h]
  · simp [h]
def pst (T S : List Int) (i j : Nat) : Pc := { Pc.start [] [] T S 0 with kt := kOf T i, ks := kOf S j }

theorem tie_l (g : Nat) (F : Nat → Prop) (T S : List Int) (i j : Nat) (w : World) (hT : ∀ x ∈ T, 0 ≤ x) (h : IsPace w g F (pst T S i j)) :
    Calls Try.prog 19 #[.pointer (some ⟨g, 0, none⟩)] w fun e w' => e = .returned (.int .i64 (T.getD (i % T.length) 0)) ∧ IsPace w' g F (pst T S (i + 1) j) ∧ Frm (fun k => k = g) w w' :=
  (tie_any g F _ w h).mono fun _ _ ⟨he, hp, hf⟩ => by
    have e1 : (pst T S i j).doTie = pst T S (i + 1) j := by simp only [Pc.doTie, pst, Pc.start, nxtK_kOf]
    rw [e1] at hp
    refine ⟨?_, hp, hf⟩
    rw [he]
    refine ret_int ?_
    have e2 : nxt T (kOf T i) = T.getD (i % T.length) 0 := nxt_kOf T i
    show (if nxt T (kOf T i) < 0 then _ else nxt T (kOf T i)) = _
    rw [e2, if_neg]
    rw [List.getD]
    cases hg : T[i % T.length]? with
    | none => simp
    | some x => have := hT x (List.mem_of_getElem? hg); simp; omega

theorem sign_l (g : Nat) (F : Nat → Prop) (T S : List Int) (i j : Nat) (w : World) (hS : ∀ x ∈ S, x = 1 ∨ x = 2) (h : IsPace w g F (pst T S i j)) :
    Calls Try.prog 17 #[.pointer (some ⟨g, 0, none⟩), .int .i64 2] w fun e w' => e = .returned (.bool (S.getD (j % S.length) 0 == 1)) ∧ IsPace w' g F (pst T S i (j + 1)) ∧ Frm (fun k => k = g) w w' :=
  (sign_any g F _ 2 w h).mono fun _ _ ⟨he, hp, hf⟩ => by
    have e1 : (pst T S i j).doSign = pst T S i (j + 1) := by simp only [Pc.doSign, pst, Pc.start, nxtK_kOf]
    rw [e1] at hp
    refine ⟨?_, hp, hf⟩
    rw [he]
    refine ret_bool ?_
    show signOf (nxt S (kOf S j)) 2 = _
    rw [nxt_kOf, List.getD]
    cases hg : S[j % S.length]? with
    | none => show signOf 0 2 = _; decide +kernel
    | some x =>
      rcases hS x (List.mem_of_getElem? hg) with rfl | rfl
      · show signOf 1 2 = _; decide +kernel
      · show signOf 2 2 = _; decide +kernel

set_option maxHeartbeats 400000 in
theorem near_nil (w : World) : Calls Try.prog 20 #[.slice none 0 0] w fun e w' => e = .returned (.bool true) ∧ w = w' := by
  go_enter Try.func20, Try.ntmps20
  go_wp2
  refine wp_loop_rounds 1 ?_
  rw [rounds_succ]
  go_wp2
  go_ret
  exact ⟨rfl, rfl⟩

set_option maxRecDepth 100000 in
set_option maxHeartbeats 4000000 in
theorem lists_any (a0 : Option Addr) (len0 cap0 : Nat) (z0 : List Int) (hz0 : z0.length = len0) (w : World) (s0 : Sl w (fun k => k < w.heap.size) 1 (.slice a0 len0 cap0) len0 (z0.map (.int .i64)))
    (a1 : Option Addr) (len1 cap1 : Nat) (z1 : List Int) (hz1 : z1.length = len1) (s1 : Sl w (fun k => k < w.heap.size) 1 (.slice a1 len1 cap1) len1 (z1.map (.int .i64)))
    (n : Int) (h0 : len0 ≤ 20) (h1 : len1 ≤ 20) :
    Calls Try.prog 6 #[.slice a0 len0 cap0, .slice a1 len1 cap1, .int .i64 n] w fun e w' => e = .returned (.bool true) ∧ Frm (fun _ => False) w w' := by
  obtain ⟨i0, hi, hz0', hz1', hz2'⟩ := info_parts infoInt
  have HZ0 := Lib.hid hz0
  have HZ1 := Lib.hid hz1
  clear hz0 hz1
  go_enter Try.func6, Try.ntmps6
  go_wp2_with fail
  refine (first_any w).mono ?_
  rintro e w1 ⟨rfl, hf1⟩
  go_wp2_with fail
  refine (number_any n 60 w1 (by omega) (by omega)).mono ?_
  rintro e w' ⟨rfl, rfl⟩
  have hN0 : 0 ≤ n % 60 := by omega
  have hN1 : n % 60 < 60 := by omega
  generalize n % 60 = M at *
  go_wp2_with fail
  go_loopw [8, 10] (fun t i wr => ∃ (k : Nat) (A : Option Addr) (c : Nat), k ≤ len0 ∧ i = .int .i64 k ∧ t = .slice A k c ∧ wr.ownsRow w1.heap.size 3 1 (.slice A k c) k ((z0.map f99).take k) ∧ Frm (fun _ => False) w1 wr) (fun _ i _ => len0 - (intOf i).toNat)
  case atStart => exact ⟨0, none, 0, by omega, rfl, rfl, by simpa using World.ownsRow_nil _ _ _ _, Frm.refl _ _⟩
  case round =>
    obtain ⟨k, A, c, hk, rfl, rfl, hown, hfk⟩ := hrel
    by_cases hlt : k < len0
    · have sk := s0.frm (hf1.trans hfk) (fun _ _ => id)
      obtain ⟨b, o, u, rfl, hbF, hu, hcell⟩ := sk.at_ hlt
      have hu' : u = .int .i64 (z0.getD k 0) := by
        rw [List.getElem?_map, List.getElem?_eq_getElem (by rw [HZ0.out]; exact hlt)] at hu
        simp at hu; rw [← hu]; simp [List.getD, HZ0.out, hlt]
      subst hu'
      clear hu hbF sk
      obtain ⟨x, hx⟩ : ∃ x, x = z0.getD k 0 := ⟨_, rfl⟩
      have HX := Lib.hid hx
      rw [← hx] at hcell
      clear hx
      go_wp2_with fail
      refine (number_any x 99 wr (by omega) (by omega)).mono ?_
      rintro e w' ⟨rfl, rfl⟩
      go_wp2_with (at_builtin; refine wpList_append_own _ rfl (.tmp 36) (.tmp 42) 22 rfl w1.heap.size 3 i0 (.int .i64 0) 1 8 Try.underlying22 hi hz0' hz1' hz2' rfl (by decide) _ _ _ rfl (hown.alloc _) ⟨wr.heap.size, 0, none⟩ 1 1 [.int .i64 (x % 99)] rfl rfl (cell_one_new _ _ _) ?c2 ?c3 ?c4 ?c5 ?_)
      case c2 => intro u hu; simp at hu; subst hu; rfl
      case c3 => unfold maxLen; omega
      case c4 => omega
      case c5 => have := hfk.size; simp; omega
      intro v' w2 hown2 hgrow _
      have hfr2 := (hfk.alloc (.cells #[.int .i64 (x % 99)] 3)).grown hgrow (fun g hg hlt => by have := (hown.lt g hg).1; omega)
      obtain ⟨A', c', rfl, hown3⟩ := own_step (f := f99) (by rw [HZ0.out]; exact hlt) (by rw [HX.out]; rfl) hown2
      clear hown2 hgrow hown hfk hcell
      go_wp2_with fail
      go_roundw
      case rel => exact ⟨k + 1, A', c', by omega, by go_num, rfl, hown3, hfr2⟩
      case measure => simp [intOf]; omega
    · obtain rfl : len0 = k := by omega
      have ht : (z0.map f99).take len0 = z0.map f99 := List.take_of_length_le (by simp [HZ0.out])
      rw [ht] at hown
      clear ht
      obtain ⟨wa, rfl⟩ : ∃ wa : World, wa = wr := ⟨_, rfl⟩
      go_wp2_with fail
      go_loopw [9, 11] (fun t i wr => ∃ (k : Nat) (A : Option Addr) (c : Nat), k ≤ len1 ∧ i = .int .i64 k ∧ t = .slice A k c ∧ wr.ownsRow wa.heap.size 3 1 (.slice A k c) k ((z1.map f12).take k) ∧ Frm (fun _ => False) wa wr) (fun _ i _ => len1 - (intOf i).toNat)
      case atStart => exact ⟨0, none, 0, by omega, rfl, rfl, by simpa using World.ownsRow_nil _ _ _ _, Frm.refl _ _⟩
      case round =>
        obtain ⟨k, A1, c1, hk1, rfl, rfl, hown1, hfk1⟩ := hrel
        by_cases hlt : k < len1
        · have sk := s1.frm ((hf1.trans hfk).trans hfk1) (fun _ _ => id)
          obtain ⟨b, o, u, rfl, hbF, hu, hcell⟩ := sk.at_ hlt
          have hu' : u = .int .i64 (z1.getD k 0) := by
            rw [List.getElem?_map, List.getElem?_eq_getElem (by rw [HZ1.out]; exact hlt)] at hu
            simp at hu; rw [← hu]; simp [List.getD, HZ1.out, hlt]
          subst hu'
          clear hu hbF sk
          obtain ⟨x, hx⟩ : ∃ x, x = z1.getD k 0 := ⟨_, rfl⟩
          have HX := Lib.hid hx
          rw [← hx] at hcell
          clear hx
          have hx0 : 0 ≤ x % 2 := by omega
          have hx1 : x % 2 < 2 := by omega
          go_wp2_with fail
          refine (number_any x 2 wr (by omega) (by omega)).mono ?_
          rintro e w' ⟨rfl, rfl⟩
          go_wp2_with (at_builtin; refine wpList_append_own _ rfl (.tmp 50) (.tmp 57) 22 rfl wa.heap.size 3 i0 (.int .i64 0) 1 8 Try.underlying22 hi hz0' hz1' hz2' rfl (by decide) _ _ _ rfl (hown1.alloc _) ⟨wr.heap.size, 0, none⟩ 1 1 [.int .i64 (1 + x % 2)] rfl rfl (cell_one_new _ _ _) ?c2 ?c3 ?c4 ?c5 ?_)
          case c2 => intro u hu; simp at hu; subst hu; rfl
          case c3 => unfold maxLen; omega
          case c4 => omega
          case c5 => have := hfk1.size; simp; omega
          intro v' w2 hown2 hgrow _
          have hfr2 := (hfk1.alloc (.cells #[.int .i64 (1 + x % 2)] 3)).grown hgrow (fun g hg hlt => by have := (hown1.lt g hg).1; omega)
          obtain ⟨A', c', rfl, hown3⟩ := own_step (f := f12) (by rw [HZ1.out]; exact hlt) (by rw [HX.out]; rfl) hown2
          clear hown2 hgrow hown1 hfk1 hcell
          go_wp2_with fail
          go_roundw
          case rel => exact ⟨k + 1, A', c', by omega, by go_num, rfl, hown3, hfr2⟩
          case measure => simp [intOf]; omega
        · obtain rfl : len1 = k := by omega
          have ht : (z1.map f12).take len1 = z1.map f12 := List.take_of_length_le (by simp [HZ1.out])
          rw [ht] at hown1
          clear ht
          obtain ⟨wb, rfl⟩ : ∃ wb : World, wb = wr := ⟨_, rfl⟩
          have st := (own_sl hown).frm hfk1 (fun _ _ => id)
          have ss := own_sl hown1
          have hf0b := (hf1.trans hfk).trans hfk1
          clear hown hown1 hfk hfk1 hf1
          go_wp2_with fail
          obtain ⟨T, hTd⟩ : ∃ T, T = z0.map (· % 99) := ⟨_, rfl⟩
          obtain ⟨S, hSd⟩ : ∃ S, S = z1.map (1 + · % 2) := ⟨_, rfl⟩
          have hTl : T.length = len0 := by rw [hTd]; simp [HZ0.out]
          have hSl : S.length = len1 := by rw [hSd]; simp [HZ1.out]
          have hT0 : ∀ x ∈ T, 0 ≤ x := by intro x hx; rw [hTd] at hx; simp at hx; obtain ⟨y, _, rfl⟩ := hx; omega
          have hS0 : ∀ x ∈ S, x = 1 ∨ x = 2 := by intro x hx; rw [hSd] at hx; simp at hx; obtain ⟨y, _, rfl⟩ := hx; omega
          have st1 : Sl wb (fun k => k < wb.heap.size) 1 (.slice A len0 c) T.length (T.map (.int .i64)) := by
            rw [hTl, hTd, List.map_map]; exact st.mono fun k hk _ => hk
          have ss1 : Sl wb (fun k => k < wb.heap.size) 1 (.slice A1 len1 c1) S.length (S.map (.int .i64)) := by
            rw [hSl, hSd, List.map_map]; exact ss.mono fun k hk _ => hk
          clear st ss hTd hSd
          refine (new_any _ _ _ _ [] [] T S 0 0 (fun k => k < wb.heap.size) wb (Sl.nil_ _ _ _) (Sl.nil_ _ _ _) st1 ss1 (by simp) (by simp) (by omega) (by omega)).mono ?_
          rintro e w5 ⟨g, rfl, hg, hp, hf5⟩
          have HTl := Lib.hid hTl
          have HSl := Lib.hid hSl
          have st2 := st1.frm hf5 (fun _ _ => id)
          have ss2 := ss1.frm hf5 (fun _ _ => id)
          clear hTl hSl st1 ss1
          go_wp2_with fail
          go_loopw [13] (fun i wr => ∃ k : Nat, (k : Int) ≤ M ∧ i = .int .i64 k ∧ IsPace wr g (fun k => wb.heap.size ≤ k ∧ k < g) (pst T S k k) ∧ Frm (fun k => k = g) w5 wr) (fun i _ => (M - intOf i).toNat)
          case atStart => exact ⟨0, by omega, rfl, by simpa [pst, kOf, Pc.start] using hp, Frm.refl _ _⟩
          case round =>
            obtain ⟨k, hk, rfl, hpk, hfk⟩ := hrel
            by_cases hltM : (k : Int) < M
            · have hgz : wb.heap.size ≤ g := hg
              have st3 := st2.frm hfk (fun k hk e => by omega)
              have ss3 := ss2.frm hfk (fun k hk e => by omega)
              have htl := tie_l g (fun k => wb.heap.size ≤ k ∧ k < g) T S k k wr hT0 hpk
              have hsl := fun w => sign_l g (fun k => wb.heap.size ≤ k ∧ k < g) T S (k + 1) k w hS0
              rw [HTl.out] at htl st3
              rw [HSl.out] at hsl ss3
              clear st2 ss2 hpk
              have HTL := Lib.hid htl
              have HSL := Lib.hid hsl
              clear htl hsl
              by_cases hz : 0 < len0 <;> by_cases hy : 0 < len1
              · -- t is not empty, s is not empty
                obtain ⟨b, o, u, rfl, _, hu, hcell⟩ := st3.at_ (Nat.mod_lt k hz)
                obtain rfl := at_getD hu
                clear hu
                have m1 : (k : Int) % (len0 : Int) < (len0 : Int) := Int.emod_lt_of_pos _ (by omega)
                have m2 : (0 : Int) ≤ (k : Int) % (len0 : Int) := Int.emod_nonneg _ (by omega)
                have m3 : ((k : Int) % (len0 : Int)).toNat = k % len0 := by omega
                obtain ⟨b', o', u', rfl, _, hu', hcell'⟩ := ss3.at_ (Nat.mod_lt k hy)
                obtain rfl := at_getD hu'
                clear hu'
                have n1 : (k : Int) % (len1 : Int) < (len1 : Int) := Int.emod_lt_of_pos _ (by omega)
                have n2 : (0 : Int) ≤ (k : Int) % (len1 : Int) := Int.emod_nonneg _ (by omega)
                have n3 : ((k : Int) % (len1 : Int)).toNat = k % len1 := by omega
                go_wp2_with fail
                refine HTL.out.mono ?_
                rintro e w6 ⟨rfl, hp6, hf6⟩
                go_wp2_with fail
                refine (HSL.out _ hp6).mono ?_
                rintro e w7 ⟨rfl, hp7, hf7⟩
                have hf57 := (hfk.trans hf6).trans hf7
                go_wp2_with fail
                go_roundw
                case rel => exact ⟨k + 1, by omega, by go_num, hp7, hf57⟩
                case measure => simp [intOf]; omega
              · -- t is not empty, s is empty
                obtain ⟨b, o, u, rfl, _, hu, hcell⟩ := st3.at_ (Nat.mod_lt k hz)
                obtain rfl := at_getD hu
                clear hu
                have m1 : (k : Int) % (len0 : Int) < (len0 : Int) := Int.emod_lt_of_pos _ (by omega)
                have m2 : (0 : Int) ≤ (k : Int) % (len0 : Int) := Int.emod_nonneg _ (by omega)
                have m3 : ((k : Int) % (len0 : Int)).toNat = k % len0 := by omega
                have hsl := HSL.out
                rw [show (S.getD (k % len1) 0 == 1) = false from by
                  have hS : S = [] := List.eq_nil_of_length_eq_zero (by have := HSl.out; omega)
                  rw [hS]; rfl] at hsl
                clear HSL
                have HSL := Lib.hid hsl
                clear hsl
                go_wp2_with fail
                refine HTL.out.mono ?_
                rintro e w6 ⟨rfl, hp6, hf6⟩
                go_wp2_with fail
                refine (HSL.out _ hp6).mono ?_
                rintro e w7 ⟨rfl, hp7, hf7⟩
                have hf57 := (hfk.trans hf6).trans hf7
                go_wp2_with fail
                go_roundw
                case rel => exact ⟨k + 1, by omega, by go_num, hp7, hf57⟩
                case measure => simp [intOf]; omega
              · -- t is empty, s is not empty
                have htl := HTL.out
                rw [show T.getD (k % len0) 0 = 0 from by
                  have hT : T = [] := List.eq_nil_of_length_eq_zero (by have := HTl.out; omega)
                  rw [hT]; rfl] at htl
                clear HTL
                have HTL := Lib.hid htl
                clear htl
                obtain ⟨b', o', u', rfl, _, hu', hcell'⟩ := ss3.at_ (Nat.mod_lt k hy)
                obtain rfl := at_getD hu'
                clear hu'
                have n1 : (k : Int) % (len1 : Int) < (len1 : Int) := Int.emod_lt_of_pos _ (by omega)
                have n2 : (0 : Int) ≤ (k : Int) % (len1 : Int) := Int.emod_nonneg _ (by omega)
                have n3 : ((k : Int) % (len1 : Int)).toNat = k % len1 := by omega
                go_wp2_with fail
                refine HTL.out.mono ?_
                rintro e w6 ⟨rfl, hp6, hf6⟩
                go_wp2_with fail
                refine (HSL.out _ hp6).mono ?_
                rintro e w7 ⟨rfl, hp7, hf7⟩
                have hf57 := (hfk.trans hf6).trans hf7
                go_wp2_with fail
                go_roundw
                case rel => exact ⟨k + 1, by omega, by go_num, hp7, hf57⟩
                case measure => simp [intOf]; omega
              · -- t is empty, s is empty
                have htl := HTL.out
                rw [show T.getD (k % len0) 0 = 0 from by
                  have hT : T = [] := List.eq_nil_of_length_eq_zero (by have := HTl.out; omega)
                  rw [hT]; rfl] at htl
                clear HTL
                have HTL := Lib.hid htl
                clear htl
                have hsl := HSL.out
                rw [show (S.getD (k % len1) 0 == 1) = false from by
                  have hS : S = [] := List.eq_nil_of_length_eq_zero (by have := HSl.out; omega)
                  rw [hS]; rfl] at hsl
                clear HSL
                have HSL := Lib.hid hsl
                clear hsl
                go_wp2_with fail
                refine HTL.out.mono ?_
                rintro e w6 ⟨rfl, hp6, hf6⟩
                go_wp2_with fail
                refine (HSL.out _ hp6).mono ?_
                rintro e w7 ⟨rfl, hp7, hf7⟩
                have hf57 := (hfk.trans hf6).trans hf7
                go_wp2_with fail
                go_roundw
                case rel => exact ⟨k + 1, by omega, by go_num, hp7, hf57⟩
                case measure => simp [intOf]; omega
            · go_wp2_with fail
              refine (least_any g _ _ wr hpk).mono ?_
              rintro e w' ⟨rfl, rfl⟩
              go_wp2_with fail
              refine (near_nil wr).mono ?_
              rintro e w' ⟨rfl, rfl⟩
              go_wp2
              go_ret
              exact ⟨rfl, (hf0b.trans hf5).then' hfk (fun k hk e => by have := hf0b.size; omega)⟩

set_option maxHeartbeats 400000 in
theorem lists_long (a0 : Option Addr) (len0 cap0 : Nat) (a1 : Option Addr) (len1 cap1 : Nat) (n : Int) (w : World) (h : 20 < len0 ∨ 20 < len1) :
    Calls Try.prog 6 #[.slice a0 len0 cap0, .slice a1 len1 cap1, .int .i64 n] w fun e w' => e = .returned (.bool true) ∧ Frm (fun _ => False) w w' := by
  by_cases h0 : 20 < len0
  · clear h
    go_enter Try.func6, Try.ntmps6
    go_wp2_with fail
    refine (first_any w).mono ?_
    rintro e w1 ⟨rfl, hf1⟩
    go_wp2
    go_ret
    exact ⟨rfl, hf1⟩
  · have h1 : 20 < len1 := by omega
    clear h
    go_enter Try.func6, Try.ntmps6
    go_wp2_with fail
    refine (first_any w).mono ?_
    rintro e w1 ⟨rfl, hf1⟩
    go_wp2
    go_ret
    exact ⟨rfl, hf1⟩

theorem lists_all (a0 : Option Addr) (len0 cap0 : Nat) (z0 : List Int) (hz0 : z0.length = len0) {w : World} (s0 : Sl w (fun k => k < w.heap.size) 1 (.slice a0 len0 cap0) len0 (z0.map (.int .i64))) (_ : ∀ n ∈ z0, (Lit.int .i64 n).wf = true)
    (a1 : Option Addr) (len1 cap1 : Nat) (z1 : List Int) (hz1 : z1.length = len1) (s1 : Sl w (fun k => k < w.heap.size) 1 (.slice a1 len1 cap1) len1 (z1.map (.int .i64))) (_ : ∀ n ∈ z1, (Lit.int .i64 n).wf = true)
    (n : Int) (_ : (Lit.int .i64 n).wf = true) (W : World) (hW : W = w) :
    Calls Try.prog 6 #[.slice a0 len0 cap0, .slice a1 len1 cap1, .int .i64 n] W fun e w' => e = .returned (.bool true) ∧ Frm (fun _ => False) W w' := by
  subst hW
  by_cases h0 : 20 < len0
  · exact lists_long a0 len0 cap0 a1 len1 cap1 n W (.inl h0)
  by_cases h1 : 20 < len1
  · exact lists_long a0 len0 cap0 a1 len1 cap1 n W (.inr h1)
  · exact lists_any a0 len0 cap0 z0 hz0 W s0 a1 len1 cap1 z1 hz1 s1 n (by omega) (by omega)

end Go.Proofs.Ytfhillobhfaikaa
