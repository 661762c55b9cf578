/-
  Copies of lists: the reference's own (a loop of append), and slices.Clone.
-/
import Derived.Test.YtkjlgamggkencaaDoorMAnd
import Derived.Test.YtkjlgamggkencaaDoorMBase
namespace Go.Proofs.YtkjlgamggkencaaDoor
open Go.RowKit

theorem infoIntG : (Tryd.prog.info? 3).map (fun i => (i.zero, i.size, i.bytes)) = some (some (.int .i64 0), 1, 8) := by kernel_rfl

set_option maxRecDepth 100000 in
set_option maxHeartbeats 2000000 in
theorem ints_any (A0 : Option Addr) (n c0 : Nat) (F : Nat → Prop) (l : List Int) (w : World) (hn : l.length = n) (hb : n ≤ 1000000) (hs : Sl w F 1 (.slice A0 n c0) n (l.map (.int .i64))) :
    Calls Tryd.prog 108 #[.slice A0 n c0] w fun e w' => ∃ A c, e = .returned (.slice A n c) ∧ w'.ownsRow w.heap.size 3 1 (.slice A n c) n (l.map (.int .i64)) ∧ Frm (fun _ => False) w w' := by
  obtain ⟨i0, hi, hz0, hz1, hz2⟩ := info_parts infoIntG
  have HN := Lib.hid hn
  clear hn
  go_enter Tryd.func108, Tryd.ntmps108
  go_wp2_with (at_make; refine wpList_make_own _ rfl _ _ 22 rfl w.heap.size 3 i0 (.int .i64 0) 1 Tryd.underlying22 hi hz0 hz1 .i64 .i64 _ n rfl rfl (by omega) (by rw [hz2]; omega) (by unfold maxLen; omega) (Nat.le_refl _) ?_; intro w0 hown0 hgrow0)
  have hf0 : Frm (fun _ => False) w w0 := (Frm.refl _ w).grown hgrow0 (fun k hk hlt => by cases hk)
  go_loopw [3, 4] (fun t i wr => ∃ (k : Nat) (A : Option Addr) (c : Nat), k ≤ n ∧ i = .int .i64 k ∧ t = .slice A k c ∧ wr.ownsRow w.heap.size 3 1 (.slice A k c) k ((l.map (.int .i64)).take k) ∧ Frm (fun _ => False) w wr) (fun _ i _ => n - (intOf i).toNat)
  case atStart => exact ⟨0, _, n, by omega, rfl, rfl, by simpa using hown0, hf0⟩
  case round =>
    obtain ⟨k, A, c, hk, rfl, rfl, hown, hfk⟩ := hrel
    by_cases hlt : k < n
    · have sk := hs.frm hfk (fun _ _ => id)
      obtain ⟨b, o, u, rfl, hbF, hu, hcell⟩ := sk.at_ hlt
      obtain rfl := at_getD hu
      clear hu hbF sk
      obtain ⟨x, hx⟩ : ∃ x, x = l.getD k 0 := ⟨_, rfl⟩
      have HX := Lib.hid hx
      rw [← hx] at hcell
      clear hx
      go_wp2_with (at_builtin; refine wpList_append_own _ rfl (.tmp 14) (.tmp 19) 22 rfl w.heap.size 3 i0 (.int .i64 0) 1 8 Tryd.underlying22 hi hz0 hz1 hz2 rfl (by decide) _ _ _ rfl (hown.alloc _) ⟨wr.heap.size, 0, none⟩ 1 1 [.int .i64 x] rfl rfl (cell_one_new _ _ _) ?c2 ?c3 ?c4 ?c5 ?_)
      case c2 => intro u hu; simp at hu; subst hu; rfl
      case c3 => unfold maxLen; omega
      case c4 => omega
      case c5 => have := hfk.size; simp; omega
      intro v' w2 hown2 hgrow _
      have hfr2 := (hfk.alloc (.cells #[.int .i64 x] 3)).grown hgrow (fun g hg hlt => by have := (hown.lt g hg).1; omega)
      obtain ⟨A', c', rfl, hown3⟩ := own_step (f := fun n => .int .i64 n) (by rw [HN.out]; exact hlt) (by rw [HX.out]) hown2
      clear hown2 hgrow hown hfk hcell
      go_wp2_with fail
      go_roundw
      case rel => exact ⟨k + 1, A', c', by omega, by go_num, rfl, hown3, hfr2⟩
      case measure => simp [intOf]; omega
    · obtain rfl : n = k := by omega
      have ht : (l.map (Value.int .i64)).take n = l.map (.int .i64) := List.take_of_length_le (by simp [HN.out])
      rw [ht] at hown
      go_wp2_with fail
      go_ret
      exact ⟨A, c, rfl, hown, hfk⟩

/-- the k-th pair's two cells -/
theorem pairs_at (L : List (Int × Int)) {k : Nat} (hk : k < L.length) : (pairs L)[2 * k]? = some (.int .i64 (L.getD k (0, 0)).1) ∧ (pairs L)[2 * k + 1]? = some (.int .i64 (L.getD k (0, 0)).2) := by
  induction L generalizing k with
  | nil => simp at hk
  | cons x r ih =>
    have he : pairs (x :: r) = .int .i64 x.1 :: .int .i64 x.2 :: pairs r := by simp [pairs]
    rw [he]
    cases k with
    | zero => simp
    | succ k =>
      have := ih (k := k) (by simpa using hk)
      rw [show 2 * (k + 1) = 2 * k + 1 + 1 from by omega]
      simpa using this
theorem sl_pair {w : World} {F : Nat → Prop} {A : Option Addr} {n c k : Nat} {L : List (Int × Int)} (h : Sl w F 2 (.slice A n c) n (pairs L)) (hk : k < n) :
    ∃ b o, A = some ⟨b, o, none⟩ ∧ F b ∧ w.cell? ⟨b, o + k * 2, none⟩ = some (.int .i64 (L.getD k (0, 0)).1) ∧ w.cell? ⟨b, o + (k * 2 + 1), none⟩ = some (.int .i64 (L.getD k (0, 0)).2) := by
  obtain ⟨hl, A', c', e, _, _, hx⟩ := h
  cases e
  have hL : k < L.length := by rw [pairs_length] at hl; omega
  obtain ⟨p1, p2⟩ := pairs_at L hL
  obtain ⟨b, o, ha, hF, h1⟩ := hx _ _ p1
  obtain ⟨b', o', ha', _, h2⟩ := hx _ _ p2
  rw [ha] at ha'
  cases ha'
  exact ⟨b, o, ha, hF, by rw [Nat.mul_comm]; exact h1, by rw [Nat.mul_comm]; exact h2⟩
theorem pairs_take_succ (L : List (Int × Int)) {k : Nat} (hk : k < L.length) : pairs (L.take (k + 1)) = pairs (L.take k) ++ [.int .i64 (L.getD k (0, 0)).1, .int .i64 (L.getD k (0, 0)).2] := by
  rw [List.take_succ_eq_append_getElem hk, pairs_append]
  simp [pairs, List.getD, hk]

set_option maxRecDepth 100000 in
set_option maxHeartbeats 2000000 in
theorem pairs_any (A0 : Option Addr) (n c0 : Nat) (F : Nat → Prop) (L : List (Int × Int)) (w : World) (hn : L.length = n) (hb : n ≤ 1000000) (hs : Sl w F 2 (.slice A0 n c0) n (pairs L)) :
    Calls Tryd.prog 79 #[.slice A0 n c0] w fun e w' => ∃ A c, e = .returned (.slice A n c) ∧ w'.ownsRow w.heap.size 73 2 (.slice A n c) n (pairs L) ∧ Frm (fun _ => False) w w' := by
  obtain ⟨i0, hi, hz0, hz1, hz2⟩ := info_parts infoPair
  have HN := Lib.hid hn
  clear hn
  go_enter Tryd.func79, Tryd.ntmps79
  go_wp2_with (at_make; refine wpList_make_own _ rfl _ _ 35 rfl w.heap.size 73 i0 (.agg #[.int .i64 0, .int .i64 0]) 2 Tryd.underlying35 hi hz0 hz1 .i64 .i64 _ n rfl rfl (by omega) (by rw [hz2]; omega) (by unfold maxLen; omega) (Nat.le_refl _) ?_; intro w0 hown0 hgrow0)
  have hf0 : Frm (fun _ => False) w w0 := (Frm.refl _ w).grown hgrow0 (fun k hk hlt => by cases hk)
  go_loopw [3, 4] (fun t i wr => ∃ (k : Nat) (A : Option Addr) (c : Nat), k ≤ n ∧ i = .int .i64 k ∧ t = .slice A k c ∧ wr.ownsRow w.heap.size 73 2 (.slice A k c) k (pairs (L.take k)) ∧ Frm (fun _ => False) w wr) (fun _ i _ => n - (intOf i).toNat)
  case atStart => exact ⟨0, _, n, by omega, rfl, rfl, by simpa [pairs] using hown0, hf0⟩
  case round =>
    obtain ⟨k, A, c, hk, rfl, rfl, hown, hfk⟩ := hrel
    by_cases hlt : k < n
    · have sk := hs.frm hfk (fun _ _ => id)
      obtain ⟨b, o, rfl, hbF, hcell, hcell'⟩ := sl_pair sk hlt
      clear hbF sk
      obtain ⟨x, hx⟩ : ∃ x, x = (L.getD k (0, 0)).1 := ⟨_, rfl⟩
      obtain ⟨y, hy⟩ : ∃ y, y = (L.getD k (0, 0)).2 := ⟨_, rfl⟩
      have hts := pairs_take_succ L (k := k) (by rw [HN.out]; exact hlt)
      rw [← hx, ← hy] at hts
      have HX := Lib.hid hts
      rw [← hx] at hcell
      rw [← hy] at hcell'
      clear hx hy hts
      rw [← Nat.add_assoc] at hcell'
      go_wp2_with (at_builtin; refine wpList_append_own_at _ rfl (.tmp 14) (.tmp 19) 35 rfl w.heap.size 73 i0 (.agg #[.int .i64 0, .int .i64 0]) 2 16 Tryd.underlying35 hi hz0 hz1 hz2 rfl (by decide) _ _ _ rfl (hown.alloc (.cells #[.int .i64 x, .int .i64 y] 73)) ⟨wr.heap.size, 0, none⟩ 1 1 [.int .i64 x, .int .i64 y] rfl rfl ?c1 ?c2 ?c3 ?c4 ?c5 ?_)
      case c1 => intro j u hu; rw [addr_add, Nat.zero_add]; exact ((Blk.new wr 73 [.int .i64 x, .int .i64 y]).cell j).trans hu
      case c2 => intro u hu; simp at hu; rcases hu with rfl | rfl <;> rfl
      case c3 => unfold maxLen; omega
      case c4 => omega
      case c5 => have := hfk.size; simp; omega
      intro v' w2 hown2 hgrow _ _
      have hfr2 := (hfk.alloc (.cells #[.int .i64 x, .int .i64 y] 73)).grown hgrow (fun g hg hlt => by have := (hown.lt g hg).1; omega)
      rw [← HX.out] at hown2
      obtain ⟨A', c', rfl, _⟩ := (Sl.of_own hown2).form
      clear hgrow hown hfk hcell hcell'
      go_wp2_with fail
      go_roundw
      case rel => exact ⟨k + 1, A', c', by omega, by go_num, rfl, hown2, hfr2⟩
      case measure => simp [intOf]; omega
    · obtain rfl : n = k := by omega
      have ht : L.take n = L := List.take_of_length_le (by simp [HN.out])
      rw [ht] at hown
      go_wp2_with fail
      go_ret
      exact ⟨A, c, rfl, hown, hfk⟩

theorem pairs_cell {L : List (Int × Int)} : ∀ u ∈ pairs L, u.oneCell' = true := by
  intro u hu
  simp only [pairs, List.mem_flatMap] at hu
  obtain ⟨p, _, hp⟩ := hu
  simp at hp
  rcases hp with rfl | rfl <;> rfl

set_option maxHeartbeats 400000 in
theorem clone_nil (w : World) :
    Calls Tryd.prog 106 #[.slice none 0 0] w fun e w' => e = .returned (.slice none 0 0) ∧ w = w' := by
  have hq := fun W => Lib.run_eql_slice_nil (P := Tryd.prog) W 22 3 none 0 0 0 0 Tryd.underlying22
  go_enter Tryd.func106, Tryd.ntmps106
  go_wp2
  go_ret
  exact ⟨rfl, rfl⟩

set_option maxHeartbeats 400000 in
theorem clone_some (ad : Addr) (n c : Nat) (F : Nat → Prop) (l : List Int) (w : World) (hn : l.length = n) (hb : n ≤ 1000000)
    (hs : Sl w F 1 (.slice (some ad) n c) n (l.map (.int .i64))) :
    Calls Tryd.prog 106 #[.slice (some ad) n c] w fun e w' => ∃ v, e = .returned v ∧ w'.ownsRow w.heap.size 3 1 v n (l.map (.int .i64)) ∧ Frm (fun _ => False) w w' := by
  have hq := fun W => Lib.run_eql_slice_nil (P := Tryd.prog) W 22 3 (some ad) n c 0 0 Tryd.underlying22
  obtain ⟨i0, hi, hz0, hz1, hz2⟩ := info_parts infoIntG
  have HN := Lib.hid hn
  clear hn
  go_enter Tryd.func106, Tryd.ntmps106
  have hown := World.ownsRow_made (e := 3) (size := 1) w #[] 0 (Nat.le_refl _) (by unfold maxLen; omega) rfl
  have hsrc := (hs.frm ((Frm.refl (fun _ => False) w).alloc (.cells #[] 3)) (fun _ _ h => h)).src
  go_wp2_with (at_builtin; refine wpList_append_own _ rfl (.tmp 5) (.tmp 6) 22 rfl w.heap.size 3 i0 (.int .i64 0) 1 8 Tryd.underlying22 hi hz0 hz1 hz2 rfl (by decide) _ _ _ rfl hown ad n c (l.map (.int .i64)) rfl ?c1 hsrc ?c2 ?c3 ?c4 ?c5 ?_)
  case c1 => simp [HN.out]
  case c2 => intro u hu; simp at hu; obtain ⟨x, _, rfl⟩ := hu; rfl
  case c3 => unfold maxLen; omega
  case c4 => omega
  case c5 => simp
  intro v' w1 hown1 hgrow _
  go_wp2
  go_ret
  refine ⟨_, rfl, by simpa using hown1, ?_⟩
  exact ((Frm.refl _ w).alloc _).grown hgrow (fun k hk hlt => by simp [Value.ownBlock] at hk; omega)

theorem clone_any (v : Value) (F : Nat → Prop) (n : Nat) (l : List Int) (w : World) (hn : l.length = n) (hb : n ≤ 1000000) (hs : Sl w F 1 v n (l.map (.int .i64))) :
    Calls Tryd.prog 106 #[v] w fun e w' => ∃ A c, e = .returned (.slice A n c) ∧ Sl w' (fun k => w.heap.size ≤ k) 1 (.slice A n c) n (l.map (.int .i64)) ∧ Frm (fun _ => False) w w' := by
  obtain ⟨A, c, rfl, hc, hA⟩ := hs.form
  rcases A with _ | ad
  · obtain rfl := hA rfl
    have h0 : l = [] := List.eq_nil_of_length_eq_zero (by omega)
    subst h0
    obtain rfl : n = 0 := by simpa using hn.symm
    refine (clone_nil w).mono ?_
    rintro e w' ⟨rfl, rfl⟩
    exact ⟨_, _, rfl, Sl.nil_ _ _ _, Frm.refl _ _⟩
  · refine (clone_some ad n c F l w hn hb hs).mono ?_
    rintro e w' ⟨v', rfl, hown, hf⟩
    have h1 := (Sl.of_own hown).mono (G := fun k => w.heap.size ≤ k) (fun k _ hk => (hown.lt k hk).1)
    obtain ⟨A, c, rfl, _⟩ := h1.form
    exact ⟨A, c, rfl, h1, hf⟩

set_option maxHeartbeats 400000 in
theorem clone2_nil (w : World) :
    Calls Tryd.prog 105 #[.slice none 0 0] w fun e w' => e = .returned (.slice none 0 0) ∧ w = w' := by
  have hq := fun W => Lib.run_eql_slice_nil (P := Tryd.prog) W 35 73 none 0 0 0 0 Tryd.underlying35
  go_enter Tryd.func105, Tryd.ntmps105
  go_wp2
  go_ret
  exact ⟨rfl, rfl⟩

set_option maxHeartbeats 400000 in
theorem clone2_some (ad : Addr) (n c : Nat) (F : Nat → Prop) (l : List (Int × Int)) (w : World) (hn : l.length = n) (hb : n ≤ 1000000)
    (hs : Sl w F 2 (.slice (some ad) n c) n (pairs l)) :
    Calls Tryd.prog 105 #[.slice (some ad) n c] w fun e w' => ∃ v, e = .returned v ∧ w'.ownsRow w.heap.size 73 2 v n (pairs l) ∧ Frm (fun _ => False) w w' := by
  have hq := fun W => Lib.run_eql_slice_nil (P := Tryd.prog) W 35 73 (some ad) n c 0 0 Tryd.underlying35
  obtain ⟨i0, hi, hz0, hz1, hz2⟩ := info_parts infoPair
  have HN := Lib.hid hn
  clear hn
  go_enter Tryd.func105, Tryd.ntmps105
  have hown := World.ownsRow_made (e := 73) (size := 2) w #[] 0 (Nat.le_refl _) (by unfold maxLen; omega) rfl
  have hsrc := (hs.frm ((Frm.refl (fun _ => False) w).alloc (.cells #[] 73)) (fun _ _ h => h)).src
  go_wp2_with (at_builtin; refine wpList_append_own _ rfl (.tmp 5) (.tmp 6) 35 rfl w.heap.size 73 i0 (.agg #[.int .i64 0, .int .i64 0]) 2 16 Tryd.underlying35 hi hz0 hz1 hz2 rfl (by decide) _ _ _ rfl hown ad n c (pairs l) rfl ?c1 hsrc ?c2 ?c3 ?c4 ?c5 ?_)
  case c1 => rw [pairs_length, HN.out]
  case c2 => exact pairs_cell
  case c3 => unfold maxLen; omega
  case c4 => omega
  case c5 => simp
  intro v' w1 hown1 hgrow _
  go_wp2
  go_ret
  refine ⟨_, rfl, by simpa using hown1, ?_⟩
  exact ((Frm.refl _ w).alloc _).grown hgrow (fun k hk hlt => by simp [Value.ownBlock] at hk; omega)

theorem clone2_any (v : Value) (F : Nat → Prop) (n : Nat) (l : List (Int × Int)) (w : World) (hn : l.length = n) (hb : n ≤ 1000000) (hs : Sl w F 2 v n (pairs l)) :
    Calls Tryd.prog 105 #[v] w fun e w' => ∃ A c, e = .returned (.slice A n c) ∧ Sl w' (fun k => w.heap.size ≤ k) 2 (.slice A n c) n (pairs l) ∧ Frm (fun _ => False) w w' := by
  obtain ⟨A, c, rfl, hc, hA⟩ := hs.form
  rcases A with _ | ad
  · obtain rfl := hA rfl
    have h0 : l = [] := List.eq_nil_of_length_eq_zero (by omega)
    subst h0
    obtain rfl : n = 0 := by simpa using hn.symm
    refine (clone2_nil w).mono ?_
    rintro e w' ⟨rfl, rfl⟩
    exact ⟨_, _, rfl, Sl.nil_ _ _ _, Frm.refl _ _⟩
  · refine (clone2_some ad n c F l w hn hb hs).mono ?_
    rintro e w' ⟨v', rfl, hown, hf⟩
    have h1 := (Sl.of_own hown).mono (G := fun k => w.heap.size ≤ k) (fun k _ hk => (hown.lt k hk).1)
    obtain ⟨A, c, rfl, _⟩ := h1.form
    exact ⟨A, c, rfl, h1, hf⟩

end Go.Proofs.YtkjlgamggkencaaDoor
