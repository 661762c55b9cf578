/-
  The reference's And: a new gate.
-/
import Derived.Test.YtkjlgamggkencaaDoorRefFind
namespace Go.Proofs.YtkjlgamggkencaaDoor
open Go.RowKit

set_option maxRecDepth 100000 in
set_option maxHeartbeats 8000000 in
theorem xand_new (xp : Nat → Prop) (gx : Nat) (g : Gr) (w : World) (x y hi lo : Int) (hG : IsX w xp gx g) (hgx : ∀ k, xp k → k < w.heap.size) (ho : Ordered x y hi lo) (h1 : isL hi g.len = true) (h2 : isL lo g.len = true)
    (p0 : lo ≠ 0) (p1 : lo ≠ 1) (p2 : hi ≠ lo) (p3 : hi ≠ notL lo) (hi' : idx (hi, lo) g.ands = none) (hlt : g.len < 8000) :
    Calls Tryd.prog 33 #[.pointer (some ⟨gx, 0, none⟩), .int .i64 x, .int .i64 y] w fun e w' => e = .returned (.int .i64 (2 * ((g.len : Int) + 1))) ∧
      ∃ xp', IsX w' xp' gx { g with ands := g.ands ++ [(hi, lo)] } ∧ Grows xp xp' w w' ∧ Frm (fun k => k = gx) w w' := by
  have HX := Lib.hid (fun l n => xlit_any xp gx g _ l (hG.drewN n))
  have HL := Lib.hid (fun n => xlen_any xp gx g _ (hG.drewN n))
  have HG := Lib.hid hG
  have k1 := isL_iff.1 h1
  have k2 := isL_iff.1 h2
  have hxor := bits_xor_one lo (by omega) (by omega)
  have t0 : (lo == 0) = false := by simpa using p0
  have t1 : (hi == notL lo) = false := by simpa using p3
  have t2 : (lo == 1) = false := by simpa using p1
  have t3 : (hi == lo) = false := by simpa using p2
  obtain ⟨hx0, hx1, A, c, hb, hs⟩ := hG
  have c0 := hb.at_ 0 rfl
  have c1 := hb.at_ 1 rfl
  have HI := Lib.hid hi'
  have HS := Lib.hid hs
  have hgl : g.n + g.ands.length < 8000 := hlt
  clear hb hs p0 p1 p3 hi'
  rcases ho with ⟨e1, e2, ho⟩ | ⟨e1, e2, ho⟩ | ⟨e1, e2, ho⟩
  rotate_left 2
  · exact absurd ho.symm p2
  all_goals
    clear p2
    subst x
    subst y
    go_enter Tryd.func33, Tryd.ntmps33
    go_wp2_with fail
    refine (HX.out _ 0).mono ?_
    rintro e w' ⟨rfl, n1, rfl⟩
    first | rw [h1] | rw [h2]
    go_wp2_with fail
    refine (HX.out _ n1).mono ?_
    rintro e w' ⟨rfl, n2, rfl⟩
    first | rw [h2] | rw [h1]
    go_wp2_with fail
    go_loopw [8] (fun iv wr => ∃ (k j : Nat), k ≤ g.ands.length ∧ iv = .int .i64 (k : Int) ∧ wr = w.drewN j) (fun iv _ => 20000 - (intOf iv).toNat)
    case atStart => exact ⟨0, _, by omega, rfl, rfl⟩
    case round =>
      obtain ⟨k, j, hk, rfl, rfl⟩ := hrel
      by_cases hkl : k < g.ands.length
      · obtain ⟨b, o, rfl, _, q1, q2⟩ := sl_pair HS.out hkl
        rw [← Nat.add_assoc] at q2
        have hk0 : (0 : Int) ≤ k := by omega
        have hk1 : (k : Int) < g.ands.length := by omega
        have hne := idx_all HI.out hkl
        generalize g.ands.getD k (0, 0) = p at *
        obtain ⟨u, v⟩ := p
        simp only at q1 q2
        by_cases hu : u = hi
        · have hv : ¬ v = lo := fun e => hne (by rw [hu, e])
          have r1 : (u == hi) = true := by simpa using hu
          have r2 : (v == lo) = false := by simpa using hv
          clear hu hv hne
          go_wp2_with fail
          go_roundw
          case rel => exact ⟨k + 1, _, by omega, by go_num, rfl⟩
          case measure => simp [intOf]; omega
        · have r1 : (u == hi) = false := by simpa using hu
          clear hu hne
          go_wp2_with fail
          go_roundw
          case rel => exact ⟨k + 1, _, by omega, by go_num, rfl⟩
          case measure => simp [intOf]; omega
      · obtain rfl : k = g.ands.length := by omega
        go_wp2_with fail
        refine (HL.out j).mono ?_
        rintro e w' ⟨rfl, n3, rfl⟩
        go_wp2_with fail
        refine (pairs_any A g.ands.length c _ g.ands _ rfl (by omega) (HS.out.drewN (j + n3))).mono ?_
        rintro e w4 ⟨A1, c1', rfl, hown, hf4⟩
        obtain ⟨i0, hi0, hz0, hz1, hz2⟩ := info_parts infoPair
        go_wp2_with (at_builtin; refine wpList_append_own_at _ rfl (.tmp 94) (.tmp 98) 35 rfl w.heap.size 73 i0 (.agg #[.int .i64 0, .int .i64 0]) 2 16 Tryd.underlying35 hi0 hz0 hz1 hz2 rfl (by decide) _ _ _ rfl (hown.alloc (.cells #[.int .i64 hi, .int .i64 lo] 73)) ⟨w4.heap.size, 0, none⟩ 1 1 [.int .i64 hi, .int .i64 lo] rfl rfl ?c1 ?c2 ?c3 ?c4 ?c5 ?_)
        case c1 => intro j u hu; rw [addr_add, Nat.zero_add]; exact ((Blk.new w4 73 [.int .i64 hi, .int .i64 lo]).cell j).trans hu
        case c2 => intro u hu; simp at hu; rcases hu with rfl | rfl <;> rfl
        case c3 => unfold maxLen; omega
        case c4 => omega
        case c5 => have := hf4.size; simp at this ⊢; omega
        intro v' w5 hown5 hgrow _ _
        have hfr5 : Frm (fun _ => False) w w5 := (((Frm.refl _ w).drewN (j + n3)).trans hf4 |>.alloc (.cells #[.int .i64 hi, .int .i64 lo] 73)).grown hgrow (fun g hg hlt => by have := (hown.lt g hg).1; simp at this; omega)
        obtain ⟨hy0, hy1, A5, c5, hb5, hs5⟩ := HG.out.frm hfr5 (fun _ _ => id)
        obtain ⟨A2, c2', rfl, _⟩ := (Sl.of_own hown5).form
        have fr1 := hb5.frozen 1
        have d1 := hb5.at_ 1 rfl
        have hgw := hgx gx hx1
        have hfs : Frm (fun k => k = gx) w5 (w5.setCell ⟨gx, 1, none⟩ (.slice A2 (g.ands.length + 1) c2')) := (Frm.refl (fun k => k = gx) w5).setCell (p := ⟨gx, 1, none⟩) (fun _ => rfl) _
        have res : IsX (w5.setCell ⟨gx, 1, none⟩ (.slice A2 (g.ands.length + 1) c2')) (fun k => xp k ∨ (w.heap.size ≤ k ∧ k < w5.heap.size)) gx { g with ands := g.ands ++ [(hi, lo)] } := by
          refine ⟨by simp; omega, .inl hx1, A2, c2', ?_, ?_⟩
          · have := hb5.set_ 1 (.slice A2 (g.ands.length + 1) c2')
            simpa using this
          · have := ((own_sl hown5).mono (G := fun k => (xp k ∨ (w.heap.size ≤ k ∧ k < w5.heap.size)) ∧ k ≠ gx) (fun k _ hk => ⟨.inr hk, by omega⟩)).frm hfs (fun k hk e => hk.2 e)
            rw [pairs_append]; simpa [pairs] using this
        have HR := Lib.hid (fun n => xlen_any _ gx _ _ (res.drewN n))
        have RES := Lib.hid res
        have HFS := Lib.hid ((hfr5.trans' hfs (U := fun k => k = gx) (fun _ _ h => h.elim) (fun _ _ h => h)))
        clear res hown5 hgrow hown hb5 hs5 hfs
        go_wp2_with fail
        refine (HR.out 0).mono ?_
        rintro e w' ⟨rfl, n5, rfl⟩
        rw [len_more]
        have hlg : g.len < 8000 := hlt
        go_wp2_with fail
        go_ret
        refine ⟨ret_int (by omega), _, RES.out.drewN _, fun k hk => ?_, HFS.out.drewN _⟩
        rcases hk with h | h
        · exact .inl h
        · exact .inr (by simpa using h)

end Go.Proofs.YtkjlgamggkencaaDoor
