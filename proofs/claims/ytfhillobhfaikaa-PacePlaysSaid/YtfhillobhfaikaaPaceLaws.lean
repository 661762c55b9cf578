/-
  What the laws of chapter 17 lean on: the examples, and the short laws' walks.
-/
import Derived.Test.YtfhillobhfaikaaPaceM
import Derived.Test.YtfhillobhfaikaaNum
namespace Go.Proofs.Ytfhillobhfaikaa
open Go.RowKit

theorem start_small (lr lp lt ls : List Int) (most : Int) : (Pc.start lr lp lt ls most).small := by simp [Pc.start, Pc.small]

set_option maxHeartbeats 400000 in
theorem first_any (w : World) :
    Calls Try.prog 8 #[] w fun e w' => e = .returned (.bool true) ∧ Frm (fun _ => False) w w' := by
  go_enter Try.func8, Try.ntmps8
  go_wp2_with fail
  refine (new_any _ _ _ _ [] [] [] [] 0 0 (fun _ => False) w (Sl.nil_ _ _ _) (Sl.nil_ _ _ _) (Sl.nil_ _ _ _) (Sl.nil_ _ _ _) (by simp) (by simp) (by simp) (by simp)).mono ?_
  rintro e w1 ⟨g, rfl, hg, hp, hf⟩
  go_wp2_with fail
  refine (least_any g _ _ w1 hp).mono ?_
  rintro e w' ⟨rfl, rfl⟩
  go_wp2_with fail
  refine (left_any g _ _ w1 hp (start_small _ _ _ _ _) (by simp [Pc.start])).mono ?_
  rintro e w' ⟨rfl, n, rfl⟩
  go_wp2
  go_ret
  exact ⟨ret_bool (by simp), hf.drewN n⟩

/-- a script of one sign alone: it stays where it is -/
theorem sign_one (g : Nat) (F : Nat → Prop) (r m saved : Int) (w : World) (h : IsPace w g F (Pc.start [] [] [] [r] m)) :
    Calls Try.prog 17 #[.pointer (some ⟨g, 0, none⟩), .int .i64 saved] w fun e w' => e = .returned (.bool (signOf r saved)) ∧ IsPace w' g F (Pc.start [] [] [] [r] m) ∧ Frm (fun k => k = g) w w' :=
  (sign_any g F _ saved w h).mono fun _ _ ⟨he, hp, hf⟩ => by
    have e1 : (Pc.start [] [] [] [r] m).doSign = Pc.start [] [] [] [r] m := by simp [Pc.start, Pc.doSign, nxtK]
    rw [e1] at hp
    exact ⟨he, hp, hf⟩

set_option maxRecDepth 100000 in
set_option maxHeartbeats 4000000 in
theorem saves_any (k : Int) (_ : (Lit.int .i64 k).wf = true) (w : World) :
    Calls Try.prog 4 #[.int .i64 k] w fun e w' => e = .returned (.bool true) ∧ Frm (fun _ => False) w w' := by
  have s00 : signOf 0 0 = false := by decide +kernel
  have s01 : signOf 0 1 = true := by decide +kernel
  have s02 : signOf 0 2 = false := by decide +kernel
  have s10 : signOf 1 0 = true := by decide +kernel
  have s11 : signOf 1 1 = true := by decide +kernel
  have s12 : signOf 1 2 = true := by decide +kernel
  have s20 : signOf 2 0 = false := by decide +kernel
  have s21 : signOf 2 1 = false := by decide +kernel
  have s22 : signOf 2 2 = false := by decide +kernel
  have s30 : signOf 3 0 = true := by decide +kernel
  have s31 : signOf 3 1 = false := by decide +kernel
  have s32 : signOf 3 2 = true := by decide +kernel
  have t0 : signOf (-4) 1 = true := by decide +kernel
  have t1 : signOf (-3) 1 = true := by decide +kernel
  have t2 : signOf (-2) 1 = false := by decide +kernel
  have t3 : signOf (-1) 1 = false := by decide +kernel
  go_enter Try.func4, Try.ntmps4
  go_wp2_with fail
  refine (first_any w).mono ?_
  rintro e w1 ⟨rfl, hf1⟩
  go_wp2_with fail
  refine (number_any k 4 w1 (by omega) (by omega)).mono ?_
  rintro e w' ⟨rfl, rfl⟩
  have hr : k % 4 = 0 ∨ k % 4 = 1 ∨ k % 4 = 2 ∨ k % 4 = 3 := by omega
  rcases hr with hr | hr | hr | hr <;> rw [hr] <;> clear hr
  · -- the script's number is 0
    go_wp2_with fail
    refine (new_any _ _ _ _ [] [] [] [_] 0 0 (fun k => k = w1.heap.size) _ (Sl.nil_ _ _ _) (Sl.nil_ _ _ _) (Sl.nil_ _ _ _) ((Blk.new w1 3 [_]).sl 1 1 rfl) (by simp) (by simp) (by simp) (by simp)).mono ?_
    rintro e w2 ⟨g, rfl, hg, hp, hf2⟩
    go_wp2_with fail
    refine (sign_one g _ _ _ 0 _ hp).mono ?_
    rintro e w3 ⟨rfl, hp3, hf3⟩
    go_wp2_with fail
    refine (sign_one g _ _ _ 1 _ hp3).mono ?_
    rintro e w4 ⟨rfl, hp4, hf4⟩
    go_wp2_with fail
    refine (sign_one g _ _ _ 2 _ hp4).mono ?_
    rintro e w5 ⟨rfl, hp5, hf5⟩
    have hg5 : w1.heap.size < w5.heap.size := by have := hp5.lt; simp at hg; omega
    have h15 : Frm (fun _ => False) w1 w5 := ((((Frm.refl (fun _ => False) w1).alloc _).trans hf2).then' hf3 (fun k hk e => by simp at hg; omega)).then' hf4 (fun k hk e => by simp at hg; omega) |>.then' hf5 (fun k hk e => by simp at hg; omega)
    go_wp2_with fail
    refine (new_any _ _ _ _ [] [] [] [_] 0 0 (fun k => k = w5.heap.size + 1 + 1 + 1 + 1 + 1) _ (Sl.nil_ _ _ _) (Sl.nil_ _ _ _) (Sl.nil_ _ _ _) ((Blk.new_at _ 3 [.int .i64 (-4)] _ (by simp)).sl 1 1 rfl) (by simp) (by simp) (by simp) (by simp)).mono ?_
    rintro e w6 ⟨g2, rfl, hg2, hp6, hf6⟩
    have hB := (((((((Blk.new_at w5 4 [.bool false, .bool true, .bool false] (w5.heap.size) (by simp)).alloc _).alloc _).alloc _).alloc _).alloc _)).frm hf6 (fun h => h)
    have hne : w5.heap.size ≠ g2 := by simp at hg2; omega
    have r0 := hB.at_ 0 rfl
    have r1 := hB.at_ 1 rfl
    have r2 := hB.at_ 2 rfl
    have h56 : Frm (fun _ => False) w5 w6 := (((((((Frm.refl (fun _ => False) w5).alloc _).alloc _).alloc _).alloc _).alloc _).alloc _).trans hf6
    have h5g : w5.heap.size ≤ g2 := by simp at hg2; omega
    clear hf6 hg2 hp hp3 hp4 hp5 hf2 hf3 hf4 hf5
    go_wp2_with fail
    go_region_held3 (fun w' => w'.cell? ⟨w5.heap.size, 0, none⟩ = some (.bool false) ∧ w'.cell? ⟨w5.heap.size, 1, none⟩ = some (.bool true) ∧ w'.cell? ⟨w5.heap.size, 2, none⟩ = some (.bool false))
      (first | (go_keep; done) | exact ⟨hf7.cell r0 hne, hf7.cell r1 hne, hf7.cell r2 hne⟩)
      (first | (go_at_call 17; refine (sign_one g2 _ _ _ 1 w6.drew hp6).mono ?_; rintro e w7 ⟨rfl, hp7, hf7⟩))
    go_wp2
    go_ret
    exact ⟨rfl, (hf1.trans (h15.trans h56)).then' ((Frm.refl (fun k => k = g2) w6).drew.trans hf7) (fun k hk e => by have := hf1.size; omega)⟩
  · -- the script's number is 1
    go_wp2_with fail
    refine (new_any _ _ _ _ [] [] [] [_] 0 0 (fun k => k = w1.heap.size) _ (Sl.nil_ _ _ _) (Sl.nil_ _ _ _) (Sl.nil_ _ _ _) ((Blk.new w1 3 [_]).sl 1 1 rfl) (by simp) (by simp) (by simp) (by simp)).mono ?_
    rintro e w2 ⟨g, rfl, hg, hp, hf2⟩
    go_wp2_with fail
    refine (sign_one g _ _ _ 0 _ hp).mono ?_
    rintro e w3 ⟨rfl, hp3, hf3⟩
    go_wp2_with fail
    refine (sign_one g _ _ _ 1 _ hp3).mono ?_
    rintro e w4 ⟨rfl, hp4, hf4⟩
    go_wp2_with fail
    refine (sign_one g _ _ _ 2 _ hp4).mono ?_
    rintro e w5 ⟨rfl, hp5, hf5⟩
    have hg5 : w1.heap.size < w5.heap.size := by have := hp5.lt; simp at hg; omega
    have h15 : Frm (fun _ => False) w1 w5 := ((((Frm.refl (fun _ => False) w1).alloc _).trans hf2).then' hf3 (fun k hk e => by simp at hg; omega)).then' hf4 (fun k hk e => by simp at hg; omega) |>.then' hf5 (fun k hk e => by simp at hg; omega)
    go_wp2_with fail
    refine (new_any _ _ _ _ [] [] [] [_] 0 0 (fun k => k = w5.heap.size + 1 + 1 + 1 + 1 + 1) _ (Sl.nil_ _ _ _) (Sl.nil_ _ _ _) (Sl.nil_ _ _ _) ((Blk.new_at _ 3 [.int .i64 (-3)] _ (by simp)).sl 1 1 rfl) (by simp) (by simp) (by simp) (by simp)).mono ?_
    rintro e w6 ⟨g2, rfl, hg2, hp6, hf6⟩
    have hB := ((((((Blk.new_at (w5.alloc _) 4 [.bool true, .bool true, .bool true] (w5.heap.size + 1) (by simp)).alloc _).alloc _).alloc _).alloc _)).frm hf6 (fun h => h)
    have hne : w5.heap.size + 1 ≠ g2 := by simp at hg2; omega
    have r0 := hB.at_ 0 rfl
    have r1 := hB.at_ 1 rfl
    have r2 := hB.at_ 2 rfl
    have h56 : Frm (fun _ => False) w5 w6 := (((((((Frm.refl (fun _ => False) w5).alloc _).alloc _).alloc _).alloc _).alloc _).alloc _).trans hf6
    have h5g : w5.heap.size ≤ g2 := by simp at hg2; omega
    clear hf6 hg2 hp hp3 hp4 hp5 hf2 hf3 hf4 hf5
    go_wp2_with fail
    go_region_held3 (fun w' => w'.cell? ⟨w5.heap.size + 1, 0, none⟩ = some (.bool true) ∧ w'.cell? ⟨w5.heap.size + 1, 1, none⟩ = some (.bool true) ∧ w'.cell? ⟨w5.heap.size + 1, 2, none⟩ = some (.bool true))
      (first | (go_keep; done) | exact ⟨hf7.cell r0 hne, hf7.cell r1 hne, hf7.cell r2 hne⟩)
      (first | (go_at_call 17; refine (sign_one g2 _ _ _ 1 w6.drew hp6).mono ?_; rintro e w7 ⟨rfl, hp7, hf7⟩))
    go_wp2
    go_ret
    exact ⟨rfl, (hf1.trans (h15.trans h56)).then' ((Frm.refl (fun k => k = g2) w6).drew.trans hf7) (fun k hk e => by have := hf1.size; omega)⟩
  · -- the script's number is 2
    go_wp2_with fail
    refine (new_any _ _ _ _ [] [] [] [_] 0 0 (fun k => k = w1.heap.size) _ (Sl.nil_ _ _ _) (Sl.nil_ _ _ _) (Sl.nil_ _ _ _) ((Blk.new w1 3 [_]).sl 1 1 rfl) (by simp) (by simp) (by simp) (by simp)).mono ?_
    rintro e w2 ⟨g, rfl, hg, hp, hf2⟩
    go_wp2_with fail
    refine (sign_one g _ _ _ 0 _ hp).mono ?_
    rintro e w3 ⟨rfl, hp3, hf3⟩
    go_wp2_with fail
    refine (sign_one g _ _ _ 1 _ hp3).mono ?_
    rintro e w4 ⟨rfl, hp4, hf4⟩
    go_wp2_with fail
    refine (sign_one g _ _ _ 2 _ hp4).mono ?_
    rintro e w5 ⟨rfl, hp5, hf5⟩
    have hg5 : w1.heap.size < w5.heap.size := by have := hp5.lt; simp at hg; omega
    have h15 : Frm (fun _ => False) w1 w5 := ((((Frm.refl (fun _ => False) w1).alloc _).trans hf2).then' hf3 (fun k hk e => by simp at hg; omega)).then' hf4 (fun k hk e => by simp at hg; omega) |>.then' hf5 (fun k hk e => by simp at hg; omega)
    go_wp2_with fail
    refine (new_any _ _ _ _ [] [] [] [_] 0 0 (fun k => k = w5.heap.size + 1 + 1 + 1 + 1 + 1) _ (Sl.nil_ _ _ _) (Sl.nil_ _ _ _) (Sl.nil_ _ _ _) ((Blk.new_at _ 3 [.int .i64 (-2)] _ (by simp)).sl 1 1 rfl) (by simp) (by simp) (by simp) (by simp)).mono ?_
    rintro e w6 ⟨g2, rfl, hg2, hp6, hf6⟩
    have hB := (((((Blk.new_at ((w5.alloc _).alloc _) 4 [.bool false, .bool false, .bool false] (w5.heap.size + 1 + 1) (by simp)).alloc _).alloc _).alloc _)).frm hf6 (fun h => h)
    have hne : w5.heap.size + 1 + 1 ≠ g2 := by simp at hg2; omega
    have r0 := hB.at_ 0 rfl
    have r1 := hB.at_ 1 rfl
    have r2 := hB.at_ 2 rfl
    have h56 : Frm (fun _ => False) w5 w6 := (((((((Frm.refl (fun _ => False) w5).alloc _).alloc _).alloc _).alloc _).alloc _).alloc _).trans hf6
    have h5g : w5.heap.size ≤ g2 := by simp at hg2; omega
    clear hf6 hg2 hp hp3 hp4 hp5 hf2 hf3 hf4 hf5
    go_wp2_with fail
    go_region_held3 (fun w' => w'.cell? ⟨w5.heap.size + 1 + 1, 0, none⟩ = some (.bool false) ∧ w'.cell? ⟨w5.heap.size + 1 + 1, 1, none⟩ = some (.bool false) ∧ w'.cell? ⟨w5.heap.size + 1 + 1, 2, none⟩ = some (.bool false))
      (first | (go_keep; done) | exact ⟨hf7.cell r0 hne, hf7.cell r1 hne, hf7.cell r2 hne⟩)
      (first | (go_at_call 17; refine (sign_one g2 _ _ _ 1 w6.drew hp6).mono ?_; rintro e w7 ⟨rfl, hp7, hf7⟩))
    go_wp2
    go_ret
    exact ⟨rfl, (hf1.trans (h15.trans h56)).then' ((Frm.refl (fun k => k = g2) w6).drew.trans hf7) (fun k hk e => by have := hf1.size; omega)⟩
  · -- the script's number is 3
    go_wp2_with fail
    refine (new_any _ _ _ _ [] [] [] [_] 0 0 (fun k => k = w1.heap.size) _ (Sl.nil_ _ _ _) (Sl.nil_ _ _ _) (Sl.nil_ _ _ _) ((Blk.new w1 3 [_]).sl 1 1 rfl) (by simp) (by simp) (by simp) (by simp)).mono ?_
    rintro e w2 ⟨g, rfl, hg, hp, hf2⟩
    go_wp2_with fail
    refine (sign_one g _ _ _ 0 _ hp).mono ?_
    rintro e w3 ⟨rfl, hp3, hf3⟩
    go_wp2_with fail
    refine (sign_one g _ _ _ 1 _ hp3).mono ?_
    rintro e w4 ⟨rfl, hp4, hf4⟩
    go_wp2_with fail
    refine (sign_one g _ _ _ 2 _ hp4).mono ?_
    rintro e w5 ⟨rfl, hp5, hf5⟩
    have hg5 : w1.heap.size < w5.heap.size := by have := hp5.lt; simp at hg; omega
    have h15 : Frm (fun _ => False) w1 w5 := ((((Frm.refl (fun _ => False) w1).alloc _).trans hf2).then' hf3 (fun k hk e => by simp at hg; omega)).then' hf4 (fun k hk e => by simp at hg; omega) |>.then' hf5 (fun k hk e => by simp at hg; omega)
    go_wp2_with fail
    refine (new_any _ _ _ _ [] [] [] [_] 0 0 (fun k => k = w5.heap.size + 1 + 1 + 1 + 1 + 1) _ (Sl.nil_ _ _ _) (Sl.nil_ _ _ _) (Sl.nil_ _ _ _) ((Blk.new_at _ 3 [.int .i64 (-1)] _ (by simp)).sl 1 1 rfl) (by simp) (by simp) (by simp) (by simp)).mono ?_
    rintro e w6 ⟨g2, rfl, hg2, hp6, hf6⟩
    have hB := ((((Blk.new_at (((w5.alloc _).alloc _).alloc _) 4 [.bool true, .bool false, .bool true] (w5.heap.size + 1 + 1 + 1) (by simp)).alloc _).alloc _)).frm hf6 (fun h => h)
    have hne : w5.heap.size + 1 + 1 + 1 ≠ g2 := by simp at hg2; omega
    have r0 := hB.at_ 0 rfl
    have r1 := hB.at_ 1 rfl
    have r2 := hB.at_ 2 rfl
    have h56 : Frm (fun _ => False) w5 w6 := (((((((Frm.refl (fun _ => False) w5).alloc _).alloc _).alloc _).alloc _).alloc _).alloc _).trans hf6
    have h5g : w5.heap.size ≤ g2 := by simp at hg2; omega
    clear hf6 hg2 hp hp3 hp4 hp5 hf2 hf3 hf4 hf5
    go_wp2_with fail
    go_region_held3 (fun w' => w'.cell? ⟨w5.heap.size + 1 + 1 + 1, 0, none⟩ = some (.bool true) ∧ w'.cell? ⟨w5.heap.size + 1 + 1 + 1, 1, none⟩ = some (.bool false) ∧ w'.cell? ⟨w5.heap.size + 1 + 1 + 1, 2, none⟩ = some (.bool true))
      (first | (go_keep; done) | exact ⟨hf7.cell r0 hne, hf7.cell r1 hne, hf7.cell r2 hne⟩)
      (first | (go_at_call 17; refine (sign_one g2 _ _ _ 1 w6.drew hp6).mono ?_; rintro e w7 ⟨rfl, hp7, hf7⟩))
    go_wp2
    go_ret
    exact ⟨rfl, (hf1.trans (h15.trans h56)).then' ((Frm.refl (fun k => k = g2) w6).drew.trans hf7) (fun k hk e => by have := hf1.size; omega)⟩

end Go.Proofs.Ytfhillobhfaikaa
