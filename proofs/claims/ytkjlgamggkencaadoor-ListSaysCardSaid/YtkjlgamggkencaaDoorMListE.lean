/-
  list.Functions of no moves, or of one that is not as long as the inner inputs are many.
-/
import Derived.Test.YtkjlgamggkencaaDoorMListC
import Derived.Test.YtkjlgamggkencaaDoorMSee
import Derived.Test.YtkjlgamggkencaaDoorMRegion
namespace Go.Proofs.YtkjlgamggkencaaDoor
open Go.RowKit
set_option linter.unusedVariables false

set_option maxRecDepth 100000 in
set_option maxHeartbeats 2000000 in
theorem lfun_bad (P : Nat → Addr) {M : Mt} (hM : M.Ok) (n : Nat) (hn : n = M.ou + M.inn) (A : Option Addr) (c : Nat) (B : Option Addr) (d : Nat) (F Fv : Nat → Prop) (Av : Option Addr) (k cv' : Nat) (mvs : List (List Bool)) (w : World) (h4 : n ≤ 100) (h5 : M.L.length ≤ 100) (hk : k ≤ 30)
    (hA : Sl w F 2 (.slice A M.L.length c) M.L.length (pairs M.L)) (hB : Sl w F 1 (.slice B 1 d) 1 ([M.o].map (.int .i64))) (hl : ∀ r ∈ mvs, r.length ≤ 100000) (hR : RwB w Fv (.slice Av k cv') k mvs) (hS : Sents L7 P w) (hbad : k = 0 ∨ rightP M.inn mvs = false) :
    Calls Tryd.prog 94 #[mtv M.ex M.ou n A M.L.length c B d, .slice Av k cv'] w fun e w' => e = .returned (.tuple #[cv 0 none 0 0 none 0 0, PE P 104]) ∧ Frm (fun _ => False) w w' := by
  have hf0 := ((Frm.refl (fun _ => False) w).alloc (.cells #[.bool M.ex, .int .i64 M.ou, .int .i64 n, .slice A M.L.length c, .slice B 1 d] 104)).alloc (.cells #[.int .i64 0, .slice none 0 0, .slice none 0 0] 40)
  have hb0 : Blk ((w.alloc (.cells #[.bool M.ex, .int .i64 M.ou, .int .i64 n, .slice A M.L.length c, .slice B 1 d] 104)).alloc (.cells #[.int .i64 0, .slice none 0 0, .slice none 0 0] 40)) w.heap.size 104 [.bool M.ex, .int .i64 M.ou, .int .i64 n, .slice A M.L.length c, .slice B 1 d] := (Blk.new _ _ _).alloc _
  have hr0 : Blk ((w.alloc (.cells #[.bool M.ex, .int .i64 M.ou, .int .i64 n, .slice A M.L.length c, .slice B 1 d] 104)).alloc (.cells #[.int .i64 0, .slice none 0 0, .slice none 0 0] 40)) (w.heap.size + 1) 40 [.int .i64 0, .slice none 0 0, .slice none 0 0] := Blk.new_at _ _ _ _ (by simp)
  have HCK := Lib.hid (mcheck_ok hM n hn A c B d F _ (by omega) (hA.frm hf0 (fun _ _ => id)) (hB.frm hf0 (fun _ _ => id)))
  have HRI := Lib.hid (fun (W : World) (hf : Frm (fun _ => False) w W) => right_any M.ex M.ou M.inn n hn A M.L.length c B d Av k cv' Fv mvs W (by omega) (by omega) hl (hR.frm hf (fun _ _ => id)))
  have hpe := PE_pos P 104 (by decide)
  rw [hpe]
  have hcell := fun (W : World) (hf : Frm (fun _ => False) w W) => (hS.frm hf).cell 104 (by decide)
  have HCL := Lib.hid (show ∀ (W : World), Frm (fun _ => False) w W → W.cell? ⟨0, 0, none⟩ = some (.iface 158 (.pointer (some (P 104)))) from hcell)
  obtain ⟨z, hz⟩ : ∃ z, rightP M.inn mvs = z := ⟨_, rfl⟩
  rw [hz] at hbad HRI
  clear hA hB hl hR hn hM hS hpe hcell hz h4 h5
  generalize P 104 = a at *
  generalize M.ex = ex at *
  generalize M.ou = ou at *
  generalize M.L.length = m at *
  have HBAD := Lib.hid hbad
  clear hbad
  go_enter Tryd.func94, Tryd.ntmps94
  have b0 := hb0.at_ 0 rfl
  have b1 := hb0.at_ 1 rfl
  have b2 := hb0.at_ 2 rfl
  have b3 := hb0.at_ 3 rfl
  have b4 := hb0.at_ 4 rfl
  go_wp2_with fail
  refine HCK.out.mono ?_
  rintro e w1 ⟨rfl, hf1⟩
  have hb1 := hb0.frm hf1 id
  have hr1 := hr0.frm hf1 id
  have hf01 := hf0.trans hf1
  clear b0 b1 b2 b3 b4 hb0 hr0 hf0 hf1 HCK
  have b0 := hb1.at_ 0 rfl
  have b1 := hb1.at_ 1 rfl
  have b2 := hb1.at_ 2 rfl
  have b3 := hb1.at_ 3 rfl
  have b4 := hb1.at_ 4 rfl
  go_upto_region 4 with (fail)
  go_cut [31] from 23 to 31 (fun t wr => t = .bool true ∧ Frm (fun _ => False) w1 wr)
  case first =>
    by_cases h0 : (k : Int) = 0
    · go_wp2_with fail
      go_meet
      exact ⟨rfl, Frm.refl _ _⟩
    · obtain rfl : z = false := by rcases HBAD.out with h | h; exact absurd (by omega) h0; exact h
      go_wp2_with fail
      refine (HRI.out w1 hf01).mono ?_
      rintro e w2 ⟨rfl, hf2⟩
      go_wp2_with fail
      go_meet
      exact ⟨rfl, hf2⟩
  case rest =>
  obtain ⟨rfl, hf2⟩ := hcut
  obtain ⟨w2, rfl⟩ : ∃ w2, w2 = wc := ⟨_, rfl⟩
  have hr2 := hr1.frm hf2 id
  have hf02 := hf01.trans hf2
  have r0 := hr2.at_ 0 rfl
  have r1 := hr2.at_ 1 rfl
  have r2 := hr2.at_ 2 rfl
  have z0 := hr2.frozen 0
  have z1 := hr2.frozen 1
  have z2 := hr2.frozen 2
  have hg := HCL.out w2 hf02
  have hb3 := ((hr2.set_ 0 (.int .i64 0)).set_ 1 (.slice none 0 0)).set_ 2 (.slice none 0 0)
  have d0 := hb3.at_ 0 rfl
  have d1 := hb3.at_ 1 rfl
  have d2 := hb3.at_ 2 rfl
  have hf3 := (((Frm.refl (fun g => g = w.heap.size + 1) w2).setCell (p := ⟨w.heap.size + 1, 0, none⟩) (fun _ => rfl) (.int .i64 0)).setCell (p := ⟨w.heap.size + 1, 1, none⟩) (fun _ => rfl) (.slice none 0 0)).setCell (p := ⟨w.heap.size + 1, 2, none⟩) (fun _ => rfl) (.slice none 0 0)
  have hfin := hf02.then' hf3 (fun g hg e => by omega)
  have hH0 : w2.drew.cell? ⟨0, 0, none⟩ = some (.iface 158 (.pointer (some a))) := hg
  have hgl : (0 : Nat) < w.heap.size := World.block_lt_of_cell? _ _ (HCL.out w (Frm.refl _ _))
  clear hb3 HCL HRI b0 b1 b2 b3 b4 hb1 hr1
  go_wp2_with fail
  have hHeld := hH0
  refine Held.begin (fun w' => w'.cell? ⟨0, 0, none⟩ = some (.iface 158 (.pointer (some a)))) 3 (by kernel_rfl) ?_
  refine Held.take (i := 0) (oi := ?oa0) (v := ?va0) ?hia0 (by kernel_rfl) (by kernel_rfl) (by kernel_rfl) (by kernel_rfl) (fun _ _ _ h => h) (Or.inl ⟨?hwa0, ?hya0⟩) (by assumption) ?resta0
  case hia0 => (simp only [List.getElem?_toArray, List.getElem?_cons_zero]; rfl)
  case hwa0 => rfl
  case hya0 => (intro w hSw; (try dsimp only at hSw); go_simp; try with_reducible rfl)
  (try simp only [Act.put, List.setIfInBounds_toArray, List.set_cons_zero, List.set_cons_succ])
  refine Held.take (i := 1) (oi := ?oa1) (v := ?va1) ?hia1 (by kernel_rfl) (by kernel_rfl) (by kernel_rfl) (by kernel_rfl) (fun _ _ _ h => h) (Or.inl ⟨?hwa1, ?hya1⟩) (by assumption) ?resta1
  case hia1 => (simp only [List.getElem?_toArray, List.getElem?_cons_succ, List.getElem?_cons_zero]; rfl)
  case hwa1 => rfl
  case hya1 => (intro w hSw; (try dsimp only at hSw); go_simp; try with_reducible rfl)
  (try simp only [Act.put, List.setIfInBounds_toArray, List.set_cons_zero, List.set_cons_succ])
  refine Held.next (i := 2) (o := ?oa2) (by kernel_rfl) ?hia2 (fun K hK => ?sta2)
  case hia2 => (simp only [List.getElem?_toArray, List.getElem?_cons_succ, List.getElem?_cons_zero]; rfl)
  go_simp
  refine hK.out _ _ (fun _ => by exact hf3.cell hg (by show ¬ (0 : Nat) = w.heap.size + 1; omega)) ?_
  clear hK K
  (try simp only [Act.put, List.setIfInBounds_toArray, List.set_cons_zero, List.set_cons_succ])
  refine Held.next (i := 3) (o := ?oa3) (by kernel_rfl) ?hia3 (fun K hK => ?sta3)
  case hia3 => (simp only [List.getElem?_toArray, List.getElem?_cons_succ, List.getElem?_cons_zero]; rfl)
  go_simp
  refine hK.out _ _ (fun h => absurd h (by decide)) ?_
  clear hK K
  (try simp only [Act.put, List.setIfInBounds_toArray, List.set_cons_zero, List.set_cons_succ])
  refine Held.done (by kernel_rfl) ?_ _
  refine NoPanic.normal ?_
  go_wp2_with fail
  refine bodyPost_ret (v := .tuple #[cv 0 none 0 0 none 0 0, .iface 158 (.pointer (some a))]) (by simp [results, Tryd.results94, go_sem, d0, d1, d2, cv]) rfl ⟨rfl, hfin.drewN 1⟩

end Go.Proofs.YtkjlgamggkencaaDoor
