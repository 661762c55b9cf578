/-
  The contract of skolemref1.CheckCNF, of right ones.
-/
import Derived.Test.YtkjlgamggkencaaDoorTseitinE
import Derived.Test.YtkjlgamggkencaaDoorClauseP
import Derived.Test.YtkjlgamggkencaaDoorRegion
namespace Go.Proofs.YtkjlgamggkencaaDoor
open Go.RowKit

set_option maxRecDepth 100000 in
theorem islit_any (x : Int) (vars : Nat) (w : World) (hx : OkLit vars x) (hb : vars ≤ 1000000) :
    Calls Tryd.prog 115 #[.int .i64 x, .int .i64 vars] w fun e w' => e = .returned (.bool true) ∧ w = w' := by
  obtain ⟨h0, h1, h2⟩ := hx
  have hw : IntKind.i64.wrap (-(vars : Int)) = -(vars : Int) := IntWalk.i64_in _ (by omega)
  have t0 : decide (x = 0) = false := by simp [h0]
  go_enter Tryd.func115, Tryd.ntmps115
  go_wp2_with fail
  go_ret
  exact ⟨ret_bool (by simp; try omega), rfl⟩

set_option maxRecDepth 100000 in
theorem none_any (w : World) :
    Calls Tryd.prog 117 #[] w fun e w' => e = .returned (.agg #[.int .i64 0, .bool false, .int .i64 0]) ∧ Frm (fun _ => False) w w' := by
  have hb : Blk (w.alloc (.cells #[.int .i64 0, .bool false, .int .i64 0] 62)) w.heap.size 62 [.int .i64 0, .bool false, .int .i64 0] := Blk.new _ _ _
  have b0 := hb.at_ 0 rfl
  have b1 := hb.at_ 1 rfl
  have b2 := hb.at_ 2 rfl
  have y0 := hb.frozen 0
  have y1 := hb.frozen 1
  have y2 := hb.frozen 2
  go_enter Tryd.func117, Tryd.ntmps117
  go_wp2_with fail
  exact bodyPost_ret (v := .agg #[.int .i64 0, .bool false, .int .i64 0]) (by simp [results, Tryd.results117, go_sem, b0, b1, b2]) rfl ⟨rfl, (Frm.refl _ _).alloc _⟩

set_option maxRecDepth 100000 in
set_option maxHeartbeats 8000000 in
theorem checkcnf_any (vars : Nat) (A : Option Addr) (n c : Nat) (F : Nat → Prop) (cs : List (List Int)) (w : World) (hR : Rw w F (.slice A n c) n cs) (hv : vars ≤ 4000) (hn : n ≤ 20000) (hx : ∀ c ∈ cs, ∀ x ∈ c, OkLit vars x) (hsum : (cs.map List.length).sum ≤ 80000) :
    Calls Tryd.prog 51 #[nv vars A n c] w fun e w' => e = .returned (.agg #[.int .i64 0, .bool false, .int .i64 0]) ∧ Frm (fun _ => False) w w' := by
  have hfa := (Frm.refl (fun _ => False) w).alloc (.cells #[.int .i64 vars, .slice A n c] 51)
  have hba : Blk (w.alloc (.cells #[.int .i64 vars, .slice A n c] 51)) w.heap.size 51 [.int .i64 vars, .slice A n c] := Blk.new _ _ _
  have HN := Lib.hid hR.1
  have HX := Lib.hid hx
  have b0 := hba.at_ 0 rfl
  have b1 := hba.at_ 1 rfl
  have hss : ∀ k, ((cs.take k).map List.length).sum ≤ (cs.map List.length).sum := fun k => by
    conv => rhs; rw [← List.take_append_drop k cs, List.map_append, List.sum_append]
    omega
  have HSS := Lib.hid hss
  clear hx hss
  have hO : Blk ((w.alloc (.cells #[.int .i64 vars, .slice A n c] 51)).alloc (.cells #[.int .i64 0, .bool false, .int .i64 0] 62)) (w.heap.size + 1) 62 [.int .i64 0, .bool false, .int .i64 0] := by
    have := Blk.new (w.alloc (.cells #[.int .i64 vars, .slice A n c] 51)) 62 [.int .i64 0, .bool false, .int .i64 0]
    simpa using this
  have hba2 := hba.alloc (.cells #[.int .i64 0, .bool false, .int .i64 0] 62)
  have hfa2 := hfa.alloc (.cells #[.int .i64 0, .bool false, .int .i64 0] 62)
  have hsA : ((w.alloc (.cells #[.int .i64 vars, .slice A n c] 51)).alloc (.cells #[.int .i64 0, .bool false, .int .i64 0] 62)).heap.size = w.heap.size + 2 := by simp
  have hR2 := hR.frm hfa2 (fun _ _ => id)
  clear b0 b1 hba hfa hR
  unfold nv
  go_enter Tryd.func51, Tryd.ntmps51
  go_wp2_with fail
  generalize ((w.alloc (.cells #[.int .i64 vars, .slice A n c] 51)).alloc (.cells #[.int .i64 0, .bool false, .int .i64 0] 62)) = W0 at *
  have hlt0 : w.heap.size < W0.heap.size := by omega
  have hlt1 : w.heap.size + 1 < W0.heap.size := by omega
  clear hsA
  go_loopw [3, 4] (fun sv iv wr => ∃ (k : Nat), k ≤ n ∧ iv = .int .i64 k ∧ sv = .int .i64 (((cs.take k).map List.length).sum : Nat) ∧ Frm (fun _ => False) W0 wr) (fun _ iv _ => n - (intOf iv).toNat)
  case atStart => exact ⟨0, by omega, rfl, rfl, Frm.refl _ _⟩
  case round =>
    obtain ⟨k, hk, rfl, rfl, hfk⟩ := hrel
    have hb := hba2.frm hfk id
    have b0 := hb.at_ 0 rfl
    have b1 := hb.at_ 1 rfl
    by_cases hlt : k < n
    · have hlt2 : k < cs.length := by rw [HN.out]; exact hlt
      obtain ⟨b, o, B, d, rfl, _, hc, hsB⟩ := (hR2.frm hfk (fun _ _ => id)).at_ hlt
      have hsu : ((cs.take (k + 1)).map List.length).sum = ((cs.take k).map List.length).sum + (cs.getD k []).length := by
        rw [List.take_succ_eq_append_getElem hlt2, List.map_append, List.sum_append]; simp [List.getD, hlt2]
      have hs1 := HSS.out (k + 1)
      have hS := Lib.hid hsu
      rw [hsu] at hs1
      clear hsu
      generalize cs.getD k [] = C at *
      generalize ((cs.take k).map List.length).sum = sk at *
      have k0 : (0 : Int) ≤ k := by omega
      have k1 : (k : Int) < n := by omega
      have hw : IntKind.i64.wrap ((sk : Int) + (C.length : Int)) = (sk : Int) + C.length := IntWalk.i64_in _ (by omega)
      go_wp2_with fail
      go_roundw
      case rel => exact ⟨k + 1, by omega, by go_num, by rw [hS.out]; simp, hfk⟩
      case measure => simp [intOf]; omega
    · have hkn : n = k := by omega
      subst hkn
      have hs1 := HSS.out n
      generalize ((cs.take n).map List.length).sum = sk at *
      have v0 : decide ((vars : Int) < 0) = false := by simp
      have v1 : decide ((4000 : Int) < vars) = false := by simp; omega
      have v2 : decide ((20000 : Int) < n) = false := by simp; omega
      have v3 : decide ((80000 : Int) < sk) = false := by simp; omega
      obtain ⟨W1, rfl⟩ : ∃ W1, W1 = wr := ⟨_, rfl⟩
      go_wp2_with fail
      go_loopw [5] (fun iv wr => ∃ (i : Nat), i ≤ n ∧ iv = .int .i64 i ∧ Frm (fun _ => False) W1 wr) (fun iv _ => n - (intOf iv).toNat)
      case atStart => exact ⟨0, by omega, rfl, Frm.refl _ _⟩
      case round =>
        clear b0 b1 hb
        obtain ⟨i, hi, rfl, hfi⟩ := hrel
        have hfki := hfk.trans hfi
        have hb := hba2.frm hfki id
        have b0 := hb.at_ 0 rfl
        have b1 := hb.at_ 1 rfl
        by_cases hlt : i < n
        · have hlt2 : i < cs.length := by rw [HN.out]; exact hlt
          obtain ⟨b, o, B, d, rfl, _, hc, hsB⟩ := (hR2.frm hfki (fun _ _ => id)).at_ hlt
          have hXi := HX.out (cs.getD i []) (by simp [List.getD, hlt2])
          have hCl : (cs.getD i []).length ≤ 80000 := by
            have h1 := HSS.out (i + 1)
            rw [List.take_succ_eq_append_getElem hlt2, List.map_append, List.sum_append, show cs[i] = cs.getD i [] from by simp [List.getD, hlt2]] at h1
            simp only [List.map_cons, List.map_nil, List.sum_cons, List.sum_nil] at h1
            omega
          generalize cs.getD i [] = C at *
          have k0 : (0 : Int) ≤ i := by omega
          have k1 : (i : Int) < n := by omega
          obtain ⟨W2, rfl⟩ : ∃ W2, W2 = wr := ⟨_, rfl⟩
          go_wp2_with fail
          go_loopw [6] (fun jv wr => ∃ (j : Nat), j ≤ C.length ∧ jv = .int .i64 j ∧ Frm (fun _ => False) W2 wr) (fun jv _ => C.length - (intOf jv).toNat)
          case atStart => exact ⟨0, by omega, rfl, Frm.refl _ _⟩
          case round =>
            obtain ⟨j, hj, rfl, hfj⟩ := hrel
            have b0 := hfj.cell b0 id
            have b1 := hfj.cell b1 id
            have hc := hfj.cell hc id
            by_cases hjl : j < C.length
            · obtain ⟨b', o', u', rfl, _, hu', hcell⟩ := (hsB.frm hfj (fun _ _ => id)).at_ hjl
              obtain rfl := at_getD hu'
              have hy := hXi (C.getD j 0) (by simp [List.getD, hjl])
              clear hu'
              generalize C.getD j 0 = y at *
              have HIS := Lib.hid (fun (W : World) => islit_any y vars W hy (by omega))
              clear hy
              have jj0 : (0 : Int) ≤ j := by omega
              have jj1 : (j : Int) < C.length := by omega
              have hH0 : wr.drew.cell? ⟨w.heap.size, 0, none⟩ = some (.int .i64 vars) ∧ wr.drew.cell? ⟨w.heap.size, 1, none⟩ = some (.slice (some ⟨b, o, none⟩) n c) ∧ wr.drew.cell? ⟨b, o + i, none⟩ = some (.slice (some ⟨b', o', none⟩) C.length d) ∧ wr.drew.cell? ⟨b', o' + j, none⟩ = some (.int .i64 y) := ⟨b0, b1, hc, hcell⟩
              go_wp2_with fail
              have hHeld := hH0
              refine Held.begin (fun w' => w'.cell? ⟨w.heap.size, 0, none⟩ = some (.int .i64 vars) ∧ w'.cell? ⟨w.heap.size, 1, none⟩ = some (.slice (some ⟨b, o, none⟩) n c) ∧ w'.cell? ⟨b, o + i, none⟩ = some (.slice (some ⟨b', o', none⟩) C.length d) ∧ w'.cell? ⟨b', o' + j, none⟩ = some (.int .i64 y)) 12 (by kernel_rfl) ?_
              refine Held.take (i := 0) (oi := ?oa0) (v := ?va0) ?hia0 (by kernel_rfl) (by kernel_rfl) (by kernel_rfl) (by kernel_rfl) (fun _ _ _ h => h) (Or.inl ⟨?hwa0, ?hya0⟩) (by assumption) ?resta0
              case hia0 => (simp only [List.getElem?_toArray, List.getElem?_cons_zero]; rfl)
              case hwa0 => rfl
              case hya0 => (intro w hSw; (try dsimp only at hSw); go_simp; try with_reducible rfl)
              (try simp only [Act.put, List.setIfInBounds_toArray, List.set_cons_zero, List.set_cons_succ])
              refine Held.take (i := 1) (oi := ?oa1) (v := ?va1) ?hia1 (by kernel_rfl) (by kernel_rfl) (by kernel_rfl) (by kernel_rfl) (fun _ _ _ h => h) (Or.inl ⟨?hwa1, ?hya1⟩) (by assumption) ?resta1
              case hia1 => (simp only [List.getElem?_toArray, List.getElem?_cons_succ, List.getElem?_cons_zero]; rfl)
              case hwa1 => rfl
              case hya1 => (intro w hSw; (try dsimp only at hSw); go_simp; try with_reducible rfl)
              (try simp only [Act.put, List.setIfInBounds_toArray, List.set_cons_zero, List.set_cons_succ])
              refine Held.take (i := 2) (oi := ?oa2) (v := ?va2) ?hia2 (by kernel_rfl) (by kernel_rfl) (by kernel_rfl) (by kernel_rfl) (fun _ _ _ h => h) (Or.inl ⟨?hwa2, ?hya2⟩) (by assumption) ?resta2
              case hia2 => (simp only [List.getElem?_toArray, List.getElem?_cons_succ, List.getElem?_cons_zero]; rfl)
              case hwa2 => rfl
              case hya2 => (intro w hSw; (try dsimp only at hSw); go_simp; try with_reducible rfl)
              (try simp only [Act.put, List.setIfInBounds_toArray, List.set_cons_zero, List.set_cons_succ])
              refine Held.take (i := 3) (oi := ?oa3) (v := ?va3) ?hia3 (by kernel_rfl) (by kernel_rfl) (by kernel_rfl) (by kernel_rfl) (fun _ _ _ h => h) (Or.inl ⟨?hwa3, ?hya3⟩) (by assumption) ?resta3
              case hia3 => (simp only [List.getElem?_toArray, List.getElem?_cons_succ, List.getElem?_cons_zero]; rfl)
              case hwa3 => rfl
              case hya3 => (intro w hSw; (try dsimp only at hSw); go_simp; try with_reducible rfl)
              (try simp only [Act.put, List.setIfInBounds_toArray, List.set_cons_zero, List.set_cons_succ])
              refine Held.take (i := 4) (oi := ?oa4) (v := ?va4) ?hia4 (by kernel_rfl) (by kernel_rfl) (by kernel_rfl) (by kernel_rfl) (fun _ _ _ h => h) (Or.inl ⟨?hwa4, ?hya4⟩) (by assumption) ?resta4
              case hia4 => (simp only [List.getElem?_toArray, List.getElem?_cons_succ, List.getElem?_cons_zero]; rfl)
              case hwa4 => rfl
              case hya4 => (intro w hSw; (try dsimp only at hSw); go_simp; try with_reducible rfl)
              (try simp only [Act.put, List.setIfInBounds_toArray, List.set_cons_zero, List.set_cons_succ])
              refine Held.take (i := 5) (oi := ?oa5) (v := ?va5) ?hia5 (by kernel_rfl) (by kernel_rfl) (by kernel_rfl) (by kernel_rfl) (fun _ _ _ h => h) (Or.inl ⟨?hwa5, ?hya5⟩) (by assumption) ?resta5
              case hia5 => (simp only [List.getElem?_toArray, List.getElem?_cons_succ, List.getElem?_cons_zero]; rfl)
              case hwa5 => rfl
              case hya5 => (intro w hSw; (try dsimp only at hSw); go_simp; try with_reducible rfl)
              (try simp only [Act.put, List.setIfInBounds_toArray, List.set_cons_zero, List.set_cons_succ])
              refine Held.take (i := 6) (oi := ?oa6) (v := ?va6) ?hia6 (by kernel_rfl) (by kernel_rfl) (by kernel_rfl) (by kernel_rfl) (fun _ _ _ h => h) (Or.inl ⟨?hwa6, ?hya6⟩) (by assumption) ?resta6
              case hia6 => (simp only [List.getElem?_toArray, List.getElem?_cons_succ, List.getElem?_cons_zero]; rfl)
              case hwa6 => rfl
              case hya6 => (intro w hSw; (try dsimp only at hSw); go_simp; try with_reducible rfl)
              (try simp only [Act.put, List.setIfInBounds_toArray, List.set_cons_zero, List.set_cons_succ])
              refine Held.take (i := 7) (oi := ?oa7) (v := ?va7) ?hia7 (by kernel_rfl) (by kernel_rfl) (by kernel_rfl) (by kernel_rfl) (fun _ _ _ h => h) (Or.inl ⟨?hwa7, ?hya7⟩) (by assumption) ?resta7
              case hia7 => (simp only [List.getElem?_toArray, List.getElem?_cons_succ, List.getElem?_cons_zero]; rfl)
              case hwa7 => rfl
              case hya7 => (intro w hSw; (try dsimp only at hSw); go_simp; try with_reducible rfl)
              (try simp only [Act.put, List.setIfInBounds_toArray, List.set_cons_zero, List.set_cons_succ])
              refine Held.take (i := 8) (oi := ?oa8) (v := ?va8) ?hia8 (by kernel_rfl) (by kernel_rfl) (by kernel_rfl) (by kernel_rfl) (fun _ _ _ h => h) (Or.inl ⟨?hwa8, ?hya8⟩) (by assumption) ?resta8
              case hia8 => (simp only [List.getElem?_toArray, List.getElem?_cons_succ, List.getElem?_cons_zero]; rfl)
              case hwa8 => rfl
              case hya8 => (intro w hSw; (try dsimp only at hSw); go_simp; try with_reducible rfl)
              (try simp only [Act.put, List.setIfInBounds_toArray, List.set_cons_zero, List.set_cons_succ])
              refine Held.take (i := 9) (oi := ?oa9) (v := ?va9) ?hia9 (by kernel_rfl) (by kernel_rfl) (by kernel_rfl) (by kernel_rfl) (fun _ _ _ h => h) (Or.inl ⟨?hwa9, ?hya9⟩) (by assumption) ?resta9
              case hia9 => (simp only [List.getElem?_toArray, List.getElem?_cons_succ, List.getElem?_cons_zero]; rfl)
              case hwa9 => rfl
              case hya9 => (intro w hSw; (try dsimp only at hSw); go_simp; try with_reducible rfl)
              (try simp only [Act.put, List.setIfInBounds_toArray, List.set_cons_zero, List.set_cons_succ])
              refine Held.next (i := 10) (o := ?oa10) (by kernel_rfl) ?hia10 (fun K hK => ?sta10)
              case hia10 => (simp only [List.getElem?_toArray, List.getElem?_cons_succ, List.getElem?_cons_zero]; rfl)
              go_simp
              (go_at_call 115; refine (HIS.out _).mono ?_; rintro e w' ⟨rfl, rfl⟩)
              (try go_wp2_with fail)
              refine hK.out _ _ (fun _ => by assumption) ?_
              clear hK K
              (try simp only [Act.put, List.setIfInBounds_toArray, List.set_cons_zero, List.set_cons_succ])
              refine Held.take (i := 11) (oi := ?oa11) (v := ?va11) ?hia11 (by kernel_rfl) (by kernel_rfl) (by kernel_rfl) (by kernel_rfl) (fun _ _ _ h => h) (Or.inl ⟨?hwa11, ?hya11⟩) (by assumption) ?resta11
              case hia11 => (simp only [List.getElem?_toArray, List.getElem?_cons_succ, List.getElem?_cons_zero]; rfl)
              case hwa11 => rfl
              case hya11 => (intro w hSw; (try dsimp only at hSw); go_simp; try with_reducible rfl)
              (try simp only [Act.put, List.setIfInBounds_toArray, List.set_cons_zero, List.set_cons_succ])
              refine Held.done (by kernel_rfl) ?_ _
              refine NoPanic.normal ?_
              go_wp2_with fail
              go_roundw
              case rel => exact ⟨j + 1, by omega, by go_num, hfj.drewN 1⟩
              case measure => simp [intOf]; omega
            · have hjm : j = C.length := by omega
              subst hjm
              have hjn : ¬ (C.length : Int) < C.length := by omega
              have hfij := hfi.trans hfj
              go_wp2_with fail
              go_roundw
              case rel => exact ⟨i + 1, by omega, by go_num, hfij⟩
              case measure => simp [intOf]; omega
        · have hin : i = n := by omega
          subst hin
          have hjn : ¬ (i : Int) < i := by omega
          have hO1 := hO.frm hfki id
          have o0 := hO1.at_ 0 rfl
          have o1 := hO1.at_ 1 rfl
          have o2 := hO1.at_ 2 rfl
          have y0 := hO1.frozen 0
          have y1 := hO1.frozen 1
          have y2 := hO1.frozen 2
          have hf0 := hfa2.trans hfki
          go_wp2_with fail
          refine (none_any _).mono ?_
          rintro e w9 ⟨rfl, hf9⟩
          have hO9 := hO1.frm hf9 id
          have o0 := hO9.at_ 0 rfl
          have o1 := hO9.at_ 1 rfl
          have o2 := hO9.at_ 2 rfl
          have y0 := hO9.frozen 0
          have y1 := hO9.frozen 1
          have y2 := hO9.frozen 2
          have hf09 := hf0.trans hf9
          go_wp2_with fail
          have hf3 := (((Frm.refl (fun g => g = w.heap.size + 1) w9).setCell (p := ⟨w.heap.size + 1, 0, none⟩) (fun _ => rfl) (.int .i64 0)).setCell (p := ⟨w.heap.size + 1, 1, none⟩) (fun _ => rfl) (.bool false)).setCell (p := ⟨w.heap.size + 1, 2, none⟩) (fun _ => rfl) (.int .i64 0)
          have hb3 := ((hO9.set_ 0 (.int .i64 0)).set_ 1 (.bool false)).set_ 2 (.int .i64 0)
          have d0 := hb3.at_ 0 rfl
          have d1 := hb3.at_ 1 rfl
          have d2 := hb3.at_ 2 rfl
          have hfin := hf09.then' hf3 (fun g hg e => by omega)
          exact bodyPost_ret (v := .agg #[.int .i64 0, .bool false, .int .i64 0]) (by simp [results, Tryd.results51, go_sem, d0, d1, d2]) rfl ⟨rfl, hfin⟩

end Go.Proofs.YtkjlgamggkencaaDoor
