/-
  The contracts of skolemref23's Check, inner, one, inputs, Wanted, Choose.
-/
import Derived.Test.YtkjlgamggkencaaDoorMListC
import Derived.Test.YtkjlgamggkencaaDoorMRow
import Derived.Test.YtkjlgamggkencaaDoorMRCheck
import Derived.Test.YtkjlgamggkencaaDoorMEvalC
import Derived.Test.YtkjlgamggkencaaDoorMRegion
namespace Go.Proofs.YtkjlgamggkencaaDoor
open Go.RowKit
set_option linter.unusedVariables false

theorem rone_any (b : Bool) (w : World) : Calls Tryd.prog 137 #[.bool b] w fun e w' => e = .returned (.int .i64 (bitI b)) ∧ w = w' := by
  cases b
  · go_enter Tryd.func137, Tryd.ntmps137
    go_wp2_with fail
    go_ret
    exact ⟨rfl, rfl⟩
  · go_enter Tryd.func137, Tryd.ntmps137
    go_wp2_with fail
    go_ret
    exact ⟨rfl, rfl⟩

theorem rinner_any (ex : Bool) (ou inn n : Nat) (hn : n = ou + inn) (hb : n ≤ 1000) (A : Option Addr) (m c : Nat) (B : Option Addr) (d : Nat) (w : World) :
    Calls Tryd.prog 136 #[mtv ex ou n A m c B d] w fun e w' => e = .returned (.int .i64 inn) ∧ Frm (fun _ => False) w w' := by
  have hf0 := (Frm.refl (fun _ => False) w).alloc (.cells #[.bool ex, .int .i64 ou, .int .i64 n, .slice A m c, .slice B 1 d] 104)
  have hb0 : Blk (w.alloc (.cells #[.bool ex, .int .i64 ou, .int .i64 n, .slice A m c, .slice B 1 d] 104)) w.heap.size 104 [.bool ex, .int .i64 ou, .int .i64 n, .slice A m c, .slice B 1 d] := Blk.new _ _ _
  have b1 := hb0.at_ 1 rfl
  have b2 := hb0.at_ 2 rfl
  have wi : IntKind.i64.wrap ((n : Int) - ou) = inn := by rw [IntWalk.i64_in _ (by omega)]; omega
  clear hn
  go_enter Tryd.func136, Tryd.ntmps136
  go_wp2_with fail
  go_ret
  exact ⟨rfl, hf0⟩

set_option maxRecDepth 100000 in
set_option maxHeartbeats 1000000 in
theorem mrcheck_ok {M : Mt} (hM : M.Ok) (n : Nat) (hn : n = M.ou + M.inn) (A : Option Addr) (c : Nat) (B : Option Addr) (d : Nat) (F : Nat → Prop) (w : World) (h4 : n + M.L.length ≤ 8000)
    (hA : Sl w F 2 (.slice A M.L.length c) M.L.length (pairs M.L)) (hB : Sl w F 1 (.slice B 1 d) 1 ([M.o].map (.int .i64))) :
    Calls Tryd.prog 135 #[mtv M.ex M.ou n A M.L.length c B d] w fun e w' => e = .returned (.int .i64 0) ∧ Frm (fun _ => False) w w' := by
  have hf0 := (Frm.refl (fun _ => False) w).alloc (.cells #[.bool M.ex, .int .i64 M.ou, .int .i64 n, .slice A M.L.length c, .slice B 1 d] 104)
  have hb0 : Blk (w.alloc (.cells #[.bool M.ex, .int .i64 M.ou, .int .i64 n, .slice A M.L.length c, .slice B 1 d] 104)) w.heap.size 104 [.bool M.ex, .int .i64 M.ou, .int .i64 n, .slice A M.L.length c, .slice B 1 d] := Blk.new _ _ _
  have HCK := Lib.hid (rcheck_any n A M.L.length c B 1 d M.L [M.o] F F _ rfl rfl (by omega) (by omega) (hA.frm hf0 (fun _ _ => id)) (hB.frm hf0 (fun _ _ => id)))
  rw [mt_code hM hn h4] at HCK
  have b1 := hb0.at_ 1 rfl
  have b2 := hb0.at_ 2 rfl
  have b3 := hb0.at_ 3 rfl
  have b4 := hb0.at_ 4 rfl
  have hle : M.ou ≤ n := by omega
  clear hM hA hB h4 hn
  generalize M.ex = ex at *
  generalize M.ou = ou at *
  generalize M.L.length = m at *
  have c0 : decide ((ou : Int) < 0) = false := by simp
  have c1 : decide ((n : Int) < (ou : Int)) = false := by simp; omega
  go_enter Tryd.func135, Tryd.ntmps135
  go_wp2_with fail
  refine HCK.out.mono ?_
  rintro e w1 ⟨rfl, hf1⟩
  have hb1 := hb0.frm hf1 id
  have b1' := hb1.at_ 1 rfl
  have b2' := hb1.at_ 2 rfl
  have b4' := hb1.at_ 4 rfl
  clear b1 b2 b3 b4
  go_wp2_with fail
  go_ret
  exact ⟨rfl, hf0.trans hf1⟩

/-- the first j of D, the others as they were made -/
def halfB (D : List Bool) (j : Nat) : List Value := (D.map .bool).take j ++ List.replicate (D.length - j) (.bool false)
theorem halfB_zero (D : List Bool) : halfB D 0 = List.replicate D.length (.bool false) := by simp [halfB]
theorem halfB_all (D : List Bool) : halfB D D.length = D.map .bool := by
  unfold halfB
  rw [List.take_of_length_le (by simp), Nat.sub_self]; simp
theorem halfB_at {D : List Bool} {j : Nat} (hj : j < D.length) : (halfB D j)[j]? = some (.bool false) := by
  unfold halfB
  rw [List.getElem?_append_right (by simp; omega)]
  simp [List.length_take, Nat.min_eq_left (Nat.le_of_lt hj), List.getElem?_replicate]
  omega
theorem halfB_set {D : List Bool} {j : Nat} (hj : j < D.length) : (halfB D j).set j (.bool (D.getD j false)) = halfB D (j + 1) := by
  unfold halfB
  have h1 : ((D.map Value.bool).take j).length = j := by simp; omega
  rw [List.set_append_right _ _ (by omega), h1, Nat.sub_self, show D.length - j = (D.length - (j + 1)) + 1 from by omega, List.replicate_succ, List.set_cons_zero, List.take_succ_eq_append_getElem (by simpa using hj)]
  simp [List.getD, hj]

set_option maxRecDepth 100000 in
set_option maxHeartbeats 1000000 in
theorem rinputs_any (ex : Bool) (ou n : Nat) (A : Option Addr) (m c : Nat) (B : Option Addr) (d : Nat) (Fa Fb : Nat → Prop) (Aa : Option Addr) (la ca : Nat) (ua : List Bool) (Ab : Option Addr) (lb cb : Nat) (ub : List Bool) (w : World) (h4 : n ≤ 1000)
    (hla : ua.length = la) (hlb : ub.length = lb) (h1 : la = ou) (h2 : n = ou + lb)
    (ha : Sl w Fa 1 (.slice Aa la ca) la (ua.map .bool)) (hb : Sl w Fb 1 (.slice Ab lb cb) lb (ub.map .bool)) :
    Calls Tryd.prog 139 #[mtv ex ou n A m c B d, .slice Aa la ca, .slice Ab lb cb] w fun e w' => ∃ gt, e = .returned (.slice (some ⟨gt, 0, none⟩) n n) ∧ Blk w' gt 4 ((ua ++ ub).map .bool) ∧ Frm (fun _ => False) w w' := by
  obtain ⟨i0, hi0, hz0, hz1, hz2⟩ := info_parts infoBoolG
  have hf0 := (Frm.refl (fun _ => False) w).alloc (.cells #[.bool ex, .int .i64 ou, .int .i64 n, .slice A m c, .slice B 1 d] 104)
  have hb0 : Blk (w.alloc (.cells #[.bool ex, .int .i64 ou, .int .i64 n, .slice A m c, .slice B 1 d] 104)) w.heap.size 104 [.bool ex, .int .i64 ou, .int .i64 n, .slice A m c, .slice B 1 d] := Blk.new _ _ _
  have hsz : (w.alloc (.cells #[.bool ex, .int .i64 ou, .int .i64 n, .slice A m c, .slice B 1 d] 104)).heap.size = w.heap.size + 1 := by simp
  have hle : ou ≤ n := by omega
  obtain ⟨D, hD⟩ : ∃ D, D = ua ++ ub := ⟨_, rfl⟩
  have hDl : D.length = n := by rw [hD, List.length_append]; omega
  have hDa : ∀ j, j < ou → D.getD j false = ua.getD j false := fun j hj => by rw [hD, List.getD, List.getElem?_append_left (by omega)]; rfl
  have hDb : ∀ q, D.getD (ou + q) false = ub.getD q false := fun q => by rw [hD, List.getD, List.getElem?_append_right (by omega), show ou + q - ua.length = q from by omega]; rfl
  have hz := halfB_zero D
  rw [hDl] at hz
  have hall := halfB_all D
  rw [hDl] at hall
  have HAT := Lib.hid (fun j (hj : j < n) => halfB_at (D := D) (j := j) (by omega))
  have HSET := Lib.hid (fun j (hj : j < n) => halfB_set (D := D) (j := j) (by omega))
  have HALL := Lib.hid hall
  have HZ := Lib.hid hz
  have HDA := Lib.hid hDa
  have HDB := Lib.hid hDb
  rw [← hD]
  have b2 := hb0.at_ 2 rfl
  subst h1
  have hlb2 : n ≤ la + lb ∧ la + lb ≤ n := by omega
  clear hD hDl hDa hDb hz hall hla hlb h2 hsz
  go_enter Tryd.func139, Tryd.ntmps139
  go_wp2_with (refine wpList_make_z _ rfl _ _ 54 rfl 4 i0 (.bool false) Tryd.underlying54 hi0 hz0 hz1 rfl .i64 .i64 n n ?ca ?cb (by omega) (by rw [hz2]; omega) (by omega) ?_)
  case ca => go_simp
  case cb => go_simp
  intro w2 hb2 hf2
  rw [← HZ.out] at hb2
  have hm2 := hb0.frm hf2 id
  have hf02 := hf0.trans hf2
  have hgt : w.heap.size + 1 < w2.heap.size := by have := hb2.lt; simpa using this
  clear hf2 hb0 hf0 b2
  go_wp2_with fail
  go_loopw [8] (fun iv wr => ∃ (j : Nat), j ≤ n ∧ iv = .int .i64 (j : Int) ∧ Blk wr (w.heap.size + 1) 4 (halfB D j) ∧ Frm (fun k => k = w.heap.size + 1) w2 wr) (fun iv _ => n - (intOf iv).toNat)
  case atStart => exact ⟨0, by omega, rfl, by simpa using hb2, Frm.refl _ _⟩
  case round =>
    clear hb2
    obtain ⟨j, hj, rfl, hbj, hfk⟩ := hrel
    have hmj := hm2.frm hfk (by omega)
    have hfj := hf02.then' hfk (fun k hk e => by omega)
    by_cases hlt : j < n
    · have hset := hbj.set_ j (.bool (D.getD j false))
      rw [HSET.out j hlt] at hset
      have hcw := hbj.at_ j (HAT.out j hlt)
      have hcf := hbj.frozen j
      have hfk2 : Frm (fun k => k = w.heap.size + 1) w2 (wr.setCell ⟨w.heap.size + 1, j, none⟩ (.bool (D.getD j false))) := hfk.setCell (p := ⟨w.heap.size + 1, j, none⟩) (fun _ => rfl) _
      have b1 := hmj.at_ 1 rfl
      have j0 : (0 : Int) ≤ j := by omega
      have j1 : (j : Int) < n := by omega
      clear hbj
      by_cases hjo : j < la
      · obtain ⟨b, o, u, rfl, _, hu, hc⟩ := (ha.frm hfj (fun _ _ => id)).at_ hjo
        obtain rfl := at_bool hu
        have jo : (j : Int) < la := by omega
        rw [HDA.out j hjo] at hset hfk2
        clear hu
        generalize ua.getD j false = z at *
        cases z
        · go_wp2_with fail
          go_roundw
          case rel => exact ⟨j + 1, by omega, by go_num, hset, hfk2⟩
          case measure => simp [intOf]; omega
        · go_wp2_with fail
          go_roundw
          case rel => exact ⟨j + 1, by omega, by go_num, hset, hfk2⟩
          case measure => simp [intOf]; omega
      · obtain ⟨q, rfl⟩ : ∃ q, j = la + q := ⟨j - la, by omega⟩
        obtain ⟨b, o, u, rfl, _, hu, hc⟩ := (hb.frm hfj (fun _ _ => id)).at_ (k := q) (by omega)
        obtain rfl := at_bool hu
        have jo : ¬ (la : Int) + q < la := by omega
        have q0 : (0 : Int) ≤ q := by omega
        have q1 : (q : Int) < lb := by omega
        have wq : IntKind.i64.wrap ((la : Int) + q - la) = (q : Int) := by rw [IntWalk.i64_in _ (by omega)]; omega
        have wq2 : IntKind.i64.wrap (((la + q : Nat) : Int) - la) = (q : Int) := by rw [IntWalk.i64_in _ (by omega)]; omega
        rw [HDB.out q] at hset hfk2
        clear hu
        generalize ub.getD q false = z at *
        cases z
        · go_wp2_with fail
          go_roundw
          case rel => exact ⟨la + q + 1, by omega, by go_num, hset, hfk2⟩
          case measure => simp [intOf]; omega
        · go_wp2_with fail
          go_roundw
          case rel => exact ⟨la + q + 1, by omega, by go_num, hset, hfk2⟩
          case measure => simp [intOf]; omega
    · obtain rfl : j = n := by omega
      rw [HALL.out] at hbj
      go_wp2_with fail
      go_ret
      exact ⟨_, rfl, hbj, hfj⟩

set_option maxRecDepth 100000 in
set_option maxHeartbeats 2000000 in
theorem rwanted_any {M : Mt} (hM : M.Ok) (n : Nat) (hn : n = M.ou + M.inn) (A : Option Addr) (c : Nat) (B : Option Addr) (d : Nat) (F Fa Fb : Nat → Prop) (Aa : Option Addr) (la ca : Nat) (ua : List Bool) (Ab : Option Addr) (lb cb : Nat) (ub : List Bool) (w : World) (h4 : n ≤ 1000) (h5 : M.L.length ≤ 1000)
    (hA : Sl w F 2 (.slice A M.L.length c) M.L.length (pairs M.L)) (hB : Sl w F 1 (.slice B 1 d) 1 ([M.o].map (.int .i64))) (hla : ua.length = la) (hlb : ub.length = lb) (h1 : la = M.ou) (h2 : lb = M.inn)
    (ha : Sl w Fa 1 (.slice Aa la ca) la (ua.map .bool)) (hb : Sl w Fb 1 (.slice Ab lb cb) lb (ub.map .bool)) :
    Calls Tryd.prog 98 #[mtv M.ex M.ou n A M.L.length c B d, .slice Aa la ca, .slice Ab lb cb] w fun e w' => e = .returned (.bool (M.wanted ua ub)) ∧ Frm (fun _ => False) w w' := by
  have hf0 := (Frm.refl (fun _ => False) w).alloc (.cells #[.bool M.ex, .int .i64 M.ou, .int .i64 n, .slice A M.L.length c, .slice B 1 d] 104)
  have hb0 : Blk (w.alloc (.cells #[.bool M.ex, .int .i64 M.ou, .int .i64 n, .slice A M.L.length c, .slice B 1 d] 104)) w.heap.size 104 [.bool M.ex, .int .i64 M.ou, .int .i64 n, .slice A M.L.length c, .slice B 1 d] := Blk.new _ _ _
  have HIN := Lib.hid (fun (W : World) (hf : Frm (fun _ => False) w W) => rinputs_any M.ex M.ou n A M.L.length c B d Fa Fb Aa la ca ua Ab lb cb ub W h4 hla hlb h1 (by omega) (ha.frm hf (fun _ _ => id)) (hb.frm hf (fun _ _ => id)))
  have HRE := Lib.hid (fun (W : World) (hf : Frm (fun _ => False) w W) (Ai : Option Addr) (G : Nat → Prop) (hi : Sl W G 1 (.slice Ai n n) n ((ua ++ ub).map .bool)) => reval_any n M.L A M.L.length c B 1 d [M.o] Ai n n (ua ++ ub) F F G W rfl rfl (by rw [List.length_append]; omega) (by rw [hn]; exact hM.right) (by omega) (by omega) (by omega) (by intro x hx; simp at hx; subst hx; rw [hn]; exact hM.out) (hA.frm hf (fun _ _ => id)) (hB.frm hf (fun _ _ => id)) hi)
  have hev : evalOuts (nodes n M.L (ua ++ ub)) [M.o] = [worth (nodes n M.L (ua ++ ub)) M.o] := rfl
  rw [hev] at HRE
  have hwd : M.wanted ua ub = (worth (nodes n M.L (ua ++ ub)) M.o == M.ex) := by unfold Mt.wanted; rw [← hn]
  rw [hwd]
  have hlap : ((ua ++ ub).map Value.bool).length = n * 1 := by simp; omega
  have HLP := Lib.hid hlap
  simp only [cv] at HRE
  clear hev hwd hM hA hB hla hlb ha hb hn h1 h2 hlap
  generalize worth (nodes n M.L (ua ++ ub)) M.o = z at *
  generalize M.ex = ex at *
  generalize M.ou = ou at *
  generalize M.L.length = m at *
  have hH0 : (w.alloc (.cells #[.bool ex, .int .i64 ou, .int .i64 n, .slice A m c, .slice B 1 d] 104)).drew.cell? ⟨w.heap.size, 0, none⟩ = some (.bool ex) ∧ (w.alloc (.cells #[.bool ex, .int .i64 ou, .int .i64 n, .slice A m c, .slice B 1 d] 104)).drew.cell? ⟨w.heap.size, 1, none⟩ = some (.int .i64 (ou : Int)) ∧ (w.alloc (.cells #[.bool ex, .int .i64 ou, .int .i64 n, .slice A m c, .slice B 1 d] 104)).drew.cell? ⟨w.heap.size, 2, none⟩ = some (.int .i64 (n : Int)) ∧ (w.alloc (.cells #[.bool ex, .int .i64 ou, .int .i64 n, .slice A m c, .slice B 1 d] 104)).drew.cell? ⟨w.heap.size, 3, none⟩ = some (.slice A m c) ∧ (w.alloc (.cells #[.bool ex, .int .i64 ou, .int .i64 n, .slice A m c, .slice B 1 d] 104)).drew.cell? ⟨w.heap.size, 4, none⟩ = some (.slice B 1 d) := ⟨hb0.at_ 0 rfl, hb0.at_ 1 rfl, hb0.at_ 2 rfl, hb0.at_ 3 rfl, hb0.at_ 4 rfl⟩
  have HH := Lib.hid (fun (W W' : World) (hf : Frm (fun _ => False) W W') (h : W.cell? ⟨w.heap.size, 0, none⟩ = some (.bool ex) ∧ W.cell? ⟨w.heap.size, 1, none⟩ = some (.int .i64 (ou : Int)) ∧ W.cell? ⟨w.heap.size, 2, none⟩ = some (.int .i64 (n : Int)) ∧ W.cell? ⟨w.heap.size, 3, none⟩ = some (.slice A m c) ∧ W.cell? ⟨w.heap.size, 4, none⟩ = some (.slice B 1 d)) => show W'.cell? ⟨w.heap.size, 0, none⟩ = some (.bool ex) ∧ W'.cell? ⟨w.heap.size, 1, none⟩ = some (.int .i64 (ou : Int)) ∧ W'.cell? ⟨w.heap.size, 2, none⟩ = some (.int .i64 (n : Int)) ∧ W'.cell? ⟨w.heap.size, 3, none⟩ = some (.slice A m c) ∧ W'.cell? ⟨w.heap.size, 4, none⟩ = some (.slice B 1 d) from ⟨hf.cell h.1 id, hf.cell h.2.1 id, hf.cell h.2.2.1 id, hf.cell h.2.2.2.1 id, hf.cell h.2.2.2.2 id⟩)
  have hfd := hf0.drewN 1
  go_enter Tryd.func98, Tryd.ntmps98
  go_wp2_with fail
  have hHeld := hH0
  refine Held.begin (fun w' => w'.cell? ⟨w.heap.size, 0, none⟩ = some (.bool ex) ∧ w'.cell? ⟨w.heap.size, 1, none⟩ = some (.int .i64 (ou : Int)) ∧ w'.cell? ⟨w.heap.size, 2, none⟩ = some (.int .i64 (n : Int)) ∧ w'.cell? ⟨w.heap.size, 3, none⟩ = some (.slice A m c) ∧ w'.cell? ⟨w.heap.size, 4, none⟩ = some (.slice B 1 d)) 12 (by kernel_rfl) ?_
  refine Held.take (i := 0) (oi := ?oa0) (v := ?va0) ?hia0 (by kernel_rfl) (by kernel_rfl) (by kernel_rfl) (by kernel_rfl) (fun _ _ _ h => h) (Or.inl ⟨?hwa0, ?hya0⟩) (by assumption) ?resta0
  case hia0 => (simp only [List.getElem?_toArray, List.getElem?_cons_zero]; rfl)
  case hwa0 => rfl
  case hya0 => (intro w hSw; (try dsimp only at hSw); go_simp; try with_reducible rfl)
  (try simp only [Act.put, List.setIfInBounds_toArray, List.set_cons_zero, List.set_cons_succ])
  refine Held.take (i := 1) (oi := ?oa1) (v := ?va1) ?hia1 (by kernel_rfl) (by kernel_rfl) (by kernel_rfl) (by kernel_rfl) (fun _ _ _ h => h) (Or.inl ⟨?hwa1, ?hya1⟩) (by assumption) ?resta1
  case hia1 => (simp only [List.getElem?_toArray, List.getElem?_cons_succ, List.getElem?_cons_zero]; rfl)
  case hwa1 => rfl
  case hya1 => (intro w hSw; (try dsimp only at hSw); go_simp; try with_reducible rfl)
  (try simp only [Act.put, List.setIfInBounds_toArray, List.set_cons_zero, List.set_cons_succ])
  refine Held.take (i := 2) (oi := ?oa2) (v := ?va2) ?hia2 (by kernel_rfl) (by kernel_rfl) (by kernel_rfl) (by kernel_rfl) (fun _ _ _ h => h) (Or.inl ⟨?hwa2, ?hya2⟩) (by assumption) ?resta2
  case hia2 => (simp only [List.getElem?_toArray, List.getElem?_cons_succ, List.getElem?_cons_zero]; rfl)
  case hwa2 => rfl
  case hya2 => (intro w hSw; (try dsimp only at hSw); go_simp; try with_reducible rfl)
  (try simp only [Act.put, List.setIfInBounds_toArray, List.set_cons_zero, List.set_cons_succ])
  refine Held.take (i := 3) (oi := ?oa3) (v := ?va3) ?hia3 (by kernel_rfl) (by kernel_rfl) (by kernel_rfl) (by kernel_rfl) (fun _ _ _ h => h) (Or.inl ⟨?hwa3, ?hya3⟩) (by assumption) ?resta3
  case hia3 => (simp only [List.getElem?_toArray, List.getElem?_cons_succ, List.getElem?_cons_zero]; rfl)
  case hwa3 => rfl
  case hya3 => (intro w hSw; (try dsimp only at hSw); go_simp; try with_reducible rfl)
  (try simp only [Act.put, List.setIfInBounds_toArray, List.set_cons_zero, List.set_cons_succ])
  refine Held.take (i := 4) (oi := ?oa4) (v := ?va4) ?hia4 (by kernel_rfl) (by kernel_rfl) (by kernel_rfl) (by kernel_rfl) (fun _ _ _ h => h) (Or.inl ⟨?hwa4, ?hya4⟩) (by assumption) ?resta4
  case hia4 => (simp only [List.getElem?_toArray, List.getElem?_cons_succ, List.getElem?_cons_zero]; rfl)
  case hwa4 => rfl
  case hya4 => (intro w hSw; (try dsimp only at hSw); go_simp; try with_reducible rfl)
  (try simp only [Act.put, List.setIfInBounds_toArray, List.set_cons_zero, List.set_cons_succ])
  refine Held.take (i := 9) (oi := ?oa9) (v := ?va9) ?hia9 (by kernel_rfl) (by kernel_rfl) (by kernel_rfl) (by kernel_rfl) (fun _ _ _ h => h) (Or.inl ⟨?hwa9, ?hya9⟩) (by assumption) ?resta9
  case hia9 => (simp only [List.getElem?_toArray, List.getElem?_cons_succ, List.getElem?_cons_zero]; rfl)
  case hwa9 => rfl
  case hya9 => (intro w hSw; (try dsimp only at hSw); go_simp; try with_reducible rfl)
  (try simp only [Act.put, List.setIfInBounds_toArray, List.set_cons_zero, List.set_cons_succ])
  refine Held.take (i := 10) (oi := ?oa10) (v := ?va10) ?hia10 (by kernel_rfl) (by kernel_rfl) (by kernel_rfl) (by kernel_rfl) (fun _ _ _ h => h) (Or.inl ⟨?hwa10, ?hya10⟩) (by assumption) ?resta10
  case hia10 => (simp only [List.getElem?_toArray, List.getElem?_cons_succ, List.getElem?_cons_zero]; rfl)
  case hwa10 => rfl
  case hya10 => (intro w hSw; (try dsimp only at hSw); go_simp; try with_reducible rfl)
  (try simp only [Act.put, List.setIfInBounds_toArray, List.set_cons_zero, List.set_cons_succ])
  refine Held.next (i := 5) (o := ?oa5) (by kernel_rfl) ?hia5 (fun K hK => ?sta5)
  case hia5 => (simp only [List.getElem?_toArray, List.getElem?_cons_succ, List.getElem?_cons_zero]; rfl)
  go_simp
  (go_at_call 139; refine (HIN.out _ hfd).mono ?_; rintro e w8 ⟨gt, rfl, hbk8, hf8⟩)
  (try go_wp2_with fail)
  refine hK.out _ _ (fun _ => by exact HH.out _ _ hf8 hHeld) ?_
  clear hK K
  (try simp only [Act.put, List.setIfInBounds_toArray, List.set_cons_zero, List.set_cons_succ])
  have hH2 := HH.out _ _ hf8 hHeld
  have hf08 := hfd.trans hf8
  refine Held.next (i := 6) (o := ?oa6) (by kernel_rfl) ?hia6 (fun K hK => ?sta6)
  case hia6 => (simp only [List.getElem?_toArray, List.getElem?_cons_succ, List.getElem?_cons_zero]; rfl)
  go_simp
  (go_at_call 47; refine (HRE.out _ hf08 _ _ (hbk8.sl 1 n HLP.out)).mono ?_; rintro e w9 ⟨Ag, cg, rfl, hown9, hf9⟩)
  (try go_wp2_with fail)
  refine hK.out _ _ (fun _ => by exact HH.out _ _ hf9 hH2) ?_
  clear hK K
  (try simp only [Act.put, List.setIfInBounds_toArray, List.set_cons_zero, List.set_cons_succ])
  have hH3 := HH.out _ _ hf9 hH2
  obtain ⟨b, o, u, rfl, _, hu, hcell⟩ := (own_sl hown9).at_ (k := 0) (by simp)
  simp at hu
  subst hu
  rw [Nat.add_zero] at hcell
  have hf09 := hf08.trans hf9
  refine Held.take (i := 7) (oi := ?oa7) (v := ?va7) ?hia7 (by kernel_rfl) (by kernel_rfl) (by kernel_rfl) (by kernel_rfl) (fun _ _ _ h => h) (Or.inl ⟨?hwa7, ?hya7⟩) (by assumption) ?resta7
  case hia7 => (simp only [List.getElem?_toArray, List.getElem?_cons_succ, List.getElem?_cons_zero]; rfl)
  case hwa7 => rfl
  case hya7 => (intro w hSw; (try dsimp only at hSw); go_simp; try with_reducible rfl)
  (try simp only [Act.put, List.setIfInBounds_toArray, List.set_cons_zero, List.set_cons_succ])
  refine Held.next (i := 8) (o := ?oa8) (by kernel_rfl) ?hia8 (fun K hK => ?sta8)
  case hia8 => (simp only [List.getElem?_toArray, List.getElem?_cons_succ, List.getElem?_cons_zero]; rfl)
  go_simp
  refine hK.out _ _ (fun _ => by exact hH3) ?_
  clear hK K
  (try simp only [Act.put, List.setIfInBounds_toArray, List.set_cons_zero, List.set_cons_succ])
  refine Held.take (i := 11) (oi := ?oa11) (v := ?va11) ?hia11 (by kernel_rfl) (by kernel_rfl) (by kernel_rfl) (by kernel_rfl) (fun _ _ _ h => h) (Or.inl ⟨?hwa11, ?hya11⟩) (by assumption) ?resta11
  case hia11 => (simp only [List.getElem?_toArray, List.getElem?_cons_succ, List.getElem?_cons_zero]; rfl)
  case hwa11 => rfl
  case hya11 => (intro w hSw; (try dsimp only at hSw); go_simp; try with_reducible rfl)
  (try simp only [Act.put, List.setIfInBounds_toArray, List.set_cons_zero, List.set_cons_succ])
  refine Held.next (i := 12) (o := ?oa12) (by kernel_rfl) ?hia12 (fun K hK => ?sta12)
  case hia12 => (simp only [List.getElem?_toArray, List.getElem?_cons_succ, List.getElem?_cons_zero]; rfl)
  go_simp
  refine hK.out _ _ (fun h => absurd h (by decide)) ?_
  clear hK K
  (try simp only [Act.put, List.setIfInBounds_toArray, List.set_cons_zero, List.set_cons_succ])
  refine Held.done (by kernel_rfl) ?_ _
  refine NoPanic.normal ?_
  go_wp2_with fail
  go_ret
  exact ⟨rfl, hf09⟩

set_option maxRecDepth 100000 in
set_option maxHeartbeats 2000000 in
theorem rchoose_any {M : Mt} (hM : M.Ok) (n : Nat) (hn : n = M.ou + M.inn) (A : Option Addr) (c : Nat) (B : Option Addr) (d : Nat) (F Fa Fb : Nat → Prop) (Aa : Option Addr) (la ca : Nat) (ua : List Bool) (Av : Option Addr) (k cv' : Nat) (cs : List (List Bool)) (w : World) (h4 : n ≤ 1000) (h5 : M.L.length ≤ 1000) (hk : k ≤ 1000000)
    (hA : Sl w F 2 (.slice A M.L.length c) M.L.length (pairs M.L)) (hB : Sl w F 1 (.slice B 1 d) 1 ([M.o].map (.int .i64))) (hla : ua.length = la) (h1 : la = M.ou) (hl : ∀ r ∈ cs, r.length = M.inn)
    (ha : Sl w Fa 1 (.slice Aa la ca) la (ua.map .bool)) (hR : RwB w Fb (.slice Av k cv') k cs) :
    Calls Tryd.prog 100 #[mtv M.ex M.ou n A M.L.length c B d, .slice Aa la ca, .slice Av k cv'] w fun e w' => e = .returned (.int .i64 (M.choose ua cs)) ∧ Frm (fun _ => False) w w' := by
  have hf0 := (Frm.refl (fun _ => False) w).alloc (.cells #[.bool M.ex, .int .i64 M.ou, .int .i64 n, .slice A M.L.length c, .slice B 1 d] 104)
  have hb0 : Blk (w.alloc (.cells #[.bool M.ex, .int .i64 M.ou, .int .i64 n, .slice A M.L.length c, .slice B 1 d] 104)) w.heap.size 104 [.bool M.ex, .int .i64 M.ou, .int .i64 n, .slice A M.L.length c, .slice B 1 d] := Blk.new _ _ _
  have hkl := hR.1
  have HBE := Lib.hid (fun (W : World) (hf : Frm (fun _ => False) w W) (j : Nat) (hj : j < k) (B' : Option Addr) (d' : Nat) (G : Nat → Prop) (hs : Sl W G 1 (.slice B' (cs.getD j []).length d') (cs.getD j []).length ((cs.getD j []).map .bool)) =>
    rwanted_any hM n hn A c B d F Fa G Aa la ca ua B' (cs.getD j []).length d' (cs.getD j []) W h4 h5 (hA.frm hf (fun _ _ => id)) (hB.frm hf (fun _ _ => id)) hla rfl h1 (hl _ (by simp [List.getD, show j < cs.length by omega])) (ha.frm hf (fun _ _ => id)) hs)
  have HNONE := Lib.hid (fun (h : ∀ j, j < k → M.wanted ua (cs.getD j []) = true) => choose_none (M := M) (a := ua) (mvs := cs) (fun j hj => h j (by omega)))
  have HAT := Lib.hid (fun (j : Nat) (hj : j < k) (hw : M.wanted ua (cs.getD j []) = false) (h : ∀ i, i < j → M.wanted ua (cs.getD i []) = true) => choose_at (M := M) (a := ua) (mvs := cs) (k := j) (by omega) hw h)
  clear hM hn hA hB hla h1 hl ha hkl h5
  generalize M.choose ua cs = r at *
  generalize M.ex = ex at *
  generalize M.ou = ou at *
  generalize M.L.length = m at *
  have HH := Lib.hid (fun (W W' : World) (hf : Frm (fun _ => False) W W') (h : W.cell? ⟨w.heap.size, 0, none⟩ = some (.bool ex) ∧ W.cell? ⟨w.heap.size, 1, none⟩ = some (.int .i64 (ou : Int)) ∧ W.cell? ⟨w.heap.size, 2, none⟩ = some (.int .i64 (n : Int)) ∧ W.cell? ⟨w.heap.size, 3, none⟩ = some (.slice A m c) ∧ W.cell? ⟨w.heap.size, 4, none⟩ = some (.slice B 1 d)) => show W'.cell? ⟨w.heap.size, 0, none⟩ = some (.bool ex) ∧ W'.cell? ⟨w.heap.size, 1, none⟩ = some (.int .i64 (ou : Int)) ∧ W'.cell? ⟨w.heap.size, 2, none⟩ = some (.int .i64 (n : Int)) ∧ W'.cell? ⟨w.heap.size, 3, none⟩ = some (.slice A m c) ∧ W'.cell? ⟨w.heap.size, 4, none⟩ = some (.slice B 1 d) from ⟨hf.cell h.1 id, hf.cell h.2.1 id, hf.cell h.2.2.1 id, hf.cell h.2.2.2.1 id, hf.cell h.2.2.2.2 id⟩)
  go_enter Tryd.func100, Tryd.ntmps100
  go_wp2_with fail
  go_loopw [7] (fun iv wr => ∃ (j : Nat), j ≤ k ∧ iv = .int .i64 (j : Int) ∧ (∀ i, i < j → M.wanted ua (cs.getD i []) = true) ∧ Frm (fun _ => False) (w.alloc (.cells #[.bool ex, .int .i64 ou, .int .i64 n, .slice A m c, .slice B 1 d] 104)) wr) (fun iv _ => k - (intOf iv).toNat)
  case atStart => exact ⟨0, by omega, rfl, fun i h => absurd h (Nat.not_lt_zero _), Frm.refl _ _⟩
  case round =>
    obtain ⟨j, hj, rfl, hno, hfj⟩ := hrel
    have hbj := hb0.frm hfj id
    have hf0j := hf0.trans hfj
    have HNO := Lib.hid hno
    clear hno
    by_cases hlt : j < k
    · obtain ⟨b, o, B', d', e0, _, hc, hs⟩ := (hR.frm hf0j (fun _ _ => id)).at_ hlt
      subst e0
      have hdd := (Frm.refl (fun _ => False) wr).drewN 1
      have HBJ := Lib.hid (HBE.out _ (hf0j.trans hdd) j hlt B' d' _ (hs.frm hdd (fun _ _ => id)))
      have hmore : M.wanted ua (cs.getD j []) = true → ∀ i, i < j + 1 → M.wanted ua (cs.getD i []) = true := fun h i hi => by
        rcases Nat.lt_or_ge i j with h1 | h1
        · exact HNO.out i h1
        · obtain rfl : i = j := by omega
          exact h
      have hat : M.wanted ua (cs.getD j []) = false → r = j := fun h => HAT.out j hlt h HNO.out
      have HM := Lib.hid hmore
      have HT := Lib.hid hat
      clear hmore hat hs
      generalize M.wanted ua (cs.getD j []) = z at HM HT HBJ
      generalize (cs.getD j []).length = len at *
      have j0 : (0 : Int) ≤ j := by omega
      have j1 : (j : Int) < k := by omega
      have hH0 : wr.drew.cell? ⟨w.heap.size, 0, none⟩ = some (.bool ex) ∧ wr.drew.cell? ⟨w.heap.size, 1, none⟩ = some (.int .i64 (ou : Int)) ∧ wr.drew.cell? ⟨w.heap.size, 2, none⟩ = some (.int .i64 (n : Int)) ∧ wr.drew.cell? ⟨w.heap.size, 3, none⟩ = some (.slice A m c) ∧ wr.drew.cell? ⟨w.heap.size, 4, none⟩ = some (.slice B 1 d) ∧ wr.drew.cell? ⟨b, o + j, none⟩ = some (.slice B' len d') := ⟨hbj.at_ 0 rfl, hbj.at_ 1 rfl, hbj.at_ 2 rfl, hbj.at_ 3 rfl, hbj.at_ 4 rfl, hc⟩
      have HH2 := Lib.hid (fun (W W' : World) (hf : Frm (fun _ => False) W W') (h : W.cell? ⟨w.heap.size, 0, none⟩ = some (.bool ex) ∧ W.cell? ⟨w.heap.size, 1, none⟩ = some (.int .i64 (ou : Int)) ∧ W.cell? ⟨w.heap.size, 2, none⟩ = some (.int .i64 (n : Int)) ∧ W.cell? ⟨w.heap.size, 3, none⟩ = some (.slice A m c) ∧ W.cell? ⟨w.heap.size, 4, none⟩ = some (.slice B 1 d) ∧ W.cell? ⟨b, o + j, none⟩ = some (.slice B' len d')) => show W'.cell? ⟨w.heap.size, 0, none⟩ = some (.bool ex) ∧ W'.cell? ⟨w.heap.size, 1, none⟩ = some (.int .i64 (ou : Int)) ∧ W'.cell? ⟨w.heap.size, 2, none⟩ = some (.int .i64 (n : Int)) ∧ W'.cell? ⟨w.heap.size, 3, none⟩ = some (.slice A m c) ∧ W'.cell? ⟨w.heap.size, 4, none⟩ = some (.slice B 1 d) ∧ W'.cell? ⟨b, o + j, none⟩ = some (.slice B' len d') from ⟨hf.cell h.1 id, hf.cell h.2.1 id, hf.cell h.2.2.1 id, hf.cell h.2.2.2.1 id, hf.cell h.2.2.2.2.1 id, hf.cell h.2.2.2.2.2 id⟩)
      clear hc
      go_wp2_with fail
      have hHeld := hH0
      refine Held.begin (fun w' => w'.cell? ⟨w.heap.size, 0, none⟩ = some (.bool ex) ∧ w'.cell? ⟨w.heap.size, 1, none⟩ = some (.int .i64 (ou : Int)) ∧ w'.cell? ⟨w.heap.size, 2, none⟩ = some (.int .i64 (n : Int)) ∧ w'.cell? ⟨w.heap.size, 3, none⟩ = some (.slice A m c) ∧ w'.cell? ⟨w.heap.size, 4, none⟩ = some (.slice B 1 d) ∧ w'.cell? ⟨b, o + j, none⟩ = some (.slice B' len d')) 8 (by kernel_rfl) ?_
      refine Held.take (i := 0) (oi := ?ob0) (v := ?vb0) ?hib0 (by kernel_rfl) (by kernel_rfl) (by kernel_rfl) (by kernel_rfl) (fun _ _ _ h => h) (Or.inl ⟨?hwb0, ?hyb0⟩) (by assumption) ?restb0
      case hib0 => (simp only [List.getElem?_toArray, List.getElem?_cons_zero]; rfl)
      case hwb0 => rfl
      case hyb0 => (intro w hSw; (try dsimp only at hSw); go_simp; try with_reducible rfl)
      (try simp only [Act.put, List.setIfInBounds_toArray, List.set_cons_zero, List.set_cons_succ])
      refine Held.take (i := 1) (oi := ?ob1) (v := ?vb1) ?hib1 (by kernel_rfl) (by kernel_rfl) (by kernel_rfl) (by kernel_rfl) (fun _ _ _ h => h) (Or.inl ⟨?hwb1, ?hyb1⟩) (by assumption) ?restb1
      case hib1 => (simp only [List.getElem?_toArray, List.getElem?_cons_succ, List.getElem?_cons_zero]; rfl)
      case hwb1 => rfl
      case hyb1 => (intro w hSw; (try dsimp only at hSw); go_simp; try with_reducible rfl)
      (try simp only [Act.put, List.setIfInBounds_toArray, List.set_cons_zero, List.set_cons_succ])
      refine Held.take (i := 2) (oi := ?ob2) (v := ?vb2) ?hib2 (by kernel_rfl) (by kernel_rfl) (by kernel_rfl) (by kernel_rfl) (fun _ _ _ h => h) (Or.inl ⟨?hwb2, ?hyb2⟩) (by assumption) ?restb2
      case hib2 => (simp only [List.getElem?_toArray, List.getElem?_cons_succ, List.getElem?_cons_zero]; rfl)
      case hwb2 => rfl
      case hyb2 => (intro w hSw; (try dsimp only at hSw); go_simp; try with_reducible rfl)
      (try simp only [Act.put, List.setIfInBounds_toArray, List.set_cons_zero, List.set_cons_succ])
      refine Held.take (i := 3) (oi := ?ob3) (v := ?vb3) ?hib3 (by kernel_rfl) (by kernel_rfl) (by kernel_rfl) (by kernel_rfl) (fun _ _ _ h => h) (Or.inl ⟨?hwb3, ?hyb3⟩) (by assumption) ?restb3
      case hib3 => (simp only [List.getElem?_toArray, List.getElem?_cons_succ, List.getElem?_cons_zero]; rfl)
      case hwb3 => rfl
      case hyb3 => (intro w hSw; (try dsimp only at hSw); go_simp; try with_reducible rfl)
      (try simp only [Act.put, List.setIfInBounds_toArray, List.set_cons_zero, List.set_cons_succ])
      refine Held.take (i := 4) (oi := ?ob4) (v := ?vb4) ?hib4 (by kernel_rfl) (by kernel_rfl) (by kernel_rfl) (by kernel_rfl) (fun _ _ _ h => h) (Or.inl ⟨?hwb4, ?hyb4⟩) (by assumption) ?restb4
      case hib4 => (simp only [List.getElem?_toArray, List.getElem?_cons_succ, List.getElem?_cons_zero]; rfl)
      case hwb4 => rfl
      case hyb4 => (intro w hSw; (try dsimp only at hSw); go_simp; try with_reducible rfl)
      (try simp only [Act.put, List.setIfInBounds_toArray, List.set_cons_zero, List.set_cons_succ])
      refine Held.take (i := 5) (oi := ?ob5) (v := ?vb5) ?hib5 (by kernel_rfl) (by kernel_rfl) (by kernel_rfl) (by kernel_rfl) (fun _ _ _ h => h) (Or.inl ⟨?hwb5, ?hyb5⟩) (by assumption) ?restb5
      case hib5 => (simp only [List.getElem?_toArray, List.getElem?_cons_succ, List.getElem?_cons_zero]; rfl)
      case hwb5 => rfl
      case hyb5 => (intro w hSw; (try dsimp only at hSw); go_simp; try with_reducible rfl)
      (try simp only [Act.put, List.setIfInBounds_toArray, List.set_cons_zero, List.set_cons_succ])
      refine Held.next (i := 6) (o := ?ob6) (by kernel_rfl) ?hib6 (fun K hK => ?stb6)
      case hib6 => (simp only [List.getElem?_toArray, List.getElem?_cons_succ, List.getElem?_cons_zero]; rfl)
      go_simp
      (go_at_call 98; refine HBJ.out.mono ?_; rintro e w8 ⟨rfl, hf8⟩)
      (try go_wp2_with fail)
      refine hK.out _ _ (fun _ => by exact HH2.out _ _ hf8 hHeld) ?_
      clear hK K
      (try simp only [Act.put, List.setIfInBounds_toArray, List.set_cons_zero, List.set_cons_succ])
      have hH2 := HH2.out _ _ hf8 hHeld
      refine Held.take (i := 7) (oi := ?ob7) (v := ?vb7) ?hib7 (by kernel_rfl) (by kernel_rfl) (by kernel_rfl) (by kernel_rfl) (fun _ _ _ h => h) (Or.inl ⟨?hwb7, ?hyb7⟩) (by assumption) ?restb7
      case hib7 => (simp only [List.getElem?_toArray, List.getElem?_cons_succ, List.getElem?_cons_zero]; rfl)
      case hwb7 => rfl
      case hyb7 => (intro w hSw; (try dsimp only at hSw); go_simp; try with_reducible rfl)
      (try simp only [Act.put, List.setIfInBounds_toArray, List.set_cons_zero, List.set_cons_succ])
      refine Held.done (by kernel_rfl) ?_ _
      refine NoPanic.normal ?_
      have hfj8 := (hfj.trans hdd).trans hf8
      clear hH0 hHeld HH2 hH2 HBJ
      cases z
      · have hi := HT.out rfl
        have HI := Lib.hid hi
        clear hi HT HM
        go_wp2_with fail
        go_ret
        exact ⟨ret_int HI.out.symm, hf0.trans hfj8⟩
      · have hm := HM.out rfl
        have HM2 := Lib.hid hm
        clear hm HM HT
        go_wp2_with fail
        go_roundw
        case rel => exact ⟨j + 1, by omega, by go_num, HM2.out, hfj8⟩
        case measure => simp [intOf]; omega
    · obtain rfl : j = k := by omega
      have hi := HNONE.out HNO.out
      have HI := Lib.hid hi
      clear hi
      go_wp2_with fail
      go_ret
      exact ⟨ret_int HI.out.symm, hf0j⟩
end Go.Proofs.YtkjlgamggkencaaDoor
