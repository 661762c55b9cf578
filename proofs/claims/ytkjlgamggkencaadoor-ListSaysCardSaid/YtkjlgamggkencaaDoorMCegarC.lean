/-
  The contracts of package cegar's Check, Want, Wanted, Move; list's bit, Beats.
-/
import Derived.Test.YtkjlgamggkencaaDoorMMatchC
import Derived.Test.YtkjlgamggkencaaDoorMCopyAll
import Derived.Test.YtkjlgamggkencaaDoorMLookE
import Derived.Test.YtkjlgamggkencaaDoorMGate
import Derived.Test.YtkjlgamggkencaaDoorMLaw9
import Derived.Deep.Cut
import Derived.Deep.CutRange
namespace Go.Proofs.YtkjlgamggkencaaDoor
open Go.RowKit
set_option linter.unusedVariables false

theorem lbit_any (b : Bool) (w : World) : Calls Tryd.prog 134 #[.bool b] w fun e w' => e = .returned (.int .i64 (bitI b)) ∧ w = w' := by
  cases b
  · go_enter Tryd.func134, Tryd.ntmps134
    go_wp2_with fail
    go_ret
    exact ⟨rfl, rfl⟩
  · go_enter Tryd.func134, Tryd.ntmps134
    go_wp2_with fail
    go_ret
    exact ⟨rfl, rfl⟩

theorem mt_code {M : Mt} (hM : M.Ok) {n : Nat} (hn : n = M.ou + M.inn) (h4 : n + M.L.length ≤ 8000) : ckCode n M.L [M.o] = 0 := by
  subst hn
  exact ckCode_right hM.right (by omega) (by intro x hx; simp at hx; subst hx; exact hM.out)

set_option maxRecDepth 100000 in
set_option maxHeartbeats 1000000 in
theorem mcheck_ok {M : Mt} (hM : M.Ok) (n : Nat) (hn : n = M.ou + M.inn) (A : Option Addr) (c : Nat) (B : Option Addr) (d : Nat) (F : Nat → Prop) (w : World) (h4 : n + M.L.length ≤ 8000)
    (hA : Sl w F 2 (.slice A M.L.length c) M.L.length (pairs M.L)) (hB : Sl w F 1 (.slice B 1 d) 1 ([M.o].map (.int .i64))) :
    Calls Tryd.prog 130 #[mtv M.ex M.ou n A M.L.length c B d] w fun e w' => e = .returned .nilIface ∧ Frm (fun _ => False) w w' := by
  have hf0 := (Frm.refl (fun _ => False) w).alloc (.cells #[.bool M.ex, .int .i64 M.ou, .int .i64 n, .slice A M.L.length c, .slice B 1 d] 104)
  have hb0 : Blk (w.alloc (.cells #[.bool M.ex, .int .i64 M.ou, .int .i64 n, .slice A M.L.length c, .slice B 1 d] 104)) w.heap.size 104 [.bool M.ex, .int .i64 M.ou, .int .i64 n, .slice A M.L.length c, .slice B 1 d] := Blk.new _ _ _
  have HCK := Lib.hid (check_any [102, 104] (fun _ => ⟨0, 0, none⟩) (by simp) (by simp) n A M.L.length c B 1 d M.L [M.o] F F _ rfl rfl (by omega) (by omega) (hA.frm hf0 (fun _ _ => id)) (hB.frm hf0 (fun _ _ => id)) (fun h => absurd (mt_code hM hn h4) h))
  rw [mt_code hM hn h4, PE_zero] at HCK
  have b1 := hb0.at_ 1 rfl
  have b2 := hb0.at_ 2 rfl
  have b3 := hb0.at_ 3 rfl
  have b4 := hb0.at_ 4 rfl
  have hle : M.ou ≤ n := by omega
  clear hM hA hB h4 hn
  generalize M.ex = ex at *
  generalize M.ou = ou at *
  generalize M.L.length = m at *
  have c0 : decide ((ou : Int) < 0) = false := by simp
  have c1 : decide ((n : Int) < (ou : Int)) = false := by simp; omega
  go_enter Tryd.func130, Tryd.ntmps130
  go_wp2_with fail
  refine HCK.out.mono ?_
  rintro e w1 ⟨rfl, hf1⟩
  have hb1 := hb0.frm hf1 id
  have b1' := hb1.at_ 1 rfl
  have b2' := hb1.at_ 2 rfl
  have b4' := hb1.at_ 4 rfl
  clear b1 b2 b3 b4
  go_wp2_with fail
  go_ret
  exact ⟨rfl, hf0.trans hf1⟩

set_option maxRecDepth 100000 in
set_option maxHeartbeats 1000000 in
theorem mwant_any (ex : Bool) (ou n : Int) (A : Option Addr) (m c : Nat) (B : Option Addr) (d : Nat) (x : Int) (hx : Small x) (w : World) :
    Calls Tryd.prog 132 #[mtv ex ou n A m c B d, .int .i64 x] w fun e w' => e = .returned (.int .i64 (wantI ex x)) ∧ Frm (fun _ => False) w w' := by
  have hf0 := (Frm.refl (fun _ => False) w).alloc (.cells #[.bool ex, .int .i64 ou, .int .i64 n, .slice A m c, .slice B 1 d] 104)
  have hb0 : Blk (w.alloc (.cells #[.bool ex, .int .i64 ou, .int .i64 n, .slice A m c, .slice B 1 d] 104)) w.heap.size 104 [.bool ex, .int .i64 ou, .int .i64 n, .slice A m c, .slice B 1 d] := Blk.new _ _ _
  have b0 := hb0.at_ 0 rfl
  cases ex
  · go_enter Tryd.func132, Tryd.ntmps132
    go_wp2_with fail
    refine (not_any x hx _).mono ?_
    rintro e w' ⟨rfl, rfl⟩
    go_wp2_with fail
    go_ret
    exact ⟨rfl, hf0⟩
  · go_enter Tryd.func132, Tryd.ntmps132
    go_wp2_with fail
    go_ret
    exact ⟨rfl, hf0⟩

theorem splice_two (z : Value) (ua ub : List Value) (n : Nat) (h : n = ua.length + ub.length) : splice (splice (List.replicate n z) 0 ua) ua.length ub = ua ++ ub := by
  unfold splice
  simp [h]

set_option maxRecDepth 100000 in
set_option maxHeartbeats 1500000 in
theorem mwanted_any {M : Mt} (hM : M.Ok) (n : Nat) (hn : n = M.ou + M.inn) (A : Option Addr) (c : Nat) (B : Option Addr) (d : Nat) (F Fa Fb : Nat → Prop) (Aa : Option Addr) (la ca : Nat) (ua : List Bool) (Ab : Option Addr) (lb cb : Nat) (ub : List Bool) (w : World) (h4 : n ≤ 1000) (h5 : M.L.length ≤ 1000)
    (hA : Sl w F 2 (.slice A M.L.length c) M.L.length (pairs M.L)) (hB : Sl w F 1 (.slice B 1 d) 1 ([M.o].map (.int .i64))) (hla : ua.length = la) (hlb : ub.length = lb) (h1 : la = M.ou) (h2 : lb = M.inn)
    (ha : Sl w Fa 1 (.slice Aa la ca) la (ua.map .bool)) (hb : Sl w Fb 1 (.slice Ab lb cb) lb (ub.map .bool)) :
    Calls Tryd.prog 138 #[mtv M.ex M.ou n A M.L.length c B d, .slice Aa la ca, .slice Ab lb cb] w fun e w' => e = .returned (.bool (M.wanted ua ub)) ∧ Frm (fun _ => False) w w' := by
  obtain ⟨i0, hi0, hz0, hz1, hz2⟩ := info_parts infoBoolG
  have hf0 := (Frm.refl (fun _ => False) w).alloc (.cells #[.bool M.ex, .int .i64 M.ou, .int .i64 n, .slice A M.L.length c, .slice B 1 d] 104)
  have hb0 : Blk (w.alloc (.cells #[.bool M.ex, .int .i64 M.ou, .int .i64 n, .slice A M.L.length c, .slice B 1 d] 104)) w.heap.size 104 [.bool M.ex, .int .i64 M.ou, .int .i64 n, .slice A M.L.length c, .slice B 1 d] := Blk.new _ _ _
  have HCK := Lib.hid (mcheck_ok hM n hn A c B d F _ (by omega) (hA.frm hf0 (fun _ _ => id)) (hB.frm hf0 (fun _ _ => id)))
  have HLE := Lib.hid (fun (W : World) (hf : Frm (fun _ => False) w W) (Ai : Option Addr) (G : Nat → Prop) (hi : Sl W G 1 (.slice Ai n n) n ((ua ++ ub).map .bool)) => leval_any n M.L A M.L.length c B 1 d [M.o] Ai n n (ua ++ ub) F F G W rfl rfl (by rw [List.length_append]; omega) (by rw [hn]; exact hM.right) (by omega) (by omega) (by omega) (by omega) (by intro x hx; simp at hx; subst hx; rw [hn]; exact hM.out) (hA.frm hf (fun _ _ => id)) (hB.frm hf (fun _ _ => id)) hi)
  have hev : evalOuts (nodes n M.L (ua ++ ub)) [M.o] = [worth (nodes n M.L (ua ++ ub)) M.o] := rfl
  rw [hev] at HLE
  have hwd : M.wanted ua ub = (worth (nodes n M.L (ua ++ ub)) M.o == M.ex) := by unfold Mt.wanted; rw [← hn]
  rw [hwd]
  clear hev hwd
  generalize worth (nodes n M.L (ua ++ ub)) M.o = z at *
  have hsp := splice_two (.bool false) (ua.map Value.bool) (ub.map .bool) n (by simp; omega)
  rw [show (ua.map Value.bool).length = la from by rw [List.length_map]; exact hla, ← List.map_append] at hsp
  obtain ⟨cs1, hcs1⟩ : ∃ cs1, cs1 = ua.map Value.bool := ⟨_, rfl⟩
  obtain ⟨cs2, hcs2⟩ : ∃ cs2, cs2 = ub.map Value.bool := ⟨_, rfl⟩
  have hcl1 : cs1.length ≤ la ∧ la ≤ cs1.length := by rw [hcs1, List.length_map]; omega
  have hcl2 : cs2.length ≤ lb ∧ lb ≤ cs2.length := by rw [hcs2, List.length_map]; omega
  have hone1 : ∀ v ∈ cs1, v.oneCell' = true := by intro v hv; rw [hcs1] at hv; obtain ⟨x, _, rfl⟩ := List.mem_map.1 hv; rfl
  have hone2 : ∀ v ∈ cs2, v.oneCell' = true := by intro v hv; rw [hcs2] at hv; obtain ⟨x, _, rfl⟩ := List.mem_map.1 hv; rfl
  rw [← hcs1] at ha
  rw [← hcs2] at hb
  rw [← hcs1, ← hcs2] at hsp
  have hrl : (List.replicate n (Value.bool false)).length ≤ n ∧ n ≤ (List.replicate n (Value.bool false)).length := by simp
  have hsl1 : (splice (List.replicate n (Value.bool false)) 0 cs1).length ≤ n ∧ n ≤ (splice (List.replicate n (Value.bool false)) 0 cs1).length := by unfold splice; simp; omega
  have hlap : ((ua ++ ub).map Value.bool).length = n * 1 := by simp; omega
  obtain ⟨R0, hR0⟩ : ∃ R0, R0 = List.replicate n (Value.bool false) := ⟨_, rfl⟩
  have HR0 := Lib.hid hR0
  rw [← hR0] at hsp hrl hsl1
  have HSP := Lib.hid hsp
  have HLP := Lib.hid hlap
  clear hlap hcs1 hcs2 hR0
  have hle : M.ou ≤ n := by omega
  have HL1 := Lib.hid hla
  have HL2 := Lib.hid hlb
  have hlae : la ≤ n ∧ M.ou ≤ la ∧ la ≤ M.ou := by omega
  have hlbe : la + lb ≤ n ∧ n ≤ la + lb := by omega
  have b0 := hb0.at_ 0 rfl
  have b1 := hb0.at_ 1 rfl
  have b2 := hb0.at_ 2 rfl
  have b3 := hb0.at_ 3 rfl
  have b4 := hb0.at_ 4 rfl
  clear hM hA hB hla hlb hsp hn
  subst h1
  clear h2
  generalize M.ex = ex at *
  generalize M.ou = ou at *
  generalize M.L.length = m at *
  go_enter Tryd.func138, Tryd.ntmps138
  go_wp2_with fail
  refine HCK.out.mono ?_
  rintro e w1 ⟨rfl, hf1⟩
  have hb1 := hb0.frm hf1 id
  have hf01 := hf0.trans hf1
  have b2' := hb1.at_ 2 rfl
  clear b0 b1 b2 b3 b4 hb0 hf0 hf1 HCK
  go_wp2_with (refine wpList_make_z _ rfl _ _ 54 rfl 4 i0 (.bool false) Tryd.underlying54 hi0 hz0 hz1 rfl .i64 .i64 n n ?ca ?cb (by omega) (by rw [hz2]; omega) (by omega) ?_)
  case ca => go_simp
  case cb => go_simp
  intro w2 hb2 hf2
  rw [← HR0.out] at hb2
  have hm2 := hb1.frm hf2 id
  have hf02 := hf01.trans hf2
  have c1 := hm2.at_ 1 rfl
  have hlt := hb1.lt
  have s1 : (0 : Int) ≤ ou := by omega
  have s2 : (ou : Int) ≤ n := by omega
  clear b2' hb1 hf01 hf2
  generalize w1.heap.size = g at *
  have hsa := ha.frm hf02 (fun _ _ => id)
  go_wp2_with (refine wpList_copy_frm rfl (.tmp 18) (.tmp 19) 54 54 rfl 4 Tryd.underlying54 (by rw [hi0]; simp [hz1]) _ _ _ _ _ _ rfl rfl g 0 R0 4 hb2 cs1 ?cc0 ?cc1 (by omega) hone1 ?_)
  case cc0 => simp; omega
  case cc1 =>
    intro hpos
    have hpos2 : 0 < ou := by omega
    obtain ⟨bb, oo, uu, rfl, _⟩ := hsa.at_ (k := 0) hpos2
    first | exact ⟨_, rfl, fun j v hv => hsa.src j v hv⟩ | exact ⟨by simp, _, rfl, fun j v hv => hsa.src j v hv⟩
  intro w3 HG3 hf3
  have hb3 : Blk w3 g 4 (splice R0 0 cs1) := HG3.out
  have hm3 := hm2.frm hf3 (by omega)
  have hf03 := hf02.then' hf3 (fun k hk e => by omega)
  have c1' := hm3.at_ 1 rfl
  have hsb := hb.frm hf03 (fun _ _ => id)
  have hspo := HSP.out
  generalize splice R0 0 cs1 = R1 at *
  have HSP2 := Lib.hid hspo
  clear hspo HSP
  clear HG3 hb2 hm2 hf3 c1 hf02 hsa
  go_upto_region 5 with (fail)
  go_cut [7] from 21 to 26 (fun t7 wr => t7 = .slice (some ⟨g, 0, none⟩) n n ∧ Blk wr g 4 (splice R1 ou cs2) ∧ Frm (fun k => k = g) w3 wr)
  case first =>
    by_cases hno : n = ou
    · have hlb0 : cs2.length = 0 := by omega
      obtain rfl : cs2 = [] := List.eq_nil_of_length_eq_zero hlb0
      have hlb1 : lb = 0 := by omega
      subst hlb1
      have hou : ou = n := hno.symm
      clear hno
      subst hou
      go_wp2_with (refine wpList_copy_frm rfl (.tmp 24) (.tmp 25) 54 54 rfl 4 Tryd.underlying54 (by rw [hi0]; simp [hz1]) _ _ _ _ _ _ rfl rfl g ou R1 4 hb3 [] ?cd0 (fun h => absurd h (by simp)) (by omega) (by simp) ?_)
      case cd0 => first | rfl | simp
      intro w4 HG4 hf4
      go_wp2_with fail
      go_meet
      exact ⟨rfl, HG4.out, hf4⟩
    · go_wp2_with (refine wpList_copy_frm rfl (.tmp 24) (.tmp 25) 54 54 rfl 4 Tryd.underlying54 (by rw [hi0]; simp [hz1]) _ _ _ _ _ _ rfl rfl g ou R1 4 hb3 cs2 ?cd0 ?cd1 (by omega) hone2 ?_)
      case cd0 => first | (show _ = min _ _; omega) | (simp; omega)
      case cd1 =>
        intro hpos
        have hpos2 : 0 < lb := by omega
        obtain ⟨bb, oo, uu, rfl, _⟩ := hsb.at_ (k := 0) hpos2
        first | exact ⟨_, rfl, fun j v hv => hsb.src j v hv⟩ | exact ⟨by simp, _, rfl, fun j v hv => hsb.src j v hv⟩
      intro w4 HG4 hf4
      go_wp2_with fail
      go_meet
      exact ⟨rfl, HG4.out, hf4⟩
  case rest =>
  obtain ⟨rfl, hb4, hf4⟩ := hcut
  obtain ⟨w4, rfl⟩ : ∃ w4, w4 = wc := ⟨_, rfl⟩
  rw [HSP2.out] at hb4
  have hm4 := hm3.frm hf4 (by omega)
  have hf04 := hf03.then' hf4 (fun k hk e => by omega)
  have hsl := hb4.sl 1 n HLP.out
  have HLE2 := Lib.hid (HLE.out w4.drew (hf04.drewN 1) (some ⟨g, 0, none⟩) _ (hsl.drewN 1))
  have hH0 : w4.drew.cell? ⟨w.heap.size, 0, none⟩ = some (.bool ex) ∧ w4.drew.cell? ⟨w.heap.size, 2, none⟩ = some (.int .i64 (n : Int)) ∧ w4.drew.cell? ⟨w.heap.size, 3, none⟩ = some (.slice A m c) ∧ w4.drew.cell? ⟨w.heap.size, 4, none⟩ = some (.slice B 1 d) := ⟨hm4.at_ 0 rfl, hm4.at_ 2 rfl, hm4.at_ 3 rfl, hm4.at_ 4 rfl⟩
  clear hb3 hm3 hf4 c1' hf03 hsb HLE hb4
  go_wp2_with fail
  have hHeld := hH0
  refine Held.begin (fun w' => w'.cell? ⟨w.heap.size, 0, none⟩ = some (.bool ex) ∧ w'.cell? ⟨w.heap.size, 2, none⟩ = some (.int .i64 (n : Int)) ∧ w'.cell? ⟨w.heap.size, 3, none⟩ = some (.slice A m c) ∧ w'.cell? ⟨w.heap.size, 4, none⟩ = some (.slice B 1 d)) 9 (by kernel_rfl) ?_
  refine Held.take (i := 0) (oi := ?oa0) (v := ?va0) ?hia0 (by kernel_rfl) (by kernel_rfl) (by kernel_rfl) (by kernel_rfl) (fun _ _ _ h => h) (Or.inl ⟨?hwa0, ?hya0⟩) (by assumption) ?resta0
  case hia0 => (simp only [List.getElem?_toArray, List.getElem?_cons_zero]; rfl)
  case hwa0 => rfl
  case hya0 => (intro w hSw; (try dsimp only at hSw); go_simp; try with_reducible rfl)
  (try simp only [Act.put, List.setIfInBounds_toArray, List.set_cons_zero, List.set_cons_succ])
  refine Held.take (i := 1) (oi := ?oa1) (v := ?va1) ?hia1 (by kernel_rfl) (by kernel_rfl) (by kernel_rfl) (by kernel_rfl) (fun _ _ _ h => h) (Or.inl ⟨?hwa1, ?hya1⟩) (by assumption) ?resta1
  case hia1 => (simp only [List.getElem?_toArray, List.getElem?_cons_succ, List.getElem?_cons_zero]; rfl)
  case hwa1 => rfl
  case hya1 => (intro w hSw; (try dsimp only at hSw); go_simp; try with_reducible rfl)
  (try simp only [Act.put, List.setIfInBounds_toArray, List.set_cons_zero, List.set_cons_succ])
  refine Held.take (i := 2) (oi := ?oa2) (v := ?va2) ?hia2 (by kernel_rfl) (by kernel_rfl) (by kernel_rfl) (by kernel_rfl) (fun _ _ _ h => h) (Or.inl ⟨?hwa2, ?hya2⟩) (by assumption) ?resta2
  case hia2 => (simp only [List.getElem?_toArray, List.getElem?_cons_succ, List.getElem?_cons_zero]; rfl)
  case hwa2 => rfl
  case hya2 => (intro w hSw; (try dsimp only at hSw); go_simp; try with_reducible rfl)
  (try simp only [Act.put, List.setIfInBounds_toArray, List.set_cons_zero, List.set_cons_succ])
  refine Held.take (i := 6) (oi := ?oa6) (v := ?va6) ?hia6 (by kernel_rfl) (by kernel_rfl) (by kernel_rfl) (by kernel_rfl) (fun _ _ _ h => h) (Or.inl ⟨?hwa6, ?hya6⟩) (by assumption) ?resta6
  case hia6 => (simp only [List.getElem?_toArray, List.getElem?_cons_succ, List.getElem?_cons_zero]; rfl)
  case hwa6 => rfl
  case hya6 => (intro w hSw; (try dsimp only at hSw); go_simp; try with_reducible rfl)
  (try simp only [Act.put, List.setIfInBounds_toArray, List.set_cons_zero, List.set_cons_succ])
  refine Held.take (i := 7) (oi := ?oa7) (v := ?va7) ?hia7 (by kernel_rfl) (by kernel_rfl) (by kernel_rfl) (by kernel_rfl) (fun _ _ _ h => h) (Or.inl ⟨?hwa7, ?hya7⟩) (by assumption) ?resta7
  case hia7 => (simp only [List.getElem?_toArray, List.getElem?_cons_succ, List.getElem?_cons_zero]; rfl)
  case hwa7 => rfl
  case hya7 => (intro w hSw; (try dsimp only at hSw); go_simp; try with_reducible rfl)
  (try simp only [Act.put, List.setIfInBounds_toArray, List.set_cons_zero, List.set_cons_succ])
  refine Held.next (i := 3) (o := ?oa3) (by kernel_rfl) ?hia3 (fun K hK => ?sta3)
  case hia3 => (simp only [List.getElem?_toArray, List.getElem?_cons_succ, List.getElem?_cons_zero]; rfl)
  go_simp
  (go_at_call 77; refine HLE2.out.mono ?_; rintro e w5 ⟨Ar, cr, rfl, hown5, hf5⟩)
  (try go_wp2_with fail)
  refine hK.out _ _ (fun _ => by exact ⟨hf5.cell hHeld.1 id, hf5.cell hHeld.2.1 id, hf5.cell hHeld.2.2.1 id, hf5.cell hHeld.2.2.2 id⟩) ?_
  clear hK K
  (try simp only [Act.put, List.setIfInBounds_toArray, List.set_cons_zero, List.set_cons_succ])
  have hH2 := And.intro (hf5.cell hHeld.1 id) (And.intro (hf5.cell hHeld.2.1 id) (And.intro (hf5.cell hHeld.2.2.1 id) (hf5.cell hHeld.2.2.2 id)))
  obtain ⟨gr, rfl, _⟩ := own_ptr hown5 (by omega)
  have hcr := own_at hown5 (i := 0) (u := .bool z) rfl
  refine Held.next (i := 4) (o := ?oa4) (by kernel_rfl) ?hia4 (fun K hK => ?sta4)
  case hia4 => (simp only [List.getElem?_toArray, List.getElem?_cons_succ, List.getElem?_cons_zero]; rfl)
  go_simp
  refine hK.out _ _ (fun _ => by exact hH2) ?_
  clear hK K
  (try simp only [Act.put, List.setIfInBounds_toArray, List.set_cons_zero, List.set_cons_succ])
  refine Held.next (i := 5) (o := ?oa5) (by kernel_rfl) ?hia5 (fun K hK => ?sta5)
  case hia5 => (simp only [List.getElem?_toArray, List.getElem?_cons_succ, List.getElem?_cons_zero]; rfl)
  go_simp
  refine hK.out _ _ (fun _ => by exact hH2) ?_
  clear hK K
  (try simp only [Act.put, List.setIfInBounds_toArray, List.set_cons_zero, List.set_cons_succ])
  refine Held.next (i := 8) (o := ?oa8) (by kernel_rfl) ?hia8 (fun K hK => ?sta8)
  case hia8 => (simp only [List.getElem?_toArray, List.getElem?_cons_succ, List.getElem?_cons_zero]; rfl)
  go_simp
  refine hK.out _ _ (fun _ => by exact hH2) ?_
  clear hK K
  (try simp only [Act.put, List.setIfInBounds_toArray, List.set_cons_zero, List.set_cons_succ])
  refine Held.next (i := 9) (o := ?oa9) (by kernel_rfl) ?hia9 (fun K hK => ?sta9)
  case hia9 => (simp only [List.getElem?_toArray, List.getElem?_cons_succ, List.getElem?_cons_zero]; rfl)
  go_simp
  refine hK.out _ _ (fun h => absurd h (by decide)) ?_
  clear hK K
  (try simp only [Act.put, List.setIfInBounds_toArray, List.set_cons_zero, List.set_cons_succ])
  refine Held.done (by kernel_rfl) ?_ _
  refine NoPanic.normal ?_
  go_wp2_with fail
  go_ret
  exact ⟨rfl, (hf04.drewN 1).trans hf5⟩

set_option maxRecDepth 100000 in
set_option maxHeartbeats 1000000 in
theorem beats_any {M : Mt} (hM : M.Ok) (n : Nat) (hn : n = M.ou + M.inn) (A : Option Addr) (c : Nat) (B : Option Addr) (d : Nat) (F Fa Fb : Nat → Prop) (Aa : Option Addr) (la ca : Nat) (ua : List Bool) (Ab : Option Addr) (lb cb : Nat) (ub : List Bool) (w : World) (h4 : n ≤ 1000) (h5 : M.L.length ≤ 1000)
    (hA : Sl w F 2 (.slice A M.L.length c) M.L.length (pairs M.L)) (hB : Sl w F 1 (.slice B 1 d) 1 ([M.o].map (.int .i64))) (hla : ua.length = la) (hlb : ub.length = lb) (h1 : la = M.ou) (h2 : lb = M.inn)
    (ha : Sl w Fa 1 (.slice Aa la ca) la (ua.map .bool)) (hb : Sl w Fb 1 (.slice Ab lb cb) lb (ub.map .bool)) :
    Calls Tryd.prog 97 #[mtv M.ex M.ou n A M.L.length c B d, .slice Aa la ca, .slice Ab lb cb] w fun e w' => e = .returned (.bool (!(M.wanted ua ub))) ∧ Frm (fun _ => False) w w' := by
  have hf0 := (Frm.refl (fun _ => False) w).alloc (.cells #[.bool M.ex, .int .i64 M.ou, .int .i64 n, .slice A M.L.length c, .slice B 1 d] 104)
  have hb0 : Blk (w.alloc (.cells #[.bool M.ex, .int .i64 M.ou, .int .i64 n, .slice A M.L.length c, .slice B 1 d] 104)) w.heap.size 104 [.bool M.ex, .int .i64 M.ou, .int .i64 n, .slice A M.L.length c, .slice B 1 d] := Blk.new _ _ _
  have HW := Lib.hid (mwanted_any hM n hn A c B d F Fa Fb Aa la ca ua Ab lb cb ub _ h4 h5 (hA.frm hf0 (fun _ _ => id)) (hB.frm hf0 (fun _ _ => id)) hla hlb h1 h2 (ha.frm hf0 (fun _ _ => id)) (hb.frm hf0 (fun _ _ => id)))
  have b0 := hb0.at_ 0 rfl
  have b1 := hb0.at_ 1 rfl
  have b2 := hb0.at_ 2 rfl
  have b3 := hb0.at_ 3 rfl
  have b4 := hb0.at_ 4 rfl
  clear hM hA hB hla hlb ha hb hn h1 h2
  generalize M.wanted ua ub = z at *
  generalize M.ex = ex at *
  generalize M.ou = ou at *
  generalize M.L.length = m at *
  go_enter Tryd.func97, Tryd.ntmps97
  go_wp2_with fail
  refine HW.out.mono ?_
  rintro e w1 ⟨rfl, hf1⟩
  go_wp2_with fail
  go_ret
  exact ⟨rfl, hf0.trans hf1⟩

end Go.Proofs.YtkjlgamggkencaaDoor
