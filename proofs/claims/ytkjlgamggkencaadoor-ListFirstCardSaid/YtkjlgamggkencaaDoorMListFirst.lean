/-
  The walk of ListFirst.
-/
import Derived.Test.YtkjlgamggkencaaDoorMLaw24
import Derived.Test.YtkjlgamggkencaaDoorMRowsA
import Derived.Test.YtkjlgamggkencaaDoorMArgC
namespace Go.Proofs.YtkjlgamggkencaaDoor
open Go.RowKit
set_option linter.unusedVariables false

set_option maxRecDepth 100000 in
set_option maxHeartbeats 2000000 in
theorem lfirst_any (P : Nat → Addr) (a0 a1 : Int) (A2 : Option Addr) (n2 c2 : Nat) (z2 : List Int) (hz2 : z2.length = n2) (x : Int) (ex : Bool) (A5 : Option Addr) (n5 c5 : Nat) (z5 : List Int) (hz5 : z5.length = n5) (A6 : Option Addr) (n6 c6 : Nat) (z6 : List Int) (hz6 : z6.length = n6) (y : Int) (w : World)
    (s2 : Sl w (fun k => k < w.heap.size) 1 (.slice A2 n2 c2) n2 (z2.map (.int .i64))) (s5 : Sl w (fun k => k < w.heap.size) 1 (.slice A5 n5 c5) n5 (z5.map (.int .i64))) (s6 : Sl w (fun k => k < w.heap.size) 1 (.slice A6 n6 c6) n6 (z6.map (.int .i64)))
    (hS : Sents L7 P w) (h2 : n2 ≤ 80) (h5 : n5 ≤ 10) (h6 : n6 ≤ 5) :
    Calls Tryd.prog 23 #[.int .i64 a0, .int .i64 a1, .slice A2 n2 c2, .int .i64 x, .bool ex, .slice A5 n5 c5, .slice A6 n6 c6, .int .i64 y] w fun e w' => e = .returned (.bool true) ∧ Frm (fun _ => False) w w' := by
  have t0 : decide ((80 : Int) < (n2 : Int)) = false := by simp; omega
  have t1 : decide ((10 : Int) < (n5 : Int)) = false := by simp; omega
  have t2 : decide ((5 : Int) < (n6 : Int)) = false := by simp; omega
  obtain ⟨ou, hou, hou6⟩ := modN a0
  obtain ⟨inn, hinn, hinn6⟩ := modN a1
  have HN0 := Lib.hid (fun (W : World) => number_any a0 7 W (by omega) (by omega))
  have HN1 := Lib.hid (fun (W : World) => number_any a1 7 W (by omega) (by omega))
  simp only [hou] at HN0
  simp only [hinn] at HN1
  clear hou hinn
  have HF := Lib.hid (first24_any P w hS)
  have HMA := Lib.hid (fun (W : World) (hf : Frm (fun _ => False) w W) => match_any ou inn A2 n2 c2 z2 hz2 x ex _ W (s2.frm hf (fun _ _ => id)) (by omega) (by omega) (by omega))
  have HMO := Lib.hid (fun (W : World) (hf : Frm (fun _ => False) w W) => moves_any A5 n5 c5 _ z5 inn W hz5 (by omega) (by omega) (s5.frm hf (fun _ _ => id)))
  have HMR := Lib.hid (fun (W : World) (hf : Frm (fun _ => False) w W) => moves_any A6 n6 c6 _ z6 inn W hz6 (by omega) (by omega) (s6.frm hf (fun _ _ => id)))
  have HVA := Lib.hid (fun (W : World) => values_any y ou (by omega) W)
  have hvl := mkVals_length y ou
  have hml : ∀ r ∈ mkMoves z5 inn, r.length = inn := by intro r hr; obtain ⟨q, _, rfl⟩ := List.mem_map.1 hr; exact mkVals_length _ _
  have hmr : ∀ r ∈ mkMoves z6 inn, r.length = inn := by intro r hr; obtain ⟨q, _, rfl⟩ := List.mem_map.1 hr; exact mkVals_length _ _
  have HVL := Lib.hid hvl
  have HML := Lib.hid hml
  have HMM := Lib.hid hmr
  clear hz2 hz5 hz6 s2 s5 s6 hS hvl hml hmr
  generalize mkMoves z5 inn = cs at *
  generalize mkMoves z6 inn = cs' at *
  generalize mkVals y ou = ua at *
  go_enter Tryd.func23, Tryd.ntmps23
  go_wp2_with fail
  refine HF.out.mono ?_
  rintro e w1 ⟨rfl, hf1⟩
  go_wp2_with fail
  refine (HN0.out _).mono ?_
  rintro e w' ⟨rfl, rfl⟩
  go_wp2_with fail
  refine (HN1.out _).mono ?_
  rintro e w' ⟨rfl, rfl⟩
  clear HF HN0 HN1
  go_wp2_with fail
  refine (HMA.out w1 hf1).mono ?_
  rintro e w2 ⟨M, v, rfl, -, rfl, rfl, hLl, hMok, ⟨n, A, c, B, d, hn, rfl, hA, hB⟩, hf2⟩
  have hfa := (Frm.refl (fun _ => False) w2).alloc (.cells #[.bool M.ex, .int .i64 M.ou, .int .i64 n, .slice A M.L.length c, .slice B 1 d] 104)
  have hb3 : Blk (w2.alloc (.cells #[.bool M.ex, .int .i64 M.ou, .int .i64 n, .slice A M.L.length c, .slice B 1 d] 104)) w2.heap.size 104 [.bool M.ex, .int .i64 M.ou, .int .i64 n, .slice A M.L.length c, .slice B 1 d] := Blk.new _ _ _
  have hA3 := (hA.mono (G := fun k => k < w2.heap.size) (fun k hk _ => hk)).frm hfa (fun _ _ => id)
  have hB3 := (hB.mono (G := fun k => k < w2.heap.size) (fun k hk _ => hk)).frm hfa (fun _ _ => id)
  have HNN := Lib.hid hn
  have hn20 : n ≤ 20 := by omega
  have hws := (hf1.trans hf2).size
  have hbas : w2.heap.size < (w2.alloc (.cells #[.bool M.ex, .int .i64 M.ou, .int .i64 n, .slice A M.L.length c, .slice B 1 d] 104)).heap.size := by simp
  have hf3 := (hf1.trans hf2).trans hfa
  simp only [mtv]
  clear HMA hA hB hf1 hf2 hfa hn
  go_wp2_with fail
  refine (HMO.out _ hf3).mono ?_
  rintro e w4 ⟨v, rfl, hRO, hf4⟩
  obtain ⟨Av, cv', rfl, hcv, _⟩ := hRO.form
  have hf04 := hf3.trans hf4
  have hs4 := hf4.size
  have hb4 := hb3.frm hf4 id
  have hA4 := hA3.frm hf4 (fun _ _ => id)
  have hB4 := hB3.frm hf4 (fun _ _ => id)
  clear HMO hb3 hA3 hB3 hf3 hf4
  generalize (w2.alloc (.cells #[.bool M.ex, .int .i64 M.ou, .int .i64 n, .slice A M.L.length c, .slice B 1 d] 104)).heap.size = base at *
  go_wp2_with fail
  refine (HVA.out w4).mono ?_
  rintro e w5 ⟨Aa, ca, rfl, hown5, hf5⟩
  have hRO5 := hRO.frm hf5 (fun _ _ => id)
  have hsl5 := (own_sl hown5).mono (G := fun k => w4.heap.size ≤ k) (fun k _ h => h.1)
  have hs5 := hf5.size
  have hA5 := hA4.frm hf5 (fun _ _ => id)
  have hB5 := hB4.frm hf5 (fun _ _ => id)
  have hb5 := hb4.frm hf5 id
  have hf05 := hf04.trans hf5
  have hown6 : ∀ g, (Value.slice Av n5 cv').ownBlock = some g → base ≤ g ∧ g < w4.heap.size := by obtain ⟨_, _, h, _⟩ := hRO; exact h.lt
  have hR5 := hRO5.rw
  have hkl := hR5.1
  clear hRO hown5 hA4 hB4 hb4 hf04 hf5 HVA
  have HCH := Lib.hid (choose_any hMok n HNN.out A c B d _ _ _ Aa M.ou ca ua Av n5 cv' cs w5 (by omega) (by omega) (by omega) (hA5.mono (G := fun _ => True) (fun _ _ _ => trivial)) (hB5.mono (G := fun _ => True) (fun _ _ _ => trivial)) HVL.out rfl HML.out hsl5 hR5)
  have HBE := Lib.hid (fun (W : World) (hf : Frm (fun _ => False) w5 W) (j : Nat) (hj : j < n5) (B' : Option Addr) (d' : Nat) (F : Nat → Prop) (hs : Sl W F 1 (.slice B' (cs.getD j []).length d') (cs.getD j []).length ((cs.getD j []).map .bool)) =>
    beats_any hMok n HNN.out A c B d _ _ F Aa M.ou ca ua B' (cs.getD j []).length d' (cs.getD j []) W (by omega) (by omega) ((hA5.mono (G := fun _ => True) (fun _ _ _ => trivial)).frm hf (fun _ _ => id)) ((hB5.mono (G := fun _ => True) (fun _ _ _ => trivial)).frm hf (fun _ _ => id)) HVL.out rfl rfl (HML.out _ (by simp [List.getD, show j < cs.length by omega])) (hsl5.frm hf (fun _ _ => id)) hs)
  have hsp := choose_spec M ua cs
  have hcm := fun (k : Nat) (h : M.choose ua cs = k) => choose_more cs' h
  have HSP := Lib.hid hsp
  have HCM := Lib.hid hcm
  have HKL := Lib.hid hkl
  clear hsp hcm hkl
  have q0 := hb5.at_ 0 rfl
  have q1 := hb5.at_ 1 rfl
  have q2 := hb5.at_ 2 rfl
  have q3 := hb5.at_ 3 rfl
  have q4 := hb5.at_ 4 rfl
  go_wp2_with fail
  refine HCH.out.mono ?_
  rintro e w6 ⟨rfl, hf6⟩
  obtain ⟨kk, hkk⟩ : ∃ kk, M.choose ua cs = kk := ⟨_, rfl⟩
  have hsp := HSP.out
  rw [hkk] at hsp ⊢
  have HKK := Lib.hid hkk
  clear hkk HCH HSP q0 q1 q2 q3 q4
  have HSP := Lib.hid hsp
  clear hsp
  go_wp2_with fail
  have HCH2 := Lib.hid (fun (W : World) (S : Nat → Prop) (hf : Frm S w5 W) (hSd : ∀ g, S g → base ≤ g ∧ g < w4.heap.size) (Av' : Option Addr) (c' : Nat) (hR : RwB W (fun k => base ≤ k) (.slice Av' (n5 + n6) c') (n5 + n6) (cs ++ cs')) =>
    choose_any hMok n HNN.out A c B d _ _ _ Aa M.ou ca ua Av' (n5 + n6) c' (cs ++ cs') W (by omega) (by omega) (by omega) ((hA5.mono (G := fun k => k < w2.heap.size) (fun k _ h => h)).frm hf (fun k hk e => by have := hSd k e; omega)) ((hB5.mono (G := fun k => k < w2.heap.size) (fun k _ h => h)).frm hf (fun k hk e => by have := hSd k e; omega)) HVL.out rfl (fun r hr => by rcases List.mem_append.1 hr with h | h; exact HML.out r h; exact HMM.out r h) (hsl5.frm hf (fun k hk e => by have := hSd k e; omega)) hR)
  have hf06 := hf05.trans hf6
  have hb6 := hb5.frm hf6 id
  have hRO6 := hRO5.frm hf6 (fun _ _ => id)
  have hR6 := hRO6.rw
  have hs6 := hf6.size
  clear hA5 hB5 hsl5 hRO5 hR5 hb5 hf05
  go_loopw [22] (fun iv wr => ∃ (j : Nat), j ≤ n5 ∧ iv = .int .i64 (j : Int) ∧ Frm (fun _ => False) w6 wr) (fun iv _ => n5 - (intOf iv).toNat)
  case atStart => exact ⟨0, by omega, rfl, Frm.refl _ _⟩
  case round =>
    obtain ⟨j, hj, rfl, hfj⟩ := hrel
    have hbj := hb6.frm hfj id
    by_cases hlt : j < n5
    · obtain ⟨b, o, B', d', e0, _, hc, hs⟩ := (hR6.frm hfj (fun _ _ => id)).at_ hlt
      subst e0
      have HBJ := Lib.hid (fun (W : World) (hf : Frm (fun _ => False) wr W) => HBE.out W ((hf6.trans hfj).trans hf) j hlt B' d' _ (hs.frm hf (fun _ _ => id)))
      have hz : (kk < 0 ∧ (!(M.wanted ua (cs.getD j []))) = false) ∨ (0 ≤ kk ∧ (j : Int) < kk ∧ (!(M.wanted ua (cs.getD j []))) = false) ∨ (kk = j ∧ (!(M.wanted ua (cs.getD j []))) = true) ∨ (0 ≤ kk ∧ kk < j) := by
        rcases HSP.out with ⟨h1, h2⟩ | ⟨k, h1, h2, h3, h4⟩
        · left; exact ⟨by omega, by rw [h2 j (by rw [HKL.out]; exact hlt)]; rfl⟩
        · rcases Nat.lt_trichotomy j k with h | h | h
          · exact .inr (.inl ⟨by omega, by omega, by rw [h4 j h]; rfl⟩)
          · subst h; exact .inr (.inr (.inl ⟨h2, by rw [h3]; rfl⟩))
          · exact .inr (.inr (.inr ⟨by omega, by omega⟩))
      have HZ := Lib.hid hz
      clear hz hs HBE
      generalize (!(M.wanted ua (cs.getD j []))) = z at *
      generalize (cs.getD j []).length = len at *
      have j0 : (0 : Int) ≤ j := by omega
      have j1 : (j : Int) < n5 := by omega
      have hH0 : wr.drew.cell? ⟨w2.heap.size, 0, none⟩ = some (.bool M.ex) ∧ wr.drew.cell? ⟨w2.heap.size, 1, none⟩ = some (.int .i64 (M.ou : Int)) ∧ wr.drew.cell? ⟨w2.heap.size, 2, none⟩ = some (.int .i64 (n : Int)) ∧ wr.drew.cell? ⟨w2.heap.size, 3, none⟩ = some (.slice A M.L.length c) ∧ wr.drew.cell? ⟨w2.heap.size, 4, none⟩ = some (.slice B 1 d) ∧ wr.drew.cell? ⟨b, o + j, none⟩ = some (.slice B' len d') := ⟨hbj.at_ 0 rfl, hbj.at_ 1 rfl, hbj.at_ 2 rfl, hbj.at_ 3 rfl, hbj.at_ 4 rfl, hc⟩
      have HH := Lib.hid (fun (W W' : World) (hf : Frm (fun _ => False) W W') (h : W.cell? ⟨w2.heap.size, 0, none⟩ = some (.bool M.ex) ∧ W.cell? ⟨w2.heap.size, 1, none⟩ = some (.int .i64 (M.ou : Int)) ∧ W.cell? ⟨w2.heap.size, 2, none⟩ = some (.int .i64 (n : Int)) ∧ W.cell? ⟨w2.heap.size, 3, none⟩ = some (.slice A M.L.length c) ∧ W.cell? ⟨w2.heap.size, 4, none⟩ = some (.slice B 1 d) ∧ W.cell? ⟨b, o + j, none⟩ = some (.slice B' len d')) => show W'.cell? ⟨w2.heap.size, 0, none⟩ = some (.bool M.ex) ∧ W'.cell? ⟨w2.heap.size, 1, none⟩ = some (.int .i64 (M.ou : Int)) ∧ W'.cell? ⟨w2.heap.size, 2, none⟩ = some (.int .i64 (n : Int)) ∧ W'.cell? ⟨w2.heap.size, 3, none⟩ = some (.slice A M.L.length c) ∧ W'.cell? ⟨w2.heap.size, 4, none⟩ = some (.slice B 1 d) ∧ W'.cell? ⟨b, o + j, none⟩ = some (.slice B' len d') from ⟨hf.cell h.1 id, hf.cell h.2.1 id, hf.cell h.2.2.1 id, hf.cell h.2.2.2.1 id, hf.cell h.2.2.2.2.1 id, hf.cell h.2.2.2.2.2 id⟩)
      clear hc
      go_wp2_with fail
      have hHeld := hH0
      refine Held.begin (fun w' => w'.cell? ⟨w2.heap.size, 0, none⟩ = some (.bool M.ex) ∧ w'.cell? ⟨w2.heap.size, 1, none⟩ = some (.int .i64 (M.ou : Int)) ∧ w'.cell? ⟨w2.heap.size, 2, none⟩ = some (.int .i64 (n : Int)) ∧ w'.cell? ⟨w2.heap.size, 3, none⟩ = some (.slice A M.L.length c) ∧ w'.cell? ⟨w2.heap.size, 4, none⟩ = some (.slice B 1 d) ∧ w'.cell? ⟨b, o + j, none⟩ = some (.slice B' len d')) 7 (by kernel_rfl) ?_
      refine Held.take (i := 0) (oi := ?oa0) (v := ?va0) ?hia0 (by kernel_rfl) (by kernel_rfl) (by kernel_rfl) (by kernel_rfl) (fun _ _ _ h => h) (Or.inl ⟨?hwa0, ?hya0⟩) (by assumption) ?resta0
      case hia0 => (simp only [List.getElem?_toArray, List.getElem?_cons_zero]; rfl)
      case hwa0 => rfl
      case hya0 => (intro w hSw; (try dsimp only at hSw); go_simp; try with_reducible rfl)
      (try simp only [Act.put, List.setIfInBounds_toArray, List.set_cons_zero, List.set_cons_succ])
      refine Held.take (i := 1) (oi := ?oa1) (v := ?va1) ?hia1 (by kernel_rfl) (by kernel_rfl) (by kernel_rfl) (by kernel_rfl) (fun _ _ _ h => h) (Or.inl ⟨?hwa1, ?hya1⟩) (by assumption) ?resta1
      case hia1 => (simp only [List.getElem?_toArray, List.getElem?_cons_succ, List.getElem?_cons_zero]; rfl)
      case hwa1 => rfl
      case hya1 => (intro w hSw; (try dsimp only at hSw); go_simp; try with_reducible rfl)
      (try simp only [Act.put, List.setIfInBounds_toArray, List.set_cons_zero, List.set_cons_succ])
      refine Held.take (i := 2) (oi := ?oa2) (v := ?va2) ?hia2 (by kernel_rfl) (by kernel_rfl) (by kernel_rfl) (by kernel_rfl) (fun _ _ _ h => h) (Or.inl ⟨?hwa2, ?hya2⟩) (by assumption) ?resta2
      case hia2 => (simp only [List.getElem?_toArray, List.getElem?_cons_succ, List.getElem?_cons_zero]; rfl)
      case hwa2 => rfl
      case hya2 => (intro w hSw; (try dsimp only at hSw); go_simp; try with_reducible rfl)
      (try simp only [Act.put, List.setIfInBounds_toArray, List.set_cons_zero, List.set_cons_succ])
      refine Held.take (i := 3) (oi := ?oa3) (v := ?va3) ?hia3 (by kernel_rfl) (by kernel_rfl) (by kernel_rfl) (by kernel_rfl) (fun _ _ _ h => h) (Or.inl ⟨?hwa3, ?hya3⟩) (by assumption) ?resta3
      case hia3 => (simp only [List.getElem?_toArray, List.getElem?_cons_succ, List.getElem?_cons_zero]; rfl)
      case hwa3 => rfl
      case hya3 => (intro w hSw; (try dsimp only at hSw); go_simp; try with_reducible rfl)
      (try simp only [Act.put, List.setIfInBounds_toArray, List.set_cons_zero, List.set_cons_succ])
      refine Held.take (i := 4) (oi := ?oa4) (v := ?va4) ?hia4 (by kernel_rfl) (by kernel_rfl) (by kernel_rfl) (by kernel_rfl) (fun _ _ _ h => h) (Or.inl ⟨?hwa4, ?hya4⟩) (by assumption) ?resta4
      case hia4 => (simp only [List.getElem?_toArray, List.getElem?_cons_succ, List.getElem?_cons_zero]; rfl)
      case hwa4 => rfl
      case hya4 => (intro w hSw; (try dsimp only at hSw); go_simp; try with_reducible rfl)
      (try simp only [Act.put, List.setIfInBounds_toArray, List.set_cons_zero, List.set_cons_succ])
      refine Held.take (i := 5) (oi := ?oa5) (v := ?va5) ?hia5 (by kernel_rfl) (by kernel_rfl) (by kernel_rfl) (by kernel_rfl) (fun _ _ _ h => h) (Or.inl ⟨?hwa5, ?hya5⟩) (by assumption) ?resta5
      case hia5 => (simp only [List.getElem?_toArray, List.getElem?_cons_succ, List.getElem?_cons_zero]; rfl)
      case hwa5 => rfl
      case hya5 => (intro w hSw; (try dsimp only at hSw); go_simp; try with_reducible rfl)
      (try simp only [Act.put, List.setIfInBounds_toArray, List.set_cons_zero, List.set_cons_succ])
      refine Held.next (i := 6) (o := ?oa6) (by kernel_rfl) ?hia6 (fun K hK => ?sta6)
      case hia6 => (simp only [List.getElem?_toArray, List.getElem?_cons_succ, List.getElem?_cons_zero]; rfl)
      go_simp
      (go_at_call 97; refine (HBJ.out _ ((Frm.refl _ _).drewN 1)).mono ?_; rintro e w8 ⟨rfl, hf8⟩)
      (try go_wp2_with fail)
      refine hK.out _ _ (fun _ => by exact HH.out _ _ hf8 hHeld) ?_
      clear hK K
      (try simp only [Act.put, List.setIfInBounds_toArray, List.set_cons_zero, List.set_cons_succ])
      refine Held.next (i := 7) (o := ?oa7) (by kernel_rfl) ?hia7 (fun K hK => ?sta7)
      case hia7 => (simp only [List.getElem?_toArray, List.getElem?_cons_succ, List.getElem?_cons_zero]; rfl)
      go_simp
      refine hK.out _ _ (fun h => absurd h (by decide)) ?_
      clear hK K
      (try simp only [Act.put, List.setIfInBounds_toArray, List.set_cons_zero, List.set_cons_succ])
      refine Held.done (by kernel_rfl) ?_ _
      refine NoPanic.normal ?_
      have hf68 := (hfj.drewN 1).trans hf8
      clear hH0 hHeld HH HBJ hf8
      rcases HZ.out with ⟨h1, rfl⟩ | ⟨h1, h2, rfl⟩ | ⟨rfl, rfl⟩ | ⟨h1, h2⟩
      · have e1 : ¬ (j : Int) < kk := by omega
        have e2 : ((j : Int) == kk) = false := by simp; omega
        go_wp2_with fail
        go_roundw
        case rel => exact ⟨j + 1, by omega, by go_num, hf68⟩
        case measure => simp [intOf]; omega
      · have e1 : ¬ kk < 0 := by omega
        have e2 : ((j : Int) == kk) = false := by simp; omega
        go_wp2_with fail
        go_roundw
        case rel => exact ⟨j + 1, by omega, by go_num, hf68⟩
        case measure => simp [intOf]; omega
      · have e1 : ¬ (j : Int) < 0 := by omega
        have e2 : ¬ (j : Int) < j := by omega
        go_wp2_with fail
        go_roundw
        case rel => exact ⟨j + 1, by omega, by go_num, hf68⟩
        case measure => simp [intOf]; omega
      · have e0 : ¬ kk < 0 := by omega
        have e1 : ¬ (j : Int) < kk := by omega
        have e2 : ((j : Int) == kk) = false := by simp; omega
        go_wp2_with fail
        go_roundw
        case rel => exact ⟨j + 1, by omega, by go_num, hf68⟩
        case measure => simp [intOf]; omega
    · obtain rfl : j = n5 := by omega
      have hkb : kk = -1 ∨ ∃ k : Nat, kk = k ∧ k < j := by
        rcases HSP.out with ⟨h1, _⟩ | ⟨k, h1, h2, _⟩
        · exact .inl (by omega)
        · exact .inr ⟨k, by omega, by have := HKL.out; omega⟩
      rcases hkb with rfl | ⟨k, rfl, hk⟩
      · have e1 : (-1 : Int) < j := by omega
        have hH0 : True := trivial
        have hfin := (hf06.trans hfj).drewN 1
        go_wp2_with fail
        have hHeld := hH0
        refine Held.begin (fun w' => True) 27 (by kernel_rfl) ?_
        refine Held.take (i := 0) (oi := ?ob0) (v := ?vb0) ?hib0 (by kernel_rfl) (by kernel_rfl) (by kernel_rfl) (by kernel_rfl) (fun _ _ _ h => h) (Or.inl ⟨?hwb0, ?hyb0⟩) (by assumption) ?restb0
        case hib0 => (simp only [List.getElem?_toArray, List.getElem?_cons_zero]; rfl)
        case hwb0 => rfl
        case hyb0 => (intro w hSw; (try dsimp only at hSw); go_simp; try with_reducible rfl)
        (try simp only [Act.put, List.setIfInBounds_toArray, List.set_cons_zero, List.set_cons_succ])
        refine Held.take (i := 1) (oi := ?ob1) (v := ?vb1) ?hib1 (by kernel_rfl) (by kernel_rfl) (by kernel_rfl) (by kernel_rfl) (fun _ _ _ h => h) (Or.inl ⟨?hwb1, ?hyb1⟩) (by assumption) ?restb1
        case hib1 => (simp only [List.getElem?_toArray, List.getElem?_cons_succ, List.getElem?_cons_zero]; rfl)
        case hwb1 => rfl
        case hyb1 => (intro w hSw; (try dsimp only at hSw); go_simp; try with_reducible rfl)
        (try simp only [Act.put, List.setIfInBounds_toArray, List.set_cons_zero, List.set_cons_succ])
        refine Held.take (i := 2) (oi := ?ob2) (v := ?vb2) ?hib2 (by kernel_rfl) (by kernel_rfl) (by kernel_rfl) (by kernel_rfl) (fun _ _ _ h => h) (Or.inl ⟨?hwb2, ?hyb2⟩) (by assumption) ?restb2
        case hib2 => (simp only [List.getElem?_toArray, List.getElem?_cons_succ, List.getElem?_cons_zero]; rfl)
        case hwb2 => rfl
        case hyb2 => (intro w hSw; (try dsimp only at hSw); go_simp; try with_reducible rfl)
        (try simp only [Act.put, List.setIfInBounds_toArray, List.set_cons_zero, List.set_cons_succ])
        refine Held.take (i := 3) (oi := ?ob3) (v := ?vb3) ?hib3 (by kernel_rfl) (by kernel_rfl) (by kernel_rfl) (by kernel_rfl) (fun _ _ _ h => h) (Or.inl ⟨?hwb3, ?hyb3⟩) (by assumption) ?restb3
        case hib3 => (simp only [List.getElem?_toArray, List.getElem?_cons_succ, List.getElem?_cons_zero]; rfl)
        case hwb3 => rfl
        case hyb3 => (intro w hSw; (try dsimp only at hSw); go_simp; try with_reducible rfl)
        (try simp only [Act.put, List.setIfInBounds_toArray, List.set_cons_zero, List.set_cons_succ])
        refine Held.take (i := 4) (oi := ?ob4) (v := ?vb4) ?hib4 (by kernel_rfl) (by kernel_rfl) (by kernel_rfl) (by kernel_rfl) (fun _ _ _ h => h) (Or.inl ⟨?hwb4, ?hyb4⟩) (by assumption) ?restb4
        case hib4 => (simp only [List.getElem?_toArray, List.getElem?_cons_succ, List.getElem?_cons_zero]; rfl)
        case hwb4 => rfl
        case hyb4 => (intro w hSw; (try dsimp only at hSw); go_simp; try with_reducible rfl)
        (try simp only [Act.put, List.setIfInBounds_toArray, List.set_cons_zero, List.set_cons_succ])
        refine Held.take (i := 5) (oi := ?ob5) (v := ?vb5) ?hib5 (by kernel_rfl) (by kernel_rfl) (by kernel_rfl) (by kernel_rfl) (fun _ _ _ h => h) (Or.inl ⟨?hwb5, ?hyb5⟩) (by assumption) ?restb5
        case hib5 => (simp only [List.getElem?_toArray, List.getElem?_cons_succ, List.getElem?_cons_zero]; rfl)
        case hwb5 => rfl
        case hyb5 => (intro w hSw; (try dsimp only at hSw); go_simp; try with_reducible rfl)
        (try simp only [Act.put, List.setIfInBounds_toArray, List.set_cons_zero, List.set_cons_succ])
        refine Held.take (i := 6) (oi := ?ob6) (v := ?vb6) ?hib6 (by kernel_rfl) (by kernel_rfl) (by kernel_rfl) (by kernel_rfl) (fun _ _ _ h => h) (Or.inl ⟨?hwb6, ?hyb6⟩) (by assumption) ?restb6
        case hib6 => (simp only [List.getElem?_toArray, List.getElem?_cons_succ, List.getElem?_cons_zero]; rfl)
        case hwb6 => rfl
        case hyb6 => (intro w hSw; (try dsimp only at hSw); go_simp; try with_reducible rfl)
        (try simp only [Act.put, List.setIfInBounds_toArray, List.set_cons_zero, List.set_cons_succ])
        refine Held.take (i := 7) (oi := ?ob7) (v := ?vb7) ?hib7 (by kernel_rfl) (by kernel_rfl) (by kernel_rfl) (by kernel_rfl) (fun _ _ _ h => h) (Or.inl ⟨?hwb7, ?hyb7⟩) (by assumption) ?restb7
        case hib7 => (simp only [List.getElem?_toArray, List.getElem?_cons_succ, List.getElem?_cons_zero]; rfl)
        case hwb7 => rfl
        case hyb7 => (intro w hSw; (try dsimp only at hSw); go_simp; try with_reducible rfl)
        (try simp only [Act.put, List.setIfInBounds_toArray, List.set_cons_zero, List.set_cons_succ])
        refine Held.take (i := 8) (oi := ?ob8) (v := ?vb8) ?hib8 (by kernel_rfl) (by kernel_rfl) (by kernel_rfl) (by kernel_rfl) (fun _ _ _ h => h) (Or.inl ⟨?hwb8, ?hyb8⟩) (by assumption) ?restb8
        case hib8 => (simp only [List.getElem?_toArray, List.getElem?_cons_succ, List.getElem?_cons_zero]; rfl)
        case hwb8 => rfl
        case hyb8 => (intro w hSw; (try dsimp only at hSw); go_simp; try with_reducible rfl)
        (try simp only [Act.put, List.setIfInBounds_toArray, List.set_cons_zero, List.set_cons_succ])
        refine Held.take (i := 9) (oi := ?ob9) (v := ?vb9) ?hib9 (by kernel_rfl) (by kernel_rfl) (by kernel_rfl) (by kernel_rfl) (fun _ _ _ h => h) (Or.inl ⟨?hwb9, ?hyb9⟩) (by assumption) ?restb9
        case hib9 => (simp only [List.getElem?_toArray, List.getElem?_cons_succ, List.getElem?_cons_zero]; rfl)
        case hwb9 => rfl
        case hyb9 => (intro w hSw; (try dsimp only at hSw); go_simp; try with_reducible rfl)
        (try simp only [Act.put, List.setIfInBounds_toArray, List.set_cons_zero, List.set_cons_succ])
        refine Held.take (i := 10) (oi := ?ob10) (v := ?vb10) ?hib10 (by kernel_rfl) (by kernel_rfl) (by kernel_rfl) (by kernel_rfl) (fun _ _ _ h => h) (Or.inl ⟨?hwb10, ?hyb10⟩) (by assumption) ?restb10
        case hib10 => (simp only [List.getElem?_toArray, List.getElem?_cons_succ, List.getElem?_cons_zero]; rfl)
        case hwb10 => rfl
        case hyb10 => (intro w hSw; (try dsimp only at hSw); go_simp; try with_reducible rfl)
        (try simp only [Act.put, List.setIfInBounds_toArray, List.set_cons_zero, List.set_cons_succ])
        refine Held.take (i := 11) (oi := ?ob11) (v := ?vb11) ?hib11 (by kernel_rfl) (by kernel_rfl) (by kernel_rfl) (by kernel_rfl) (fun _ _ _ h => h) (Or.inl ⟨?hwb11, ?hyb11⟩) (by assumption) ?restb11
        case hib11 => (simp only [List.getElem?_toArray, List.getElem?_cons_succ, List.getElem?_cons_zero]; rfl)
        case hwb11 => rfl
        case hyb11 => (intro w hSw; (try dsimp only at hSw); go_simp; try with_reducible rfl)
        (try simp only [Act.put, List.setIfInBounds_toArray, List.set_cons_zero, List.set_cons_succ])
        refine Held.take (i := 12) (oi := ?ob12) (v := ?vb12) ?hib12 (by kernel_rfl) (by kernel_rfl) (by kernel_rfl) (by kernel_rfl) (fun _ _ _ h => h) (Or.inl ⟨?hwb12, ?hyb12⟩) (by assumption) ?restb12
        case hib12 => (simp only [List.getElem?_toArray, List.getElem?_cons_succ, List.getElem?_cons_zero]; rfl)
        case hwb12 => rfl
        case hyb12 => (intro w hSw; (try dsimp only at hSw); go_simp; try with_reducible rfl)
        (try simp only [Act.put, List.setIfInBounds_toArray, List.set_cons_zero, List.set_cons_succ])
        refine Held.take (i := 13) (oi := ?ob13) (v := ?vb13) ?hib13 (by kernel_rfl) (by kernel_rfl) (by kernel_rfl) (by kernel_rfl) (fun _ _ _ h => h) (Or.inl ⟨?hwb13, ?hyb13⟩) (by assumption) ?restb13
        case hib13 => (simp only [List.getElem?_toArray, List.getElem?_cons_succ, List.getElem?_cons_zero]; rfl)
        case hwb13 => rfl
        case hyb13 => (intro w hSw; (try dsimp only at hSw); go_simp; try with_reducible rfl)
        (try simp only [Act.put, List.setIfInBounds_toArray, List.set_cons_zero, List.set_cons_succ])
        refine Held.take (i := 14) (oi := ?ob14) (v := ?vb14) ?hib14 (by kernel_rfl) (by kernel_rfl) (by kernel_rfl) (by kernel_rfl) (fun _ _ _ h => h) (Or.inl ⟨?hwb14, ?hyb14⟩) (by assumption) ?restb14
        case hib14 => (simp only [List.getElem?_toArray, List.getElem?_cons_succ, List.getElem?_cons_zero]; rfl)
        case hwb14 => rfl
        case hyb14 => (intro w hSw; (try dsimp only at hSw); go_simp; try with_reducible rfl)
        (try simp only [Act.put, List.setIfInBounds_toArray, List.set_cons_zero, List.set_cons_succ])
        refine Held.take (i := 15) (oi := ?ob15) (v := undef) ?hib15 (by kernel_rfl) (by kernel_rfl) (by kernel_rfl) (by kernel_rfl) (fun _ _ _ h => h) (Or.inr ⟨?hwb15, rfl⟩) (by assumption) ?restb15
        case hib15 => (simp only [List.getElem?_toArray, List.getElem?_cons_succ, List.getElem?_cons_zero]; rfl)
        case hwb15 => rfl
        (try simp only [Act.put, List.setIfInBounds_toArray, List.set_cons_zero, List.set_cons_succ])
        refine Held.take (i := 16) (oi := ?ob16) (v := undef) ?hib16 (by kernel_rfl) (by kernel_rfl) (by kernel_rfl) (by kernel_rfl) (fun _ _ _ h => h) (Or.inr ⟨?hwb16, rfl⟩) (by assumption) ?restb16
        case hib16 => (simp only [List.getElem?_toArray, List.getElem?_cons_succ, List.getElem?_cons_zero]; rfl)
        case hwb16 => rfl
        (try simp only [Act.put, List.setIfInBounds_toArray, List.set_cons_zero, List.set_cons_succ])
        refine Held.take (i := 17) (oi := ?ob17) (v := undef) ?hib17 (by kernel_rfl) (by kernel_rfl) (by kernel_rfl) (by kernel_rfl) (fun _ _ _ h => h) (Or.inr ⟨?hwb17, rfl⟩) (by assumption) ?restb17
        case hib17 => (simp only [List.getElem?_toArray, List.getElem?_cons_succ, List.getElem?_cons_zero]; rfl)
        case hwb17 => rfl
        (try simp only [Act.put, List.setIfInBounds_toArray, List.set_cons_zero, List.set_cons_succ])
        refine Held.take (i := 18) (oi := ?ob18) (v := undef) ?hib18 (by kernel_rfl) (by kernel_rfl) (by kernel_rfl) (by kernel_rfl) (fun _ _ _ h => h) (Or.inr ⟨?hwb18, rfl⟩) (by assumption) ?restb18
        case hib18 => (simp only [List.getElem?_toArray, List.getElem?_cons_succ, List.getElem?_cons_zero]; rfl)
        case hwb18 => rfl
        (try simp only [Act.put, List.setIfInBounds_toArray, List.set_cons_zero, List.set_cons_succ])
        refine Held.take (i := 19) (oi := ?ob19) (v := undef) ?hib19 (by kernel_rfl) (by kernel_rfl) (by kernel_rfl) (by kernel_rfl) (fun _ _ _ h => h) (Or.inr ⟨?hwb19, rfl⟩) (by assumption) ?restb19
        case hib19 => (simp only [List.getElem?_toArray, List.getElem?_cons_succ, List.getElem?_cons_zero]; rfl)
        case hwb19 => rfl
        (try simp only [Act.put, List.setIfInBounds_toArray, List.set_cons_zero, List.set_cons_succ])
        refine Held.take (i := 23) (oi := ?ob23) (v := undef) ?hib23 (by kernel_rfl) (by kernel_rfl) (by kernel_rfl) (by kernel_rfl) (fun _ _ _ h => h) (Or.inr ⟨?hwb23, rfl⟩) (by assumption) ?restb23
        case hib23 => (simp only [List.getElem?_toArray, List.getElem?_cons_succ, List.getElem?_cons_zero]; rfl)
        case hwb23 => rfl
        (try simp only [Act.put, List.setIfInBounds_toArray, List.set_cons_zero, List.set_cons_succ])
        refine Held.next (i := 20) (o := ?ob20) (by kernel_rfl) ?hib20 (fun K hK => ?stb20)
        case hib20 => (simp only [List.getElem?_toArray, List.getElem?_cons_succ, List.getElem?_cons_zero]; rfl)
        go_simp
        refine hK.out _ _ (fun _ => by trivial) ?_
        clear hK K
        (try simp only [Act.put, List.setIfInBounds_toArray, List.set_cons_zero, List.set_cons_succ])
        refine Held.next (i := 21) (o := ?ob21) (by kernel_rfl) ?hib21 (fun K hK => ?stb21)
        case hib21 => (simp only [List.getElem?_toArray, List.getElem?_cons_succ, List.getElem?_cons_zero]; rfl)
        go_simp
        refine hK.out _ _ (fun _ => by trivial) ?_
        clear hK K
        (try simp only [Act.put, List.setIfInBounds_toArray, List.set_cons_zero, List.set_cons_succ])
        refine Held.next (i := 22) (o := ?ob22) (by kernel_rfl) ?hib22 (fun K hK => ?stb22)
        case hib22 => (simp only [List.getElem?_toArray, List.getElem?_cons_succ, List.getElem?_cons_zero]; rfl)
        go_simp
        refine hK.out _ _ (fun _ => by trivial) ?_
        clear hK K
        (try simp only [Act.put, List.setIfInBounds_toArray, List.set_cons_zero, List.set_cons_succ])
        refine Held.take (i := 24) (oi := ?ob24) (v := undef) ?hib24 (by kernel_rfl) (by kernel_rfl) (by kernel_rfl) (by kernel_rfl) (fun _ _ _ h => h) (Or.inr ⟨?hwb24, rfl⟩) (by assumption) ?restb24
        case hib24 => (simp only [List.getElem?_toArray, List.getElem?_cons_succ, List.getElem?_cons_zero]; rfl)
        case hwb24 => rfl
        (try simp only [Act.put, List.setIfInBounds_toArray, List.set_cons_zero, List.set_cons_succ])
        refine Held.take (i := 25) (oi := ?ob25) (v := ?vb25) ?hib25 (by kernel_rfl) (by kernel_rfl) (by kernel_rfl) (by kernel_rfl) (fun _ _ _ h => h) (Or.inl ⟨?hwb25, ?hyb25⟩) (by assumption) ?restb25
        case hib25 => (simp only [List.getElem?_toArray, List.getElem?_cons_succ, List.getElem?_cons_zero]; rfl)
        case hwb25 => rfl
        case hyb25 => (intro w hSw; (try dsimp only at hSw); go_simp; try with_reducible rfl)
        (try simp only [Act.put, List.setIfInBounds_toArray, List.set_cons_zero, List.set_cons_succ])
        refine Held.take (i := 26) (oi := ?ob26) (v := ?vb26) ?hib26 (by kernel_rfl) (by kernel_rfl) (by kernel_rfl) (by kernel_rfl) (fun _ _ _ h => h) (Or.inl ⟨?hwb26, ?hyb26⟩) (by assumption) ?restb26
        case hib26 => (simp only [List.getElem?_toArray, List.getElem?_cons_succ, List.getElem?_cons_zero]; rfl)
        case hwb26 => rfl
        case hyb26 => (intro w hSw; (try dsimp only at hSw); go_simp; try with_reducible rfl)
        (try simp only [Act.put, List.setIfInBounds_toArray, List.set_cons_zero, List.set_cons_succ])
        refine Held.next (i := 27) (o := ?ob27) (by kernel_rfl) ?hib27 (fun K hK => ?stb27)
        case hib27 => (simp only [List.getElem?_toArray, List.getElem?_cons_succ, List.getElem?_cons_zero]; rfl)
        go_simp
        refine hK.out _ _ (fun h => absurd h (by decide)) ?_
        clear hK K
        (try simp only [Act.put, List.setIfInBounds_toArray, List.set_cons_zero, List.set_cons_succ])
        refine Held.done (by kernel_rfl) ?_ _
        refine NoPanic.normal ?_
        go_wp2_with fail
        go_ret
        exact ⟨rfl, hfin⟩
      · have e1 : (k : Int) < j := by omega
        have e2 : ¬ (k : Int) < 0 := by omega
        have e3 : (-1 : Int) ≤ k := by omega
        have hsj := hfj.size
        have hROj := hRO6.frm hfj (fun _ _ => id)
        have hown7 := hown6
        have hmore := HCM.out k HKK.out
        rw [hmore] at HCH2
        have hfd := (hf06.trans hfj).drewN 1
        have hH0 : wr.drew.cell? ⟨w2.heap.size, 0, none⟩ = some (.bool M.ex) ∧ wr.drew.cell? ⟨w2.heap.size, 1, none⟩ = some (.int .i64 (M.ou : Int)) ∧ wr.drew.cell? ⟨w2.heap.size, 2, none⟩ = some (.int .i64 (n : Int)) ∧ wr.drew.cell? ⟨w2.heap.size, 3, none⟩ = some (.slice A M.L.length c) ∧ wr.drew.cell? ⟨w2.heap.size, 4, none⟩ = some (.slice B 1 d) := ⟨hbj.at_ 0 rfl, hbj.at_ 1 rfl, hbj.at_ 2 rfl, hbj.at_ 3 rfl, hbj.at_ 4 rfl⟩
        have HH := Lib.hid (fun (W W' : World) (S : Nat → Prop) (hf : Frm S W W') (hS : ¬ S w2.heap.size) (h : W.cell? ⟨w2.heap.size, 0, none⟩ = some (.bool M.ex) ∧ W.cell? ⟨w2.heap.size, 1, none⟩ = some (.int .i64 (M.ou : Int)) ∧ W.cell? ⟨w2.heap.size, 2, none⟩ = some (.int .i64 (n : Int)) ∧ W.cell? ⟨w2.heap.size, 3, none⟩ = some (.slice A M.L.length c) ∧ W.cell? ⟨w2.heap.size, 4, none⟩ = some (.slice B 1 d)) => show W'.cell? ⟨w2.heap.size, 0, none⟩ = some (.bool M.ex) ∧ W'.cell? ⟨w2.heap.size, 1, none⟩ = some (.int .i64 (M.ou : Int)) ∧ W'.cell? ⟨w2.heap.size, 2, none⟩ = some (.int .i64 (n : Int)) ∧ W'.cell? ⟨w2.heap.size, 3, none⟩ = some (.slice A M.L.length c) ∧ W'.cell? ⟨w2.heap.size, 4, none⟩ = some (.slice B 1 d) from ⟨hf.cell h.1 hS, hf.cell h.2.1 hS, hf.cell h.2.2.1 hS, hf.cell h.2.2.2.1 hS, hf.cell h.2.2.2.2 hS⟩)
        clear hmore HSP HBE
        go_wp2_with fail
        have hHeld := hH0
        refine Held.begin (fun w' => w'.cell? ⟨w2.heap.size, 0, none⟩ = some (.bool M.ex) ∧ w'.cell? ⟨w2.heap.size, 1, none⟩ = some (.int .i64 (M.ou : Int)) ∧ w'.cell? ⟨w2.heap.size, 2, none⟩ = some (.int .i64 (n : Int)) ∧ w'.cell? ⟨w2.heap.size, 3, none⟩ = some (.slice A M.L.length c) ∧ w'.cell? ⟨w2.heap.size, 4, none⟩ = some (.slice B 1 d)) 27 (by kernel_rfl) ?_
        refine Held.take (i := 0) (oi := ?oc0) (v := ?vc0) ?hic0 (by kernel_rfl) (by kernel_rfl) (by kernel_rfl) (by kernel_rfl) (fun _ _ _ h => h) (Or.inl ⟨?hwc0, ?hyc0⟩) (by assumption) ?restc0
        case hic0 => (simp only [List.getElem?_toArray, List.getElem?_cons_zero]; rfl)
        case hwc0 => rfl
        case hyc0 => (intro w hSw; (try dsimp only at hSw); go_simp; try with_reducible rfl)
        (try simp only [Act.put, List.setIfInBounds_toArray, List.set_cons_zero, List.set_cons_succ])
        refine Held.take (i := 1) (oi := ?oc1) (v := ?vc1) ?hic1 (by kernel_rfl) (by kernel_rfl) (by kernel_rfl) (by kernel_rfl) (fun _ _ _ h => h) (Or.inl ⟨?hwc1, ?hyc1⟩) (by assumption) ?restc1
        case hic1 => (simp only [List.getElem?_toArray, List.getElem?_cons_succ, List.getElem?_cons_zero]; rfl)
        case hwc1 => rfl
        case hyc1 => (intro w hSw; (try dsimp only at hSw); go_simp; try with_reducible rfl)
        (try simp only [Act.put, List.setIfInBounds_toArray, List.set_cons_zero, List.set_cons_succ])
        refine Held.take (i := 2) (oi := ?oc2) (v := ?vc2) ?hic2 (by kernel_rfl) (by kernel_rfl) (by kernel_rfl) (by kernel_rfl) (fun _ _ _ h => h) (Or.inl ⟨?hwc2, ?hyc2⟩) (by assumption) ?restc2
        case hic2 => (simp only [List.getElem?_toArray, List.getElem?_cons_succ, List.getElem?_cons_zero]; rfl)
        case hwc2 => rfl
        case hyc2 => (intro w hSw; (try dsimp only at hSw); go_simp; try with_reducible rfl)
        (try simp only [Act.put, List.setIfInBounds_toArray, List.set_cons_zero, List.set_cons_succ])
        refine Held.take (i := 3) (oi := ?oc3) (v := ?vc3) ?hic3 (by kernel_rfl) (by kernel_rfl) (by kernel_rfl) (by kernel_rfl) (fun _ _ _ h => h) (Or.inl ⟨?hwc3, ?hyc3⟩) (by assumption) ?restc3
        case hic3 => (simp only [List.getElem?_toArray, List.getElem?_cons_succ, List.getElem?_cons_zero]; rfl)
        case hwc3 => rfl
        case hyc3 => (intro w hSw; (try dsimp only at hSw); go_simp; try with_reducible rfl)
        (try simp only [Act.put, List.setIfInBounds_toArray, List.set_cons_zero, List.set_cons_succ])
        refine Held.take (i := 4) (oi := ?oc4) (v := ?vc4) ?hic4 (by kernel_rfl) (by kernel_rfl) (by kernel_rfl) (by kernel_rfl) (fun _ _ _ h => h) (Or.inl ⟨?hwc4, ?hyc4⟩) (by assumption) ?restc4
        case hic4 => (simp only [List.getElem?_toArray, List.getElem?_cons_succ, List.getElem?_cons_zero]; rfl)
        case hwc4 => rfl
        case hyc4 => (intro w hSw; (try dsimp only at hSw); go_simp; try with_reducible rfl)
        (try simp only [Act.put, List.setIfInBounds_toArray, List.set_cons_zero, List.set_cons_succ])
        refine Held.take (i := 5) (oi := ?oc5) (v := ?vc5) ?hic5 (by kernel_rfl) (by kernel_rfl) (by kernel_rfl) (by kernel_rfl) (fun _ _ _ h => h) (Or.inl ⟨?hwc5, ?hyc5⟩) (by assumption) ?restc5
        case hic5 => (simp only [List.getElem?_toArray, List.getElem?_cons_succ, List.getElem?_cons_zero]; rfl)
        case hwc5 => rfl
        case hyc5 => (intro w hSw; (try dsimp only at hSw); go_simp; try with_reducible rfl)
        (try simp only [Act.put, List.setIfInBounds_toArray, List.set_cons_zero, List.set_cons_succ])
        refine Held.take (i := 6) (oi := ?oc6) (v := ?vc6) ?hic6 (by kernel_rfl) (by kernel_rfl) (by kernel_rfl) (by kernel_rfl) (fun _ _ _ h => h) (Or.inl ⟨?hwc6, ?hyc6⟩) (by assumption) ?restc6
        case hic6 => (simp only [List.getElem?_toArray, List.getElem?_cons_succ, List.getElem?_cons_zero]; rfl)
        case hwc6 => rfl
        case hyc6 => (intro w hSw; (try dsimp only at hSw); go_simp; try with_reducible rfl)
        (try simp only [Act.put, List.setIfInBounds_toArray, List.set_cons_zero, List.set_cons_succ])
        refine Held.take (i := 7) (oi := ?oc7) (v := ?vc7) ?hic7 (by kernel_rfl) (by kernel_rfl) (by kernel_rfl) (by kernel_rfl) (fun _ _ _ h => h) (Or.inl ⟨?hwc7, ?hyc7⟩) (by assumption) ?restc7
        case hic7 => (simp only [List.getElem?_toArray, List.getElem?_cons_succ, List.getElem?_cons_zero]; rfl)
        case hwc7 => rfl
        case hyc7 => (intro w hSw; (try dsimp only at hSw); go_simp; try with_reducible rfl)
        (try simp only [Act.put, List.setIfInBounds_toArray, List.set_cons_zero, List.set_cons_succ])
        refine Held.take (i := 8) (oi := ?oc8) (v := ?vc8) ?hic8 (by kernel_rfl) (by kernel_rfl) (by kernel_rfl) (by kernel_rfl) (fun _ _ _ h => h) (Or.inl ⟨?hwc8, ?hyc8⟩) (by assumption) ?restc8
        case hic8 => (simp only [List.getElem?_toArray, List.getElem?_cons_succ, List.getElem?_cons_zero]; rfl)
        case hwc8 => rfl
        case hyc8 => (intro w hSw; (try dsimp only at hSw); go_simp; try with_reducible rfl)
        (try simp only [Act.put, List.setIfInBounds_toArray, List.set_cons_zero, List.set_cons_succ])
        refine Held.take (i := 9) (oi := ?oc9) (v := ?vc9) ?hic9 (by kernel_rfl) (by kernel_rfl) (by kernel_rfl) (by kernel_rfl) (fun _ _ _ h => h) (Or.inl ⟨?hwc9, ?hyc9⟩) (by assumption) ?restc9
        case hic9 => (simp only [List.getElem?_toArray, List.getElem?_cons_succ, List.getElem?_cons_zero]; rfl)
        case hwc9 => rfl
        case hyc9 => (intro w hSw; (try dsimp only at hSw); go_simp; try with_reducible rfl)
        (try simp only [Act.put, List.setIfInBounds_toArray, List.set_cons_zero, List.set_cons_succ])
        refine Held.take (i := 10) (oi := ?oc10) (v := ?vc10) ?hic10 (by kernel_rfl) (by kernel_rfl) (by kernel_rfl) (by kernel_rfl) (fun _ _ _ h => h) (Or.inl ⟨?hwc10, ?hyc10⟩) (by assumption) ?restc10
        case hic10 => (simp only [List.getElem?_toArray, List.getElem?_cons_succ, List.getElem?_cons_zero]; rfl)
        case hwc10 => rfl
        case hyc10 => (intro w hSw; (try dsimp only at hSw); go_simp; try with_reducible rfl)
        (try simp only [Act.put, List.setIfInBounds_toArray, List.set_cons_zero, List.set_cons_succ])
        refine Held.take (i := 11) (oi := ?oc11) (v := ?vc11) ?hic11 (by kernel_rfl) (by kernel_rfl) (by kernel_rfl) (by kernel_rfl) (fun _ _ _ h => h) (Or.inl ⟨?hwc11, ?hyc11⟩) (by assumption) ?restc11
        case hic11 => (simp only [List.getElem?_toArray, List.getElem?_cons_succ, List.getElem?_cons_zero]; rfl)
        case hwc11 => rfl
        case hyc11 => (intro w hSw; (try dsimp only at hSw); go_simp; try with_reducible rfl)
        (try simp only [Act.put, List.setIfInBounds_toArray, List.set_cons_zero, List.set_cons_succ])
        refine Held.take (i := 12) (oi := ?oc12) (v := ?vc12) ?hic12 (by kernel_rfl) (by kernel_rfl) (by kernel_rfl) (by kernel_rfl) (fun _ _ _ h => h) (Or.inl ⟨?hwc12, ?hyc12⟩) (by assumption) ?restc12
        case hic12 => (simp only [List.getElem?_toArray, List.getElem?_cons_succ, List.getElem?_cons_zero]; rfl)
        case hwc12 => rfl
        case hyc12 => (intro w hSw; (try dsimp only at hSw); go_simp; try with_reducible rfl)
        (try simp only [Act.put, List.setIfInBounds_toArray, List.set_cons_zero, List.set_cons_succ])
        refine Held.take (i := 13) (oi := ?oc13) (v := ?vc13) ?hic13 (by kernel_rfl) (by kernel_rfl) (by kernel_rfl) (by kernel_rfl) (fun _ _ _ h => h) (Or.inl ⟨?hwc13, ?hyc13⟩) (by assumption) ?restc13
        case hic13 => (simp only [List.getElem?_toArray, List.getElem?_cons_succ, List.getElem?_cons_zero]; rfl)
        case hwc13 => rfl
        case hyc13 => (intro w hSw; (try dsimp only at hSw); go_simp; try with_reducible rfl)
        (try simp only [Act.put, List.setIfInBounds_toArray, List.set_cons_zero, List.set_cons_succ])
        refine Held.take (i := 14) (oi := ?oc14) (v := ?vc14) ?hic14 (by kernel_rfl) (by kernel_rfl) (by kernel_rfl) (by kernel_rfl) (fun _ _ _ h => h) (Or.inl ⟨?hwc14, ?hyc14⟩) (by assumption) ?restc14
        case hic14 => (simp only [List.getElem?_toArray, List.getElem?_cons_succ, List.getElem?_cons_zero]; rfl)
        case hwc14 => rfl
        case hyc14 => (intro w hSw; (try dsimp only at hSw); go_simp; try with_reducible rfl)
        (try simp only [Act.put, List.setIfInBounds_toArray, List.set_cons_zero, List.set_cons_succ])
        refine Held.take (i := 15) (oi := ?oc15) (v := ?vc15) ?hic15 (by kernel_rfl) (by kernel_rfl) (by kernel_rfl) (by kernel_rfl) (fun _ _ _ h => h) (Or.inl ⟨?hwc15, ?hyc15⟩) (by assumption) ?restc15
        case hic15 => (simp only [List.getElem?_toArray, List.getElem?_cons_succ, List.getElem?_cons_zero]; rfl)
        case hwc15 => rfl
        case hyc15 => (intro w hSw; (try dsimp only at hSw); go_simp; try with_reducible rfl)
        (try simp only [Act.put, List.setIfInBounds_toArray, List.set_cons_zero, List.set_cons_succ])
        refine Held.take (i := 16) (oi := ?oc16) (v := ?vc16) ?hic16 (by kernel_rfl) (by kernel_rfl) (by kernel_rfl) (by kernel_rfl) (fun _ _ _ h => h) (Or.inl ⟨?hwc16, ?hyc16⟩) (by assumption) ?restc16
        case hic16 => (simp only [List.getElem?_toArray, List.getElem?_cons_succ, List.getElem?_cons_zero]; rfl)
        case hwc16 => rfl
        case hyc16 => (intro w hSw; (try dsimp only at hSw); go_simp; try with_reducible rfl)
        (try simp only [Act.put, List.setIfInBounds_toArray, List.set_cons_zero, List.set_cons_succ])
        refine Held.take (i := 17) (oi := ?oc17) (v := ?vc17) ?hic17 (by kernel_rfl) (by kernel_rfl) (by kernel_rfl) (by kernel_rfl) (fun _ _ _ h => h) (Or.inl ⟨?hwc17, ?hyc17⟩) (by assumption) ?restc17
        case hic17 => (simp only [List.getElem?_toArray, List.getElem?_cons_succ, List.getElem?_cons_zero]; rfl)
        case hwc17 => rfl
        case hyc17 => (intro w hSw; (try dsimp only at hSw); go_simp; try with_reducible rfl)
        (try simp only [Act.put, List.setIfInBounds_toArray, List.set_cons_zero, List.set_cons_succ])
        refine Held.take (i := 18) (oi := ?oc18) (v := ?vc18) ?hic18 (by kernel_rfl) (by kernel_rfl) (by kernel_rfl) (by kernel_rfl) (fun _ _ _ h => h) (Or.inl ⟨?hwc18, ?hyc18⟩) (by assumption) ?restc18
        case hic18 => (simp only [List.getElem?_toArray, List.getElem?_cons_succ, List.getElem?_cons_zero]; rfl)
        case hwc18 => rfl
        case hyc18 => (intro w hSw; (try dsimp only at hSw); go_simp; try with_reducible rfl)
        (try simp only [Act.put, List.setIfInBounds_toArray, List.set_cons_zero, List.set_cons_succ])
        refine Held.take (i := 19) (oi := ?oc19) (v := ?vc19) ?hic19 (by kernel_rfl) (by kernel_rfl) (by kernel_rfl) (by kernel_rfl) (fun _ _ _ h => h) (Or.inl ⟨?hwc19, ?hyc19⟩) (by assumption) ?restc19
        case hic19 => (simp only [List.getElem?_toArray, List.getElem?_cons_succ, List.getElem?_cons_zero]; rfl)
        case hwc19 => rfl
        case hyc19 => (intro w hSw; (try dsimp only at hSw); go_simp; try with_reducible rfl)
        (try simp only [Act.put, List.setIfInBounds_toArray, List.set_cons_zero, List.set_cons_succ])
        refine Held.take (i := 23) (oi := ?oc23) (v := ?vc23) ?hic23 (by kernel_rfl) (by kernel_rfl) (by kernel_rfl) (by kernel_rfl) (fun _ _ _ h => h) (Or.inl ⟨?hwc23, ?hyc23⟩) (by assumption) ?restc23
        case hic23 => (simp only [List.getElem?_toArray, List.getElem?_cons_succ, List.getElem?_cons_zero]; rfl)
        case hwc23 => rfl
        case hyc23 => (intro w hSw; (try dsimp only at hSw); go_simp; try with_reducible rfl)
        (try simp only [Act.put, List.setIfInBounds_toArray, List.set_cons_zero, List.set_cons_succ])
        refine Held.next (i := 20) (o := ?oc20) (by kernel_rfl) ?hic20 (fun K hK => ?stc20)
        case hic20 => (simp only [List.getElem?_toArray, List.getElem?_cons_succ, List.getElem?_cons_zero]; rfl)
        go_simp
        (go_at_call 95; refine (HMR.out _ hfd).mono ?_; rintro e w9 ⟨v9, rfl, hRO9, hf9⟩; obtain ⟨A9, c9, rfl, _⟩ := hRO9.form)
        (try go_wp2_with fail)
        refine hK.out _ _ (fun _ => by exact HH.out _ _ _ hf9 id hHeld) ?_
        clear hK K
        (try simp only [Act.put, List.setIfInBounds_toArray, List.set_cons_zero, List.set_cons_succ])
        have hH2 := HH.out _ _ _ hf9 id hHeld
        have hRO8 := hROj.frm ((Frm.refl (fun _ => False) wr).drewN 1 |>.trans hf9) (fun _ _ => id)
        have hs9 : wr.heap.size ≤ w9.heap.size := hf9.size
        refine Held.next (i := 21) (o := ?oc21) (by kernel_rfl) ?hic21 (fun K hK => ?stc21)
        case hic21 => (simp only [List.getElem?_toArray, List.getElem?_cons_succ, List.getElem?_cons_zero]; rfl)
        (refine wp_append_rows (.tmp 113) (.tmp 116) rfl base wr.heap.size _ _ j n6 cs cs' rfl hRO8 rfl hRO9 (fun g hg => by have := hown7 g hg; omega) (by omega) (by omega) (by omega) (by omega) ?_; intro v10 w10 hR10 hf10; obtain ⟨A10, c10, rfl, _⟩ := hR10.form)
        refine hK.out _ _ (fun _ => by exact HH.out _ _ _ hf10 (fun e => by have := hown7 _ e; omega) hH2) ?_
        clear hK K
        (try simp only [Act.put, List.setIfInBounds_toArray, List.set_cons_zero, List.set_cons_succ])
        have hH3 := HH.out _ _ _ hf10 (fun e => by have := hown7 _ e; omega) hH2
        have hf510 := ((((hf6.trans hfj).drewN 1).trans hf9).mono (T := fun g => (Value.slice Av j cv').ownBlock = some g) (fun _ _ h => h.elim)).trans hf10
        refine Held.next (i := 22) (o := ?oc22) (by kernel_rfl) ?hic22 (fun K hK => ?stc22)
        case hic22 => (simp only [List.getElem?_toArray, List.getElem?_cons_succ, List.getElem?_cons_zero]; rfl)
        go_simp
        (go_at_call 99; refine (HCH2.out _ _ hf510 hown7 _ _ hR10.rw).mono ?_; rintro e w11 ⟨rfl, hf11⟩)
        (try go_wp2_with fail)
        refine hK.out _ _ (fun _ => by exact HH.out _ _ _ hf11 id hH3) ?_
        clear hK K
        (try simp only [Act.put, List.setIfInBounds_toArray, List.set_cons_zero, List.set_cons_succ])
        have hH4 := HH.out _ _ _ hf11 id hH3
        have hfin := ((hfd.trans hf9).then' hf10 (fun g hg e => by have := hown7 g e; omega)).trans hf11
        clear hH0 hH2 hH3 hHeld hRO8 hRO9 hR10 hf10 hf510 HCH2 HH
        refine Held.take (i := 24) (oi := ?oc24) (v := ?vc24) ?hic24 (by kernel_rfl) (by kernel_rfl) (by kernel_rfl) (by kernel_rfl) (fun _ _ _ h => h) (Or.inl ⟨?hwc24, ?hyc24⟩) (by assumption) ?restc24
        case hic24 => (simp only [List.getElem?_toArray, List.getElem?_cons_succ, List.getElem?_cons_zero]; rfl)
        case hwc24 => rfl
        case hyc24 => (intro w hSw; (try dsimp only at hSw); go_simp; try with_reducible rfl)
        (try simp only [Act.put, List.setIfInBounds_toArray, List.set_cons_zero, List.set_cons_succ])
        refine Held.take (i := 25) (oi := ?oc25) (v := ?vc25) ?hic25 (by kernel_rfl) (by kernel_rfl) (by kernel_rfl) (by kernel_rfl) (fun _ _ _ h => h) (Or.inl ⟨?hwc25, ?hyc25⟩) (by assumption) ?restc25
        case hic25 => (simp only [List.getElem?_toArray, List.getElem?_cons_succ, List.getElem?_cons_zero]; rfl)
        case hwc25 => rfl
        case hyc25 => (intro w hSw; (try dsimp only at hSw); go_simp; try with_reducible rfl)
        (try simp only [Act.put, List.setIfInBounds_toArray, List.set_cons_zero, List.set_cons_succ])
        refine Held.take (i := 26) (oi := ?oc26) (v := ?vc26) ?hic26 (by kernel_rfl) (by kernel_rfl) (by kernel_rfl) (by kernel_rfl) (fun _ _ _ h => h) (Or.inl ⟨?hwc26, ?hyc26⟩) (by assumption) ?restc26
        case hic26 => (simp only [List.getElem?_toArray, List.getElem?_cons_succ, List.getElem?_cons_zero]; rfl)
        case hwc26 => rfl
        case hyc26 => (intro w hSw; (try dsimp only at hSw); go_simp; try with_reducible rfl)
        (try simp only [Act.put, List.setIfInBounds_toArray, List.set_cons_zero, List.set_cons_succ])
        refine Held.next (i := 27) (o := ?oc27) (by kernel_rfl) ?hic27 (fun K hK => ?stc27)
        case hic27 => (simp only [List.getElem?_toArray, List.getElem?_cons_succ, List.getElem?_cons_zero]; rfl)
        go_simp
        refine hK.out _ _ (fun h => absurd h (by decide)) ?_
        clear hK K
        (try simp only [Act.put, List.setIfInBounds_toArray, List.set_cons_zero, List.set_cons_succ])
        refine Held.done (by kernel_rfl) ?_ _
        refine NoPanic.normal ?_
        go_wp2_with fail
        go_ret
        exact ⟨rfl, hfin⟩

set_option maxRecDepth 100000 in
set_option maxHeartbeats 2000000 in
/-- the guards' own ways out -/
theorem lfirst_out (P : Nat → Addr) (a0 a1 : Int) (A2 : Option Addr) (n2 c2 : Nat) (x : Int) (ex : Bool) (A5 : Option Addr) (n5 c5 : Nat) (A6 : Option Addr) (n6 c6 : Nat) (y : Int) (w : World) (hS : Sents L7 P w)
    (h : ¬ (n2 ≤ 80 ∧ n5 ≤ 10 ∧ n6 ≤ 5)) :
    Calls Tryd.prog 23 #[.int .i64 a0, .int .i64 a1, .slice A2 n2 c2, .int .i64 x, .bool ex, .slice A5 n5 c5, .slice A6 n6 c6, .int .i64 y] w fun e w' => e = .returned (.bool true) ∧ Frm (fun _ => False) w w' := by
  have HF := Lib.hid (first24_any P w hS)
  have HN := Lib.hid h
  clear h hS
  by_cases g0 : (80 : Int) < n2
  · skip
    go_enter Tryd.func23, Tryd.ntmps23
    go_wp2_with fail
    refine HF.out.mono ?_
    rintro e w1 ⟨rfl, hf1⟩
    go_wp2_with fail
    go_ret
    exact ⟨rfl, hf1⟩
  · skip
    by_cases g1 : (10 : Int) < n5
    · skip
      go_enter Tryd.func23, Tryd.ntmps23
      go_wp2_with fail
      refine HF.out.mono ?_
      rintro e w1 ⟨rfl, hf1⟩
      go_wp2_with fail
      go_ret
      exact ⟨rfl, hf1⟩
    · skip
      have g2 : (5 : Int) < n6 := by have := HN.out; omega
      go_enter Tryd.func23, Tryd.ntmps23
      go_wp2_with fail
      refine HF.out.mono ?_
      rintro e w1 ⟨rfl, hf1⟩
      go_wp2_with fail
      go_ret
      exact ⟨rfl, hf1⟩

theorem lfirst_law (a0 : Int) (_ : (Lit.int .i64 a0).wf = true) (a1 : Int) (_ : (Lit.int .i64 a1).wf = true)
    (A2 : Option Addr) (n2 c2 : Nat) (z2 : List Int) (hz2 : z2.length = n2) {w0 : World} (s2 : Sl w0 (fun k => k < w0.heap.size) 1 (.slice A2 n2 c2) n2 (z2.map (.int .i64))) (_ : ∀ n ∈ z2, (Lit.int .i64 n).wf = true)
    (x : Int) (_ : (Lit.int .i64 x).wf = true) (ex : Bool)
    (A5 : Option Addr) (n5 c5 : Nat) (z5 : List Int) (hz5 : z5.length = n5) (s5 : Sl w0 (fun k => k < w0.heap.size) 1 (.slice A5 n5 c5) n5 (z5.map (.int .i64))) (_ : ∀ n ∈ z5, (Lit.int .i64 n).wf = true)
    (A6 : Option Addr) (n6 c6 : Nat) (z6 : List Int) (hz6 : z6.length = n6) (s6 : Sl w0 (fun k => k < w0.heap.size) 1 (.slice A6 n6 c6) n6 (z6.map (.int .i64))) (_ : ∀ n ∈ z6, (Lit.int .i64 n).wf = true)
    (y : Int) (_ : (Lit.int .i64 y).wf = true)
    (w : World) (e : w = w0) (hL : laidMetH Tryd.prog Rows.graphPlaysRow.laid w) :
    Calls Tryd.prog 23 #[.int .i64 a0, .int .i64 a1, .slice A2 n2 c2, .int .i64 x, .bool ex, .slice A5 n5 c5, .slice A6 n6 c6, .int .i64 y] w fun e w' => e = .returned (.bool true) ∧ Frm (fun _ => False) w w' := by
  subst e
  by_cases h : n2 ≤ 80 ∧ n5 ≤ 10 ∧ n6 ≤ 5
  · exact lfirst_any _ a0 a1 A2 n2 c2 z2 hz2 x ex A5 n5 c5 z5 hz5 A6 n6 c6 z6 hz6 y w s2 s5 s6 (sents7 hL) h.1 h.2.1 h.2.2
  · exact lfirst_out _ a0 a1 A2 n2 c2 x ex A5 n5 c5 A6 n6 c6 y w (sents7 hL) h

end Go.Proofs.YtkjlgamggkencaaDoor
