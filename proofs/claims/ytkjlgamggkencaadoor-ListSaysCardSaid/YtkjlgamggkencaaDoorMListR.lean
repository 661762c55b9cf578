/-
  The contract of skolemref23.Functions of right moves.
-/
import Derived.Test.YtkjlgamggkencaaDoorMListF
import Derived.Test.YtkjlgamggkencaaDoorMRefC
import Derived.Test.YtkjlgamggkencaaDoorMCopyR
namespace Go.Proofs.YtkjlgamggkencaaDoor
open Go.RowKit
set_option linter.unusedVariables false

theorem xor_want (ex : Bool) (r : Int) (h0 : 0 ≤ r) (h1 : r ≤ 4000000000000) : bits .xor .i64 r (bitI ex) = notL (wantI ex r) := by
  cases ex
  · show bits .xor .i64 r 0 = notL (notL r)
    rw [bits_xor_zero2 r h0 h1]
    unfold notL
    split <;> split <;> omega
  · exact bits_xor_one r h0 h1

set_option maxRecDepth 100000 in
set_option maxHeartbeats 2000000 in
theorem rfun_ok {M : Mt} (hM : M.Ok) (n : Nat) (hn : n = M.ou + M.inn) (A : Option Addr) (c : Nat) (B : Option Addr) (d : Nat) (F Fv : Nat → Prop) (Av : Option Addr) (k cv' : Nat) (mvs : List (List Bool)) (w : World) (h4 : n ≤ 100) (h5 : M.L.length ≤ 100) (hk0 : 0 < k) (hk : k ≤ 30)
    (hA : Sl w F 2 (.slice A M.L.length c) M.L.length (pairs M.L)) (hB : Sl w F 1 (.slice B 1 d) 1 ([M.o].map (.int .i64))) (hl : ∀ r ∈ mvs, r.length = M.inn) (hR : RwB w Fv (.slice Av k cv') k mvs) (hsz : M.ou + k * M.L.length + M.inn * (3 * k) < 7000) :
    Calls Tryd.prog 96 #[mtv M.ex M.ou n A M.L.length c B d, .slice Av k cv'] w fun e w' => ∃ v, e = .returned (.tuple #[v, .int .i64 0]) ∧ IsC w' (fun k => w.heap.size ≤ k) v M.ou (M.fn mvs).2.ands (M.fn mvs).1 ∧ Frm (fun _ => False) w w' := by
  obtain ⟨i0, hi0, hz0, hz1, hz2⟩ := info_parts infoIntG
  have hkl := hR.1
  have hf0 := ((Frm.refl (fun _ => False) w).alloc (.cells #[.bool M.ex, .int .i64 M.ou, .int .i64 n, .slice A M.L.length c, .slice B 1 d] 104)).alloc (.cells #[.int .i64 0, .slice none 0 0, .slice none 0 0] 40)
  have hb0 : Blk ((w.alloc (.cells #[.bool M.ex, .int .i64 M.ou, .int .i64 n, .slice A M.L.length c, .slice B 1 d] 104)).alloc (.cells #[.int .i64 0, .slice none 0 0, .slice none 0 0] 40)) w.heap.size 104 [.bool M.ex, .int .i64 M.ou, .int .i64 n, .slice A M.L.length c, .slice B 1 d] := (Blk.new _ _ _).alloc _
  have hr0 : Blk ((w.alloc (.cells #[.bool M.ex, .int .i64 M.ou, .int .i64 n, .slice A M.L.length c, .slice B 1 d] 104)).alloc (.cells #[.int .i64 0, .slice none 0 0, .slice none 0 0] 40)) (w.heap.size + 1) 40 [.int .i64 0, .slice none 0 0, .slice none 0 0] := Blk.new_at _ _ _ _ (by simp)
  have HCK := Lib.hid (mrcheck_ok hM n hn A c B d F _ (by omega) (hA.frm hf0 (fun _ _ => id)) (hB.frm hf0 (fun _ _ => id)))
  have HIN := Lib.hid (fun (W : World) => rinner_any M.ex M.ou M.inn n hn (by omega) A M.L.length c B d W)
  obtain ⟨k', rfl⟩ : ∃ k', k = k' + 1 := ⟨k - 1, by omega⟩
  have hmulk : (k' + 1) * M.L.length = k' * M.L.length + M.L.length := by rw [Nat.add_mul, Nat.one_mul]
  have HBF := Lib.hid (fun j (hj : j ≤ k' + 1) => bf_of (M := M) (mvs := mvs) (j := j) (by omega) (by rw [hkl]; omega))
  have HBT := Lib.hid (fun j (hj : j < k' + 1) => beats_take M ⟨M.ou, [], 0⟩ mvs (k := j) (by omega))
  have HMU := Lib.hid (fun (g : Gr) (mv : List Bool) (h1 : Made g.n g.ands) (h2 : g.n = M.ou) (h3 : g.len + M.L.length < 8000) => move_up (M := M) (g := g) (mv := mv) h1 h2 h3)
  obtain ⟨bB, oB, uB, hBe, hBF, hBu, hBc⟩ := (hB.mono (G := fun k => k < w.heap.size) (fun k hk _ => hk)).at_ (k := 0) (by omega)
  simp at hBu
  subst hBu
  rw [Nat.add_zero] at hBc
  have hAw := hA.mono (G := fun k => k < w.heap.size) (fun k hk _ => hk)
  have HMV := Lib.hid (fun (K : Nat → Prop) (W : World) (gb : Nat) (g : Gr) (hO : OnX K W gb g) (G : Nat → Prop) (hf : Frm G w W) (hG : ∀ k, k < w.heap.size → ¬ G k) (hF : ∀ k, k < w.heap.size → K k) (mv : List Bool) (D : List Int) (hD : D = byL M.ou mv) (Ab : Option Addr) (cb : Nat) (Fb : Nat → Prop) (hb : Sl W Fb 1 (.slice Ab n cb) n (D.map (.int .i64))) (hm : mv.length = M.inn) (h1 : Made g.n g.ands) (h2 : g.n = M.ou) (h3 : g.len + M.L.length < 8000) =>
    (show Calls Tryd.prog 91 #[.pointer (some ⟨gb, 0, none⟩), cv n A M.L.length c B 1 d, .int .i64 M.o, .slice Ab n cb] W fun e w' => e = .returned (.int .i64 (M.move g mv).1) ∧ OnX K w' gb (M.move g mv).2 ∧ Frm (fun k => ¬ K k) W w' from by
      have hmv : M.move g mv = copyG g n M.L M.o D := by unfold Mt.move; rw [hn, hD]
      rw [hmv]
      exact rcopy_any hO n M.L A M.L.length c B 1 d M.o Ab n cb D (fun k => k < w.heap.size) Fb h1 h3 rfl (by rw [hD, byL_length]; omega) (by rw [hn]; exact hM.right) (by omega) (by omega) (by omega) (by rw [hn]; exact hM.out) (by rw [hD]; exact byL_isL (by unfold Gr.len; omega)) (hAw.frm hf hG) hb hF))
  have HDL := Lib.hid (fun (mv : List Bool) (hm : mv.length = M.inn) => show (byL M.ou mv).length = n from by rw [byL_length]; omega)
  have hino : M.ou ≤ n ∧ n ≤ M.ou + M.inn ∧ M.ou + M.inn ≤ n := by omega
  have hfn : M.fn mvs = outsRun (M.beats ⟨M.ou, [], 0⟩ (mvs.take k')).1 mvs (M.beats ⟨M.ou, [], 0⟩ (mvs.take k')).2 M.inn := by unfold Mt.fn; rw [hkl]; rfl
  have hinn : IntKind.i64.wrap ((n : Int) - M.ou) = M.inn := by rw [IntWalk.i64_in _ (by omega)]; omega
  have hlen := fun j (hj : j < k' + 1) => hl (mvs.getD j []) (by simp [List.getD, show j < mvs.length by omega])
  have HLEN := Lib.hid hlen
  have HKL := Lib.hid hkl
  have hRw : RwB w (fun k => k < w.heap.size) (.slice Av (k' + 1) cv') (k' + 1) mvs := hR.mono (fun k hk _ => hk)
  obtain ⟨av, ao, _, _, hAv, _, _, _⟩ := hRw.at_ (k := 0) (by omega)
  have hcap : k' + 1 ≤ cv' := by obtain ⟨_, _, e, h, _⟩ := hR.form; cases e; exact h
  subst hAv
  have HFN := Lib.hid hfn
  have houb : M.ou ≤ 100 := by omega
  have hinb : M.inn ≤ 100 := by omega
  have HSZ := Lib.hid hsz
  have HMUL := Lib.hid hmulk
  clear hA hB hl hR hn hkl hfn hlen hsz hmulk hM hAw
  subst hBe
  go_enter Tryd.func96, Tryd.ntmps96
  have b0 := hb0.at_ 0 rfl
  have b1 := hb0.at_ 1 rfl
  have b2 := hb0.at_ 2 rfl
  have b3 := hb0.at_ 3 rfl
  have b4 := hb0.at_ 4 rfl
  have hkz : ((k' : Int) + 1 == 0) = false := by simp; omega
  go_wp2_with fail
  refine HCK.out.mono ?_
  rintro e w1 ⟨rfl, hf1⟩
  have hb1 := hb0.frm hf1 id
  have hr1 := hr0.frm hf1 id
  have hf01 := hf0.trans hf1
  clear b0 b1 b2 b3 b4 hb0 hr0 hf0 hf1 HCK
  have b0 := hb1.at_ 0 rfl
  have b1 := hb1.at_ 1 rfl
  have b2 := hb1.at_ 2 rfl
  have b3 := hb1.at_ 3 rfl
  have b4 := hb1.at_ 4 rfl
  clear b0 b1 b2 b3 b4
  go_wp2_with fail
  go_loopw [6, 7] (fun bv iv wr => bv = .int .i64 0 ∧ ∃ (j : Nat), j ≤ k' + 1 ∧ iv = .int .i64 (j : Int) ∧ Frm (fun _ => False) w1 wr) (fun _ iv _ => k' + 1 - (intOf iv).toNat)
  case atStart => exact ⟨rfl, 0, by omega, rfl, Frm.refl _ _⟩
  case round =>
   obtain ⟨rfl, j, hj, rfl, hfj⟩ := hrel
   have hbj := hb1.frm hfj id
   by_cases hlt : j < k' + 1
   · obtain ⟨b, o, Bx, dx, e1, hFb, hc, hsx⟩ := (hRw.frm (hf01.trans hfj) (fun _ _ => id)).at_ (k := j) hlt
     cases e1
     rw [HLEN.out j hlt] at hc
     have j0 : (0 : Int) ≤ j := by omega
     have j1 : (j : Int) < (k' : Int) + 1 := by omega
     have hH0 : wr.drew.cell? ⟨w.heap.size, 0, none⟩ = some (.bool M.ex) ∧ wr.drew.cell? ⟨w.heap.size, 1, none⟩ = some (.int .i64 (M.ou : Int)) ∧ wr.drew.cell? ⟨w.heap.size, 2, none⟩ = some (.int .i64 (n : Int)) ∧ wr.drew.cell? ⟨w.heap.size, 3, none⟩ = some (.slice A M.L.length c) ∧ wr.drew.cell? ⟨w.heap.size, 4, none⟩ = some (.slice (some ⟨bB, oB, none⟩) 1 d) ∧ wr.drew.cell? ⟨av, ao + j, none⟩ = some (.slice Bx M.inn dx) := ⟨hbj.at_ 0 rfl, hbj.at_ 1 rfl, hbj.at_ 2 rfl, hbj.at_ 3 rfl, hbj.at_ 4 rfl, hc⟩
     have HH := Lib.hid (fun (W W' : World) (hf : Frm (fun _ => False) W W') (h : W.cell? ⟨w.heap.size, 0, none⟩ = some (.bool M.ex) ∧ W.cell? ⟨w.heap.size, 1, none⟩ = some (.int .i64 (M.ou : Int)) ∧ W.cell? ⟨w.heap.size, 2, none⟩ = some (.int .i64 (n : Int)) ∧ W.cell? ⟨w.heap.size, 3, none⟩ = some (.slice A M.L.length c) ∧ W.cell? ⟨w.heap.size, 4, none⟩ = some (.slice (some ⟨bB, oB, none⟩) 1 d) ∧ W.cell? ⟨av, ao + j, none⟩ = some (.slice Bx M.inn dx)) => show W'.cell? ⟨w.heap.size, 0, none⟩ = some (.bool M.ex) ∧ W'.cell? ⟨w.heap.size, 1, none⟩ = some (.int .i64 (M.ou : Int)) ∧ W'.cell? ⟨w.heap.size, 2, none⟩ = some (.int .i64 (n : Int)) ∧ W'.cell? ⟨w.heap.size, 3, none⟩ = some (.slice A M.L.length c) ∧ W'.cell? ⟨w.heap.size, 4, none⟩ = some (.slice (some ⟨bB, oB, none⟩) 1 d) ∧ W'.cell? ⟨av, ao + j, none⟩ = some (.slice Bx M.inn dx) from ⟨hf.cell h.1 id, hf.cell h.2.1 id, hf.cell h.2.2.1 id, hf.cell h.2.2.2.1 id, hf.cell h.2.2.2.2.1 id, hf.cell h.2.2.2.2.2 id⟩)
     clear hc hsx
     go_wp2_with fail
     have hHeld := hH0
     refine Held.begin (fun W => W.cell? ⟨w.heap.size, 0, none⟩ = some (.bool M.ex) ∧ W.cell? ⟨w.heap.size, 1, none⟩ = some (.int .i64 (M.ou : Int)) ∧ W.cell? ⟨w.heap.size, 2, none⟩ = some (.int .i64 (n : Int)) ∧ W.cell? ⟨w.heap.size, 3, none⟩ = some (.slice A M.L.length c) ∧ W.cell? ⟨w.heap.size, 4, none⟩ = some (.slice (some ⟨bB, oB, none⟩) 1 d) ∧ W.cell? ⟨av, ao + j, none⟩ = some (.slice Bx M.inn dx)) 8 (by kernel_rfl) ?_
     refine Held.take (i := 0) (oi := ?oa0) (v := ?va0) ?hia0 (by kernel_rfl) (by kernel_rfl) (by kernel_rfl) (by kernel_rfl) (fun _ _ _ h => h) (Or.inl ⟨?hwa0, ?hya0⟩) (by assumption) ?resta0
     case hia0 => (simp only [List.getElem?_toArray, List.getElem?_cons_zero]; rfl)
     case hwa0 => rfl
     case hya0 => (intro w hSw; (try dsimp only at hSw); go_simp; try with_reducible rfl)
     (try simp only [Act.put, List.setIfInBounds_toArray, List.set_cons_zero, List.set_cons_succ])
     refine Held.take (i := 1) (oi := ?oa1) (v := ?va1) ?hia1 (by kernel_rfl) (by kernel_rfl) (by kernel_rfl) (by kernel_rfl) (fun _ _ _ h => h) (Or.inl ⟨?hwa1, ?hya1⟩) (by assumption) ?resta1
     case hia1 => (simp only [List.getElem?_toArray, List.getElem?_cons_succ, List.getElem?_cons_zero]; rfl)
     case hwa1 => rfl
     case hya1 => (intro w hSw; (try dsimp only at hSw); go_simp; try with_reducible rfl)
     (try simp only [Act.put, List.setIfInBounds_toArray, List.set_cons_zero, List.set_cons_succ])
     refine Held.take (i := 2) (oi := ?oa2) (v := ?va2) ?hia2 (by kernel_rfl) (by kernel_rfl) (by kernel_rfl) (by kernel_rfl) (fun _ _ _ h => h) (Or.inl ⟨?hwa2, ?hya2⟩) (by assumption) ?resta2
     case hia2 => (simp only [List.getElem?_toArray, List.getElem?_cons_succ, List.getElem?_cons_zero]; rfl)
     case hwa2 => rfl
     case hya2 => (intro w hSw; (try dsimp only at hSw); go_simp; try with_reducible rfl)
     (try simp only [Act.put, List.setIfInBounds_toArray, List.set_cons_zero, List.set_cons_succ])
     refine Held.take (i := 3) (oi := ?oa3) (v := ?va3) ?hia3 (by kernel_rfl) (by kernel_rfl) (by kernel_rfl) (by kernel_rfl) (fun _ _ _ h => h) (Or.inl ⟨?hwa3, ?hya3⟩) (by assumption) ?resta3
     case hia3 => (simp only [List.getElem?_toArray, List.getElem?_cons_succ, List.getElem?_cons_zero]; rfl)
     case hwa3 => rfl
     case hya3 => (intro w hSw; (try dsimp only at hSw); go_simp; try with_reducible rfl)
     (try simp only [Act.put, List.setIfInBounds_toArray, List.set_cons_zero, List.set_cons_succ])
     refine Held.take (i := 4) (oi := ?oa4) (v := ?va4) ?hia4 (by kernel_rfl) (by kernel_rfl) (by kernel_rfl) (by kernel_rfl) (fun _ _ _ h => h) (Or.inl ⟨?hwa4, ?hya4⟩) (by assumption) ?resta4
     case hia4 => (simp only [List.getElem?_toArray, List.getElem?_cons_succ, List.getElem?_cons_zero]; rfl)
     case hwa4 => rfl
     case hya4 => (intro w hSw; (try dsimp only at hSw); go_simp; try with_reducible rfl)
     (try simp only [Act.put, List.setIfInBounds_toArray, List.set_cons_zero, List.set_cons_succ])
     refine Held.take (i := 5) (oi := ?oa5) (v := ?va5) ?hia5 (by kernel_rfl) (by kernel_rfl) (by kernel_rfl) (by kernel_rfl) (fun _ _ _ h => h) (Or.inl ⟨?hwa5, ?hya5⟩) (by assumption) ?resta5
     case hia5 => (simp only [List.getElem?_toArray, List.getElem?_cons_succ, List.getElem?_cons_zero]; rfl)
     case hwa5 => rfl
     case hya5 => (intro w hSw; (try dsimp only at hSw); go_simp; try with_reducible rfl)
     (try simp only [Act.put, List.setIfInBounds_toArray, List.set_cons_zero, List.set_cons_succ])
     refine Held.next (i := 6) (o := ?oa6) (by kernel_rfl) ?hia6 (fun K hK => ?sta6)
     case hia6 => (simp only [List.getElem?_toArray, List.getElem?_cons_succ, List.getElem?_cons_zero]; rfl)
     go_simp
     (go_at_call 136; refine (HIN.out _).mono ?_; rintro e w8 ⟨rfl, hf8⟩)
     (try go_wp2_with fail)
     refine hK.out _ _ (fun _ => by exact HH.out _ _ hf8 hHeld) ?_
     clear hK K
     (try simp only [Act.put, List.setIfInBounds_toArray, List.set_cons_zero, List.set_cons_succ])
     have hH2 := HH.out _ _ hf8 hHeld
     refine Held.take (i := 7) (oi := ?oa7) (v := ?va7) ?hia7 (by kernel_rfl) (by kernel_rfl) (by kernel_rfl) (by kernel_rfl) (fun _ _ _ h => h) (Or.inl ⟨?hwa7, ?hya7⟩) (by assumption) ?resta7
     case hia7 => (simp only [List.getElem?_toArray, List.getElem?_cons_succ, List.getElem?_cons_zero]; rfl)
     case hwa7 => rfl
     case hya7 => (intro w hSw; (try dsimp only at hSw); go_simp; try with_reducible rfl)
     (try simp only [Act.put, List.setIfInBounds_toArray, List.set_cons_zero, List.set_cons_succ])
     refine Held.done (by kernel_rfl) ?_ _
     refine NoPanic.normal ?_
     have hfj8 := (hfj.drewN 1).trans hf8
     clear hH0 hHeld hH2 HH
     go_wp2_with fail
     go_roundw
     case rel => exact ⟨rfl, j + 1, by omega, by go_num, hfj8⟩
     case measure => simp [intOf]; omega
   · obtain rfl : j = k' + 1 := by omega
     obtain ⟨w2, rfl⟩ : ∃ w2, w2 = wr := ⟨_, rfl⟩
     have hb2 := hbj
     have hr2 := hr1.frm hfj id
     have hf02 := hf01.trans hfj
     clear hb1 hr1 hf01 hfj hj hlt hbj
     have b1 := hb2.at_ 1 rfl
     go_wp2_with fail
     refine (onx_new (M.ou : Int) w2).mono ?_
     rintro e w3 ⟨gb, rfl, hO3, hf3⟩
     rw [clampN (by omega)] at hO3
     have hb3 := hb2.frm hf3 id
     have hr3 := hr2.frm hf3 id
     have hf03 := hf02.trans hf3
     have hs2 := hf02.size
     have hlt2 := hr2.lt
     have hs3 := hf3.size
     have wk2 : IntKind.i64.wrap ((k' : Int) + 1 - 2) = (k' : Int) - 1 := by rw [IntWalk.i64_in _ (by omega)]; omega
     have wk : IntKind.i64.wrap ((k' : Int) + 1 - 1) = (k' : Int) := by rw [IntWalk.i64_in _ (by omega)]; omega
     have hbt0 : M.beats ⟨M.ou, [], 0⟩ (mvs.take 0) = ([], ⟨M.ou, [], 0⟩) := rfl
     have HBT0 := Lib.hid hbt0
     have hO30 : OnX (fun k => k < w2.heap.size ∨ (Value.slice none 0 0).ownBlock = some k) w3 gb ⟨M.ou, [], 0⟩ := OnX.wide hO3 (Frm.refl (fun _ => False) w3) (fun k h => by rcases h with h | h; exact .inl h; simp [Value.ownBlock] at h)
     clear b1 hb2 hr2 hf02 hO3 hbt0
     go_wp2_with fail
     go_loopw [9, 10] (fun bv iv wr => ∃ (j : Nat) (A1 : Option Addr) (c1 : Nat) (s : List Int × Gr), j ≤ k' ∧ iv = .int .i64 j ∧ bv = .slice A1 j c1 ∧ M.beats ⟨M.ou, [], 0⟩ (mvs.take j) = s ∧ OnX (fun g => g < w2.heap.size ∨ (Value.slice A1 j c1).ownBlock = some g) wr gb s.2 ∧
       wr.ownsRow w3.heap.size 3 1 (.slice A1 j c1) j (s.1.map (.int .i64)) ∧ Frm (fun g => ¬ g < w2.heap.size) w3 wr) (fun _ iv _ => k' - (intOf iv).toNat)
     case atStart => exact ⟨0, none, 0, ([], ⟨M.ou, [], 0⟩), by omega, rfl, rfl, HBT0.out, hO30, World.ownsRow_nil _ _ _ _, Frm.refl _ _⟩
     case round =>
       clear hO30 HBT0
       obtain ⟨j, A1, c1, s, hj, rfl, rfl, hs, hO, hown, hfk⟩ := hrel
       have hbf := HBF.out j (by omega)
       rw [hs] at hbf
       have hbj := hb3.frm hfk (by omega)
       have hrj := hr3.frm hfk (by omega)
       have hsj := hfk.size
       have hf0j : Frm (fun g => ¬ g < w2.heap.size) w wr := (hf03.mono (T := fun g => ¬ g < w2.heap.size) (fun _ _ h => h.elim)).trans hfk
       have hRj := hRw.frm hf0j (fun g hg => by omega)
       have HS := Lib.hid hs
       clear hs
       by_cases hlt : j < k'
       · obtain ⟨b, o, Bx, dx, e1, hFb, hc, hsx⟩ := hRj.at_ (k := j) (by omega)
         cases e1
         have hbt := HBT.out j (by omega)
         rw [HS.out] at hbt
         have hmx := HLEN.out j (by omega)
         obtain ⟨x, hx⟩ : ∃ x, mvs.getD j [] = x := ⟨_, rfl⟩
         rw [hx] at hbt hmx hc hsx
         clear hx
         have hmulj : j * M.L.length ≤ k' * M.L.length := Nat.mul_le_mul_right _ hj
         have hroom : s.2.len + M.L.length < 8000 := by have := hbf.len; have := HSZ.out; have := HMUL.out; omega
         have hmu := HMU.out s.2 x hbf.made hbf.num hroom
         have hul := hmu.1.high
         have hlit := isL_iff.1 hmu.2
         have hsl := hbf.len
         have hstep : M.beats ⟨M.ou, [], 0⟩ (mvs.take (j + 1)) = (s.1 ++ [notL (wantI M.ex (M.move s.2 x).1)], (M.move s.2 x).2) := hbt
         have HST := Lib.hid hstep
         clear hbt hstep hmu
         generalize hR : M.move s.2 x = R at *
         obtain ⟨r, gr⟩ := R
         simp only at hlit hul HST
         have hr0 : 0 ≤ r := hlit.1
         have hr1 : r ≤ 4000000 := by have := HSZ.out; have := HMUL.out; omega
         have hxor := xor_want M.ex r hr0 (by omega)
         obtain ⟨D, hD⟩ : ∃ D, D = byL M.ou x := ⟨_, rfl⟩
         have hDl : D.length = n := by rw [hD]; exact HDL.out x hmx
         have hDk : ∀ i, i < n → D[i]? = some (if i < M.ou then 2 * ((i : Int) + 1) else bitI (x.getD (i - M.ou) false)) := fun i hi => by rw [hD]; exact byL_at (by omega)
         have HCP := Lib.hid (fun (W : World) (hf : Frm (fun _ => False) wr W) (Ab : Option Addr) (cb : Nat) (Fb : Nat → Prop) (hb : Sl W Fb 1 (.slice Ab n cb) n (D.map (.int .i64))) => HMV.out _ W gb s.2 (hO.frm hf) _ (hf0j.trans (hf.mono (T := fun g => ¬ g < w2.heap.size) (fun _ _ h => h.elim))) (fun k hk h => h (by omega)) (fun k hk => .inl (by omega)) x D hD Ab cb Fb hb hmx hbf.made hbf.num hroom)
         simp only [hR] at HCP
         have hnum := hbf.num
         have hxlen : x.length = M.inn := hmx
         rw [hxlen] at hc hsx
         have HXL := Lib.hid hxlen
         have HDLn := Lib.hid hDl
         have HDK := Lib.hid hDk
         clear hR hD hDl hDk hxlen hmx hbf hlit
         generalize notL (wantI M.ex r) = y at *
         have hngx : s.2.n ≤ M.ou ∧ M.ou ≤ s.2.n := by omega
         clear hnum
         have j0 : (0 : Int) ≤ j := by omega
         have j1 : (j : Int) < k' := by omega
         have j2 : (j : Int) < (k' : Int) + 1 := by omega
         have wj1 : IntKind.i64.wrap ((j : Int) + 1) = (j : Int) + 1 := IntWalk.i64_in _ (by omega)
         have hownl := hown.lt
         obtain ⟨wo, rfl⟩ : ∃ wo, wo = wr := ⟨_, rfl⟩
         go_wp2_with fail
         go_loopw [11, 12] (fun bv iv wr => ∃ (i : Nat) (A2 : Option Addr) (c2 : Nat), i ≤ n ∧ iv = .int .i64 (i : Int) ∧ bv = .slice A2 i c2 ∧ wr.ownsRow wo.heap.size 3 1 (.slice A2 i c2) i ((D.take i).map (.int .i64)) ∧ Frm (fun _ => False) wo wr) (fun _ iv _ => n - (intOf iv).toNat)
         case atStart => exact ⟨0, none, 0, by omega, rfl, rfl, by simpa using World.ownsRow_nil _ _ _ _, Frm.refl _ _⟩
         case round =>
           obtain ⟨i, A2, c2, hi, rfl, rfl, hown2, hfi⟩ := hrel
           have hbi := hbj.frm hfi id
           have hsi := hfi.size
           by_cases hin : i < n
           · have hdk := HDK.out i hin
             have hdt : D.take i ++ [D.getD i 0] = D.take (i + 1) := by rw [List.take_add_one, hdk]; simp [List.getD, hdk]
             have hgd : D.getD i 0 = if i < M.ou then 2 * ((i : Int) + 1) else bitI (x.getD (i - M.ou) false) := by rw [List.getD, hdk]; rfl
             have HDT := Lib.hid hdt
             have i0'' : (0 : Int) ≤ i := by omega
             have i1'' : (i : Int) < n := by omega
             have b1 := hbi.at_ 1 rfl
             have b2 := hbi.at_ 2 rfl
             have hown2l := hown2.lt
             clear hdk hdt
             by_cases hio : i < M.ou
             · rw [if_pos hio] at hgd
               have i2'' : (i : Int) < M.ou := by omega
               have HII := Lib.hid (onx_in (hO.frm hfi) (i : Int) (by omega) (by omega))
               rw [hgd] at HDT
               clear hgd
               go_wp2_with fail
               refine HII.out.mono ?_
               rintro e w' ⟨rfl, rfl⟩
               generalize 2 * ((i : Int) + 1) = v at *
               go_wp2_with (at_builtin; refine wpList_append_own_at _ rfl (.tmp 70) (.tmp 74) 22 rfl wo.heap.size 3 i0 (.int .i64 0) 1 8 Tryd.underlying22 hi0 hz0 hz1 hz2 rfl (by decide) _ _ _ rfl (hown2.alloc (.cells #[.int .i64 v] 3)) ⟨wr.heap.size, 0, none⟩ 1 1 [.int .i64 v] rfl rfl (cell_one_new _ _ _) ?e2 ?e3 ?e4 ?e5 ?_)
               case e2 => first | (intro u hu; simp at hu; subst hu; rfl) | rfl
               case e3 => unfold maxLen; omega
               case e4 => omega
               case e5 => first | omega | (simp; omega) | simp
               intro v' w9 hown9 hgrow _ h9
               have hf9 : Frm (fun _ => False) wo w9 := (hfi.trans ((Frm.refl (fun _ => False) wr).alloc (.cells #[.int .i64 v] 3))).grown hgrow (fun g hg hlt => by have := (hown2l g hg).1; omega)
               have hl9 : (D.map (Value.int .i64)).take i ++ [.int .i64 v] = (D.take (i + 1)).map (.int .i64) := by rw [← List.map_take, ← HDT.out, List.map_append]; rfl
               rw [hl9] at hown9
               obtain ⟨A3, c3, rfl, _⟩ := (Sl.of_own hown9).form
               clear hgrow hl9 h9 hown2
               go_wp2_with fail
               go_roundw
               case rel => exact ⟨i + 1, A3, c3, by omega, by go_num, rfl, hown9, hf9⟩
               case measure => simp [intOf]; omega
             · rw [if_neg hio] at hgd
               obtain ⟨q, rfl⟩ : ∃ q, i = M.ou + q := ⟨i - M.ou, by omega⟩
               rw [show M.ou + q - M.ou = q from by omega] at hgd
               obtain ⟨b9, o9, u, rfl, _, hu, hcz⟩ := (hsx.frm hfi (fun _ _ => id)).at_ (k := q) (by omega)
               obtain rfl := at_bool hu
               have hcx := hfi.cell hc id
               rw [hgd] at HDT
               clear hgd hu
               generalize x.getD q false = z at *
               have i2'' : ¬ (M.ou : Int) + q < M.ou := by omega
               have q0 : (0 : Int) ≤ q := by omega
               have q1 : (q : Int) < M.inn := by omega
               have wq : IntKind.i64.wrap ((M.ou : Int) + q - M.ou) = (q : Int) := by rw [IntWalk.i64_in _ (by omega)]; omega
               have wq2 : IntKind.i64.wrap (((M.ou + q : Nat) : Int) - M.ou) = (q : Int) := by rw [IntWalk.i64_in _ (by omega)]; omega
               have hH0 : wr.drew.cell? ⟨w.heap.size, 0, none⟩ = some (.bool M.ex) ∧ wr.drew.cell? ⟨w.heap.size, 1, none⟩ = some (.int .i64 (M.ou : Int)) ∧ wr.drew.cell? ⟨w.heap.size, 2, none⟩ = some (.int .i64 (n : Int)) ∧ wr.drew.cell? ⟨w.heap.size, 3, none⟩ = some (.slice A M.L.length c) ∧ wr.drew.cell? ⟨w.heap.size, 4, none⟩ = some (.slice (some ⟨bB, oB, none⟩) 1 d) ∧ wr.drew.cell? ⟨av, ao + j, none⟩ = some (.slice (some ⟨b9, o9, none⟩) M.inn dx) ∧ wr.drew.cell? ⟨b9, o9 + q, none⟩ = some (.bool z) := ⟨hbi.at_ 0 rfl, hbi.at_ 1 rfl, hbi.at_ 2 rfl, hbi.at_ 3 rfl, hbi.at_ 4 rfl, hcx, hcz⟩
               have HH := Lib.hid (fun (W W' : World) (hf : Frm (fun _ => False) W W') (h : W.cell? ⟨w.heap.size, 0, none⟩ = some (.bool M.ex) ∧ W.cell? ⟨w.heap.size, 1, none⟩ = some (.int .i64 (M.ou : Int)) ∧ W.cell? ⟨w.heap.size, 2, none⟩ = some (.int .i64 (n : Int)) ∧ W.cell? ⟨w.heap.size, 3, none⟩ = some (.slice A M.L.length c) ∧ W.cell? ⟨w.heap.size, 4, none⟩ = some (.slice (some ⟨bB, oB, none⟩) 1 d) ∧ W.cell? ⟨av, ao + j, none⟩ = some (.slice (some ⟨b9, o9, none⟩) M.inn dx) ∧ W.cell? ⟨b9, o9 + q, none⟩ = some (.bool z)) => show W'.cell? ⟨w.heap.size, 0, none⟩ = some (.bool M.ex) ∧ W'.cell? ⟨w.heap.size, 1, none⟩ = some (.int .i64 (M.ou : Int)) ∧ W'.cell? ⟨w.heap.size, 2, none⟩ = some (.int .i64 (n : Int)) ∧ W'.cell? ⟨w.heap.size, 3, none⟩ = some (.slice A M.L.length c) ∧ W'.cell? ⟨w.heap.size, 4, none⟩ = some (.slice (some ⟨bB, oB, none⟩) 1 d) ∧ W'.cell? ⟨av, ao + j, none⟩ = some (.slice (some ⟨b9, o9, none⟩) M.inn dx) ∧ W'.cell? ⟨b9, o9 + q, none⟩ = some (.bool z) from ⟨hf.cell h.1 id, hf.cell h.2.1 id, hf.cell h.2.2.1 id, hf.cell h.2.2.2.1 id, hf.cell h.2.2.2.2.1 id, hf.cell h.2.2.2.2.2.1 id, hf.cell h.2.2.2.2.2.2 id⟩)
               have hal := (Frm.refl (fun _ => False) wr.drew).alloc (.cells #[.int .i64 (bitI z)] 3)
               have hown3 := own_frm hown2 ((Frm.refl (fun _ => False) wr).drewN 1) (fun _ _ => id)
               clear hcx hcz
               go_wp2_with fail
               have hHeld := hH0
               refine Held.begin (fun W => W.cell? ⟨w.heap.size, 0, none⟩ = some (.bool M.ex) ∧ W.cell? ⟨w.heap.size, 1, none⟩ = some (.int .i64 (M.ou : Int)) ∧ W.cell? ⟨w.heap.size, 2, none⟩ = some (.int .i64 (n : Int)) ∧ W.cell? ⟨w.heap.size, 3, none⟩ = some (.slice A M.L.length c) ∧ W.cell? ⟨w.heap.size, 4, none⟩ = some (.slice (some ⟨bB, oB, none⟩) 1 d) ∧ W.cell? ⟨av, ao + j, none⟩ = some (.slice (some ⟨b9, o9, none⟩) M.inn dx) ∧ W.cell? ⟨b9, o9 + q, none⟩ = some (.bool z)) 13 (by kernel_rfl) ?_
               refine Held.take2 (i := 0) (oi := ?ob0) (v := ?vb0) ?hib0 (by kernel_rfl) (by kernel_rfl) (by kernel_rfl) (by kernel_rfl) (fun _ _ _ h => h) (Or.inl ⟨?hwb0, ?hyb0⟩) (by assumption) ?restb0
               case hib0 => (simp only [List.getElem?_toArray, List.getElem?_cons_zero]; rfl)
               case hwb0 => rfl
               case hyb0 => (intro w hSw; (try dsimp only at hSw); go_simp; try with_reducible rfl)
               (try simp only [Act.put, List.setIfInBounds_toArray, List.set_cons_zero, List.set_cons_succ])
               refine Held.take2 (i := 1) (oi := ?ob1) (v := ?vb1) ?hib1 (by kernel_rfl) (by kernel_rfl) (by kernel_rfl) (by kernel_rfl) (fun _ _ _ h => h) (Or.inl ⟨?hwb1, ?hyb1⟩) (by assumption) ?restb1
               case hib1 => (simp only [List.getElem?_toArray, List.getElem?_cons_succ, List.getElem?_cons_zero]; rfl)
               case hwb1 => rfl
               case hyb1 => (intro w hSw; (try dsimp only at hSw); go_simp; try with_reducible rfl)
               (try simp only [Act.put, List.setIfInBounds_toArray, List.set_cons_zero, List.set_cons_succ])
               refine Held.take2 (i := 2) (oi := ?ob2) (v := ?vb2) ?hib2 (by kernel_rfl) (by kernel_rfl) (by kernel_rfl) (by kernel_rfl) (fun _ _ _ h => h) (Or.inl ⟨?hwb2, ?hyb2⟩) (by assumption) ?restb2
               case hib2 => (simp only [List.getElem?_toArray, List.getElem?_cons_succ, List.getElem?_cons_zero]; rfl)
               case hwb2 => rfl
               case hyb2 => (intro w hSw; (try dsimp only at hSw); go_simp; try with_reducible rfl)
               (try simp only [Act.put, List.setIfInBounds_toArray, List.set_cons_zero, List.set_cons_succ])
               refine Held.take2 (i := 3) (oi := ?ob3) (v := ?vb3) ?hib3 (by kernel_rfl) (by kernel_rfl) (by kernel_rfl) (by kernel_rfl) (fun _ _ _ h => h) (Or.inl ⟨?hwb3, ?hyb3⟩) (by assumption) ?restb3
               case hib3 => (simp only [List.getElem?_toArray, List.getElem?_cons_succ, List.getElem?_cons_zero]; rfl)
               case hwb3 => rfl
               case hyb3 => (intro w hSw; (try dsimp only at hSw); go_simp; try with_reducible rfl)
               (try simp only [Act.put, List.setIfInBounds_toArray, List.set_cons_zero, List.set_cons_succ])
               refine Held.take2 (i := 4) (oi := ?ob4) (v := ?vb4) ?hib4 (by kernel_rfl) (by kernel_rfl) (by kernel_rfl) (by kernel_rfl) (fun _ _ _ h => h) (Or.inl ⟨?hwb4, ?hyb4⟩) (by assumption) ?restb4
               case hib4 => (simp only [List.getElem?_toArray, List.getElem?_cons_succ, List.getElem?_cons_zero]; rfl)
               case hwb4 => rfl
               case hyb4 => (intro w hSw; (try dsimp only at hSw); go_simp; try with_reducible rfl)
               (try simp only [Act.put, List.setIfInBounds_toArray, List.set_cons_zero, List.set_cons_succ])
               refine Held.take2 (i := 5) (oi := ?ob5) (v := ?vb5) ?hib5 (by kernel_rfl) (by kernel_rfl) (by kernel_rfl) (by kernel_rfl) (fun _ _ _ h => h) (Or.inl ⟨?hwb5, ?hyb5⟩) (by assumption) ?restb5
               case hib5 => (simp only [List.getElem?_toArray, List.getElem?_cons_succ, List.getElem?_cons_zero]; rfl)
               case hwb5 => rfl
               case hyb5 => (intro w hSw; (try dsimp only at hSw); go_simp; try with_reducible rfl)
               (try simp only [Act.put, List.setIfInBounds_toArray, List.set_cons_zero, List.set_cons_succ])
               refine Held.take2 (i := 6) (oi := ?ob6) (v := ?vb6) ?hib6 (by kernel_rfl) (by kernel_rfl) (by kernel_rfl) (by kernel_rfl) (fun _ _ _ h => h) (Or.inl ⟨?hwb6, ?hyb6⟩) (by assumption) ?restb6
               case hib6 => (simp only [List.getElem?_toArray, List.getElem?_cons_succ, List.getElem?_cons_zero]; rfl)
               case hwb6 => rfl
               case hyb6 => (intro w hSw; (try dsimp only at hSw); go_simp; try with_reducible rfl)
               (try simp only [Act.put, List.setIfInBounds_toArray, List.set_cons_zero, List.set_cons_succ])
               refine Held.take2 (i := 7) (oi := ?ob7) (v := ?vb7) ?hib7 (by kernel_rfl) (by kernel_rfl) (by kernel_rfl) (by kernel_rfl) (fun _ _ _ h => h) (Or.inl ⟨?hwb7, ?hyb7⟩) (by assumption) ?restb7
               case hib7 => (simp only [List.getElem?_toArray, List.getElem?_cons_succ, List.getElem?_cons_zero]; rfl)
               case hwb7 => rfl
               case hyb7 => (intro w hSw; (try dsimp only at hSw); go_simp; try with_reducible rfl)
               (try simp only [Act.put, List.setIfInBounds_toArray, List.set_cons_zero, List.set_cons_succ])
               refine Held.take2 (i := 8) (oi := ?ob8) (v := ?vb8) ?hib8 (by kernel_rfl) (by kernel_rfl) (by kernel_rfl) (by kernel_rfl) (fun _ _ _ h => h) (Or.inl ⟨?hwb8, ?hyb8⟩) (by assumption) ?restb8
               case hib8 => (simp only [List.getElem?_toArray, List.getElem?_cons_succ, List.getElem?_cons_zero]; rfl)
               case hwb8 => rfl
               case hyb8 => (intro w hSw; (try dsimp only at hSw); go_simp; try with_reducible rfl)
               (try simp only [Act.put, List.setIfInBounds_toArray, List.set_cons_zero, List.set_cons_succ])
               refine Held.take2 (i := 9) (oi := ?ob9) (v := ?vb9) ?hib9 (by kernel_rfl) (by kernel_rfl) (by kernel_rfl) (by kernel_rfl) (fun _ _ _ h => h) (Or.inl ⟨?hwb9, ?hyb9⟩) (by assumption) ?restb9
               case hib9 => (simp only [List.getElem?_toArray, List.getElem?_cons_succ, List.getElem?_cons_zero]; rfl)
               case hwb9 => rfl
               case hyb9 => (intro w hSw; (try dsimp only at hSw); go_simp; try with_reducible rfl)
               (try simp only [Act.put, List.setIfInBounds_toArray, List.set_cons_zero, List.set_cons_succ])
               refine Held.take2 (i := 10) (oi := ?ob10) (v := ?vb10) ?hib10 (by kernel_rfl) (by kernel_rfl) (by kernel_rfl) (by kernel_rfl) (fun _ _ _ h => h) (Or.inl ⟨?hwb10, ?hyb10⟩) (by assumption) ?restb10
               case hib10 => (simp only [List.getElem?_toArray, List.getElem?_cons_succ, List.getElem?_cons_zero]; rfl)
               case hwb10 => rfl
               case hyb10 => (intro w hSw; (try dsimp only at hSw); go_simp; try with_reducible rfl)
               (try simp only [Act.put, List.setIfInBounds_toArray, List.set_cons_zero, List.set_cons_succ])
               refine Held.next (i := 11) (o := ?ob11) (by kernel_rfl) ?hib11 (fun K hK => ?stb11)
               case hib11 => (simp only [List.getElem?_toArray, List.getElem?_cons_succ, List.getElem?_cons_zero]; rfl)
               go_simp
               (go_at_call 137; refine (rone_any z _).mono ?_; rintro e w' ⟨rfl, rfl⟩)
               (try go_wp2_with fail)
               refine hK.out _ _ (fun _ => by exact hH0) ?_
               clear hK K
               (try simp only [Act.put, List.setIfInBounds_toArray, List.set_cons_zero, List.set_cons_succ])
               refine Held.next (i := 12) (o := ?ob12) (by kernel_rfl) ?hib12 (fun K hK => ?stb12)
               case hib12 => (simp only [List.getElem?_toArray, List.getElem?_cons_succ, List.getElem?_cons_zero]; rfl)
               go_simp
               refine hK.out _ _ (fun _ => by exact HH.out _ _ hal hH0) ?_
               clear hK K
               (try simp only [Act.put, List.setIfInBounds_toArray, List.set_cons_zero, List.set_cons_succ])
               refine Held.next (i := 13) (o := ?ob13) (by kernel_rfl) ?hib13 (fun K hK => ?stb13)
               case hib13 => (simp only [List.getElem?_toArray, List.getElem?_cons_succ, List.getElem?_cons_zero]; rfl)
               (refine wp_append_own_at2 (.tmp 76) (.tmp 88) 22 rfl wo.heap.size 3 i0 (.int .i64 0) 1 8 Tryd.underlying22 hi0 hz0 hz1 hz2 rfl (by decide) _ _ _ rfl (hown3.alloc (.cells #[.int .i64 (bitI z)] 3)) ⟨wr.heap.size, 0, none⟩ 1 1 [.int .i64 (bitI z)] rfl rfl (cell_one_new _ _ _) (by intro u hu; simp at hu; subst hu; rfl) (by unfold maxLen; omega) (by omega) (by simp; omega) ?_; intro v' w9 hown9 hgrow h9)
               refine hK.out _ _ (fun h => absurd h (by decide)) ?_
               clear hK K
               (try simp only [Act.put, List.setIfInBounds_toArray, List.set_cons_zero, List.set_cons_succ])
               have hf9 : Frm (fun _ => False) wo w9 := ((hfi.drewN 1).trans hal).grown hgrow (fun g hg hlt => by have := (hown2l g hg).1; omega)
               have hl9 : (D.take (M.ou + q)).map (Value.int .i64) ++ [.int .i64 (bitI z)] = (D.take (M.ou + q + 1)).map (.int .i64) := by rw [← HDT.out, List.map_append]; rfl
               rw [hl9] at hown9
               obtain ⟨A3, c3, rfl, _⟩ := (Sl.of_own hown9).form
               clear hgrow hl9 h9 hown2 hown3 hH0 hHeld hal HH
               refine Held.next (i := 14) (o := ?ob14) (by kernel_rfl) ?hib14 (fun K hK => ?stb14)
               case hib14 => (simp only [List.getElem?_toArray, List.getElem?_cons_succ, List.getElem?_cons_zero]; rfl)
               go_simp
               refine hK.out _ _ (fun h => absurd h (by decide)) ?_
               clear hK K
               (try simp only [Act.put, List.setIfInBounds_toArray, List.set_cons_zero, List.set_cons_succ])
               refine Held.done (by kernel_rfl) ?_ _
               refine NoPanic.normal ?_
               go_wp2_with fail
               go_roundw
               case rel => exact ⟨M.ou + q + 1, A3, c3, by omega, by go_num, rfl, hown9, hf9⟩
               case measure => simp [intOf]; omega
           · obtain rfl : i = n := by omega
             have htk : D.take i = D := List.take_of_length_le (by rw [HDLn.out]; omega)
             rw [htk] at hown2
             have HCQ := Lib.hid (HCP.out wr.drew (hfi.drewN 1) A2 c2 _ ((own_sl hown2).frm ((Frm.refl (fun _ => False) wr).drewN 1) (fun _ _ => id)))
             have hfi1 : Frm (fun g => ¬ g < w2.heap.size) w3 wr := hfk.trans (hfi.mono (T := fun g => ¬ g < w2.heap.size) (fun _ _ h => h.elim))
             have hBo := (hf0j.trans (hfi.mono (T := fun g => ¬ g < w2.heap.size) (fun _ _ h => h.elim))).cell hBc (fun h => h (show bB < w2.heap.size from by omega))
             have hH0 : wr.drew.cell? ⟨w.heap.size, 0, none⟩ = some (.bool M.ex) ∧ wr.drew.cell? ⟨w.heap.size, 1, none⟩ = some (.int .i64 (M.ou : Int)) ∧ wr.drew.cell? ⟨w.heap.size, 2, none⟩ = some (.int .i64 (i : Int)) ∧ wr.drew.cell? ⟨w.heap.size, 3, none⟩ = some (.slice A M.L.length c) ∧ wr.drew.cell? ⟨w.heap.size, 4, none⟩ = some (.slice (some ⟨bB, oB, none⟩) 1 d) ∧ wr.drew.cell? ⟨bB, oB, none⟩ = some (.int .i64 M.o) := ⟨hbi.at_ 0 rfl, hbi.at_ 1 rfl, hbi.at_ 2 rfl, hbi.at_ 3 rfl, hbi.at_ 4 rfl, hBo⟩
             have hownj := own_frm hown (hfi.drewN 1) (fun _ _ => id)
             clear htk hown2 HCP hc hsx hBo
             simp only [cv] at HCQ
             have b2 := hbi.at_ 2 rfl
             go_wp2_with fail
             have hHeld := hH0
             refine Held.begin (fun W => W.cell? ⟨w.heap.size, 0, none⟩ = some (.bool M.ex) ∧ W.cell? ⟨w.heap.size, 1, none⟩ = some (.int .i64 (M.ou : Int)) ∧ W.cell? ⟨w.heap.size, 2, none⟩ = some (.int .i64 (i : Int)) ∧ W.cell? ⟨w.heap.size, 3, none⟩ = some (.slice A M.L.length c) ∧ W.cell? ⟨w.heap.size, 4, none⟩ = some (.slice (some ⟨bB, oB, none⟩) 1 d) ∧ W.cell? ⟨bB, oB, none⟩ = some (.int .i64 M.o)) 9 (by kernel_rfl) ?_
             refine Held.take2 (i := 0) (oi := ?oc0) (v := ?vc0) ?hic0 (by kernel_rfl) (by kernel_rfl) (by kernel_rfl) (by kernel_rfl) (fun _ _ _ h => h) (Or.inl ⟨?hwc0, ?hyc0⟩) (by assumption) ?restc0
             case hic0 => (simp only [List.getElem?_toArray, List.getElem?_cons_zero]; rfl)
             case hwc0 => rfl
             case hyc0 => (intro w hSw; (try dsimp only at hSw); go_simp; try with_reducible rfl)
             (try simp only [Act.put, List.setIfInBounds_toArray, List.set_cons_zero, List.set_cons_succ])
             refine Held.take2 (i := 1) (oi := ?oc1) (v := ?vc1) ?hic1 (by kernel_rfl) (by kernel_rfl) (by kernel_rfl) (by kernel_rfl) (fun _ _ _ h => h) (Or.inl ⟨?hwc1, ?hyc1⟩) (by assumption) ?restc1
             case hic1 => (simp only [List.getElem?_toArray, List.getElem?_cons_succ, List.getElem?_cons_zero]; rfl)
             case hwc1 => rfl
             case hyc1 => (intro w hSw; (try dsimp only at hSw); go_simp; try with_reducible rfl)
             (try simp only [Act.put, List.setIfInBounds_toArray, List.set_cons_zero, List.set_cons_succ])
             refine Held.take2 (i := 2) (oi := ?oc2) (v := ?vc2) ?hic2 (by kernel_rfl) (by kernel_rfl) (by kernel_rfl) (by kernel_rfl) (fun _ _ _ h => h) (Or.inl ⟨?hwc2, ?hyc2⟩) (by assumption) ?restc2
             case hic2 => (simp only [List.getElem?_toArray, List.getElem?_cons_succ, List.getElem?_cons_zero]; rfl)
             case hwc2 => rfl
             case hyc2 => (intro w hSw; (try dsimp only at hSw); go_simp; try with_reducible rfl)
             (try simp only [Act.put, List.setIfInBounds_toArray, List.set_cons_zero, List.set_cons_succ])
             refine Held.take2 (i := 3) (oi := ?oc3) (v := ?vc3) ?hic3 (by kernel_rfl) (by kernel_rfl) (by kernel_rfl) (by kernel_rfl) (fun _ _ _ h => h) (Or.inl ⟨?hwc3, ?hyc3⟩) (by assumption) ?restc3
             case hic3 => (simp only [List.getElem?_toArray, List.getElem?_cons_succ, List.getElem?_cons_zero]; rfl)
             case hwc3 => rfl
             case hyc3 => (intro w hSw; (try dsimp only at hSw); go_simp; try with_reducible rfl)
             (try simp only [Act.put, List.setIfInBounds_toArray, List.set_cons_zero, List.set_cons_succ])
             refine Held.take2 (i := 4) (oi := ?oc4) (v := ?vc4) ?hic4 (by kernel_rfl) (by kernel_rfl) (by kernel_rfl) (by kernel_rfl) (fun _ _ _ h => h) (Or.inl ⟨?hwc4, ?hyc4⟩) (by assumption) ?restc4
             case hic4 => (simp only [List.getElem?_toArray, List.getElem?_cons_succ, List.getElem?_cons_zero]; rfl)
             case hwc4 => rfl
             case hyc4 => (intro w hSw; (try dsimp only at hSw); go_simp; try with_reducible rfl)
             (try simp only [Act.put, List.setIfInBounds_toArray, List.set_cons_zero, List.set_cons_succ])
             refine Held.take2 (i := 5) (oi := ?oc5) (v := ?vc5) ?hic5 (by kernel_rfl) (by kernel_rfl) (by kernel_rfl) (by kernel_rfl) (fun _ _ _ h => h) (Or.inl ⟨?hwc5, ?hyc5⟩) (by assumption) ?restc5
             case hic5 => (simp only [List.getElem?_toArray, List.getElem?_cons_succ, List.getElem?_cons_zero]; rfl)
             case hwc5 => rfl
             case hyc5 => (intro w hSw; (try dsimp only at hSw); go_simp; try with_reducible rfl)
             (try simp only [Act.put, List.setIfInBounds_toArray, List.set_cons_zero, List.set_cons_succ])
             refine Held.take2 (i := 6) (oi := ?oc6) (v := ?vc6) ?hic6 (by kernel_rfl) (by kernel_rfl) (by kernel_rfl) (by kernel_rfl) (fun _ _ _ h => h) (Or.inl ⟨?hwc6, ?hyc6⟩) (by assumption) ?restc6
             case hic6 => (simp only [List.getElem?_toArray, List.getElem?_cons_succ, List.getElem?_cons_zero]; rfl)
             case hwc6 => rfl
             case hyc6 => (intro w hSw; (try dsimp only at hSw); go_simp; try with_reducible rfl)
             (try simp only [Act.put, List.setIfInBounds_toArray, List.set_cons_zero, List.set_cons_succ])
             refine Held.take2 (i := 7) (oi := ?oc7) (v := ?vc7) ?hic7 (by kernel_rfl) (by kernel_rfl) (by kernel_rfl) (by kernel_rfl) (fun _ _ _ h => h) (Or.inl ⟨?hwc7, ?hyc7⟩) (by assumption) ?restc7
             case hic7 => (simp only [List.getElem?_toArray, List.getElem?_cons_succ, List.getElem?_cons_zero]; rfl)
             case hwc7 => rfl
             case hyc7 => (intro w hSw; (try dsimp only at hSw); go_simp; try with_reducible rfl)
             (try simp only [Act.put, List.setIfInBounds_toArray, List.set_cons_zero, List.set_cons_succ])
             refine Held.take2 (i := 8) (oi := ?oc8) (v := ?vc8) ?hic8 (by kernel_rfl) (by kernel_rfl) (by kernel_rfl) (by kernel_rfl) (fun _ _ _ h => h) (Or.inl ⟨?hwc8, ?hyc8⟩) (by assumption) ?restc8
             case hic8 => (simp only [List.getElem?_toArray, List.getElem?_cons_succ, List.getElem?_cons_zero]; rfl)
             case hwc8 => rfl
             case hyc8 => (intro w hSw; (try dsimp only at hSw); go_simp; try with_reducible rfl)
             (try simp only [Act.put, List.setIfInBounds_toArray, List.set_cons_zero, List.set_cons_succ])
             refine Held.next (i := 9) (o := ?oc9) (by kernel_rfl) ?hic9 (fun K hK => ?stc9)
             case hic9 => (simp only [List.getElem?_toArray, List.getElem?_cons_succ, List.getElem?_cons_zero]; rfl)
             go_simp
             (go_at_call 91; refine HCQ.out.mono ?_; rintro e w5 ⟨rfl, hO5, hf5⟩)
             (try go_wp2_with fail)
             refine hK.out _ _ (fun h => absurd h (by decide)) ?_
             clear hK K
             (try simp only [Act.put, List.setIfInBounds_toArray, List.set_cons_zero, List.set_cons_succ])
             refine Held.next (i := 10) (o := ?oc10) (by kernel_rfl) ?hic10 (fun K hK => ?stc10)
             case hic10 => (simp only [List.getElem?_toArray, List.getElem?_cons_succ, List.getElem?_cons_zero]; rfl)
             go_simp
             refine hK.out _ _ (fun h => absurd h (by decide)) ?_
             clear hK K
             (try simp only [Act.put, List.setIfInBounds_toArray, List.set_cons_zero, List.set_cons_succ])
             refine Held.done (by kernel_rfl) ?_ _
             refine NoPanic.normal ?_
             have hb5 := (hbi.drewN 1).frm hf5 (fun h => h (.inl (by omega)))
             have b0 := hb5.at_ 0 rfl
             have hown5 := own_frm hownj hf5 (fun g hg h => h (.inr hg))
             have hs5 : wr.heap.size ≤ w5.heap.size := hf5.size
             clear hH0 hHeld HCQ hownj hbi
             go_wp2_with fail
             refine (rone_any M.ex _).mono ?_
             rintro e w' ⟨rfl, rfl⟩
             go_wp2_with (at_builtin; refine wpList_append_own_at _ rfl (.tmp 100) (.tmp 106) 22 rfl w3.heap.size 3 i0 (.int .i64 0) 1 8 Tryd.underlying22 hi0 hz0 hz1 hz2 rfl (by decide) _ _ _ rfl (hown5.alloc (.cells #[.int .i64 y] 3)) ⟨w5.heap.size, 0, none⟩ 1 1 [.int .i64 y] rfl rfl (cell_one_new _ _ _) ?e2 ?e3 ?e4 ?e5 ?_)
             case e2 => first | (intro u hu; simp at hu; subst hu; rfl) | rfl
             case e3 => unfold maxLen; omega
             case e4 => omega
             case e5 => first | omega | (simp; omega) | simp
             intro v' w9 hown9 hgrow _ h9
             have hgr : Frm (fun g => (Value.slice A1 j c1).ownBlock = some g) w5 w9 := (((Frm.refl (fun g => (Value.slice A1 j c1).ownBlock = some g) w5).alloc (.cells #[.int .i64 y] 3)).grown hgrow (fun g hg hlt => hg))
             have hO9 := OnX.wideK (K' := fun g' => g' < w2.heap.size ∨ v'.ownBlock = some g') hO5 hgr (fun g' _ h => .inr h) (fun g' h => by rcases h with h | h; exact .inl (.inl h); rcases h9 with e | e; exact .inl (.inr (e ▸ h)); (have hlt9 := (hown9.lt g' h).2; rw [e] at h; simp at h; exact .inr ⟨by omega, hlt9⟩))
             have hfk9 : Frm (fun g => ¬ g < w2.heap.size) w3 w9 := ((hfi1.drewN 1).trans' hf5 (fun _ _ h => h) (fun g _ h hlt => h (.inl hlt))).trans' hgr (fun _ _ h => h) (fun g hg h => by have := (hownl g h).1; omega)
             obtain ⟨A3, c3, rfl, _⟩ := (Sl.of_own hown9).form
             clear hgrow hown5 hO5 hf5 h9 hgr hown b0 hb5
             go_wp2_with fail
             go_roundw
             case rel => exact ⟨j + 1, A3, c3, (s.1 ++ [y], gr), by omega, by go_num, rfl, HST.out, hO9, by simpa using hown9, hfk9⟩
             case measure => simp [intOf]; omega
       · obtain rfl : j = k' := by omega
         have hofs := fun i (hi : i ≤ M.inn) => of_of hbf HKL.out i (by
           have h1 := hbf.len; have h2 := HSZ.out; have h3 := HMUL.out
           have h4 : i * (3 * j) ≤ M.inn * (3 * (j + 1)) := Nat.mul_le_mul hi (by omega)
           omega)
         have hlim : s.2.len + M.inn * (3 * j) ≤ 7000 := by
           have h1 := hbf.len; have h2 := HSZ.out; have h3 := HMUL.out
           have h4 : M.inn * (3 * j) ≤ M.inn * (3 * (j + 1)) := Nat.mul_le_mul (Nat.le_refl _) (by omega)
           omega
         have hlimi := fun i (hi : i ≤ M.inn) => (Nat.mul_le_mul hi (Nat.le_refl _) : i * (3 * j) ≤ M.inn * (3 * j))
         have HOF := Lib.hid hofs
         have HLIM := Lib.hid hlimi
         have HBL := Lib.hid hbf.lits
         have HBM := Lib.hid hbf.many
         have hst := fun i => (show outsRun s.1 mvs s.2 (i + 1) = ((outsRun s.1 mvs s.2 i).1 ++ [(muxDown s.1 mvs i j (bitI ((mvs.getD j []).getD i false), (outsRun s.1 mvs s.2 i).2)).1], (muxDown s.1 mvs i j (bitI ((mvs.getD j []).getD i false), (outsRun s.1 mvs s.2 i).2)).2) from by
           rw [outs_succ]; unfold outStep; rw [show mvs.length - 1 = j from by rw [HKL.out]; omega])
         have HST := Lib.hid hst
         have hfin : M.fn mvs = outsRun s.1 mvs s.2 M.inn := by rw [HFN.out, HS.out]
         have HFIN := Lib.hid hfin
         have hr00 : outsRun s.1 mvs s.2 0 = ([], s.2) := rfl
         have HR00 := Lib.hid hr00
         have hownB := hown
         have hownBl := hownB.lt
         have hslen := hbf.len
         obtain ⟨K1, hK1⟩ : ∃ K1 : Nat → Prop, K1 = fun g => g < w2.heap.size ∨ (Value.slice A1 j c1).ownBlock = some g := ⟨_, rfl⟩
         have hK1a : ∀ g, g < w2.heap.size → K1 g := by rw [hK1]; exact fun g h => .inl h
         have hK1b : ∀ g, (Value.slice A1 j c1).ownBlock = some g → K1 g := by rw [hK1]; exact fun g h => .inr h
         have hK1c : ∀ g, K1 g → g < w2.heap.size ∨ (Value.slice A1 j c1).ownBlock = some g := by rw [hK1]; exact fun g h => h
         have hO1 : OnX K1 wr gb s.2 := by rw [hK1]; exact hO
         clear hK1 hO hofs hlimi hst hfin hr00 hbf hown hj hlt HBF HBT HMV HMU HDL
         obtain ⟨W5, rfl⟩ : ∃ W5, W5 = wr := ⟨_, rfl⟩
         have b1 := hbj.at_ 1 rfl
         have b2 := hbj.at_ 2 rfl
         go_wp2_with fail
         go_loopw [14, 15] (fun ov iv wr => ∃ (i : Nat) (A2 : Option Addr) (c2 : Nat) (s2 : List Int × Gr), i ≤ M.inn ∧ iv = .int .i64 (i : Int) ∧ ov = .slice A2 i c2 ∧ outsRun s.1 mvs s.2 i = s2 ∧ OnX (fun g => K1 g ∨ (Value.slice A2 i c2).ownBlock = some g) wr gb s2.2 ∧
           wr.ownsRow W5.heap.size 3 1 (.slice A2 i c2) i (s2.1.map (.int .i64)) ∧ Frm (fun g => ¬ K1 g) W5 wr) (fun _ iv _ => M.inn - (intOf iv).toNat)
         case atStart => exact ⟨0, none, 0, ([], s.2), by omega, rfl, rfl, HR00.out, OnX.wide hO1 (Frm.refl (fun _ => False) _) (fun g h => by rcases h with h | h; exact .inl h; simp [Value.ownBlock] at h), World.ownsRow_nil _ _ _ _, Frm.refl _ _⟩
         case round =>
           clear hO1 HR00 b1 b2
           obtain ⟨i, A2, c2, s2, hi, rfl, rfl, hs2e, hO2, hown2, hfr⟩ := hrel
           have hbq := hbj.frm hfr (fun h => h (hK1a _ (by omega)))
           have b0 := hbq.at_ 0 rfl
           have b1 := hbq.at_ 1 rfl
           have b2 := hbq.at_ 2 rfl
           have b3 := hbq.at_ 3 rfl
           have b4 := hbq.at_ 4 rfl
           have HS2' := Lib.hid hs2e
           clear hs2e hbq
           go_wp2_with fail
           refine (HIN.out wr).mono ?_
           rintro e wI ⟨rfl, hfI⟩
           have hs2e := HS2'.out
           replace hO2 := hO2.frm hfI
           replace hown2 := own_frm hown2 hfI (fun _ _ => id)
           replace hfr := hfr.trans (hfI.mono (T := fun g => ¬ K1 g) (fun _ _ h => h.elim))
           clear b0 b1 b2 b3 b4 hfI HS2'
           obtain ⟨wr, rfl⟩ : ∃ wr, wr = wI := ⟨_, rfl⟩
           have hof := HOF.out i hi
           rw [hs2e] at hof
           have hli := HLIM.out i hi
           have hfwr : Frm (fun g => ¬ g < w2.heap.size) w wr := hf0j.trans' hfr (fun _ _ h => h) (fun g _ h hlt => h (hK1a g hlt))
           have hbr := hbj.frm hfr (fun h => h (hK1a _ (by omega)))
           have hrr := hrj.frm hfr (fun h => h (hK1a _ (by omega)))
           have hRr := hRw.frm hfwr (fun g hg => by omega)
           have hownBr := own_frm hownB hfr (fun g hg h => h (hK1b g hg))
           have hsr := hfr.size
           have HS2 := Lib.hid hs2e
           clear hs2e
           by_cases hil : i < M.inn
           · have hle1 := HLEN.out j (by omega)
             obtain ⟨b, o, Bx, dx, b9, o9, e1, hFb, hc, e2, hFb2, hc2⟩ := hRr.cell2 (j := j) (i := i) (by omega) (by omega)
             cases e1
             cases e2
             have hst := HST.out i
             rw [HS2.out] at hst
             have HSTP := Lib.hid hst
             clear hst
             obtain ⟨z, hz⟩ : ∃ z, (mvs.getD j []).getD i false = z := ⟨_, rfl⟩
             rw [hz] at hc2 HSTP
             have hxl : i < (mvs.getD j []).length := by omega
             clear hz hle1
             generalize (mvs.getD j []).length = xl at *
             have i0' : (0 : Int) ≤ i := by omega
             have i1' : (i : Int) < xl := by omega
             have i2' : (i : Int) < M.inn := by omega
             have q0 : (0 : Int) ≤ j := by omega
             have q1 : (j : Int) < (j : Int) + 1 := by omega
             have wj : IntKind.i64.wrap ((j : Int) - 1) = (j : Int) - 1 := IntWalk.i64_in _ (by omega)
             have HBIT := Lib.hid (fun (W : World) => rone_any z W)
             obtain ⟨K2, hK2⟩ : ∃ K2 : Nat → Prop, K2 = fun g => K1 g ∨ (Value.slice A2 i c2).ownBlock = some g := ⟨_, rfl⟩
             have hO2' : OnX K2 wr gb s2.2 := by rw [hK2]; exact hO2
             have hK2a : ∀ g, K1 g → K2 g := by rw [hK2]; exact fun g h => .inl h
             have hK2b : ∀ g, (Value.slice A2 i c2).ownBlock = some g → K2 g := by rw [hK2]; exact fun g h => .inr h
             have hK2c : ∀ g, K2 g → K1 g ∨ (Value.slice A2 i c2).ownBlock = some g := by rw [hK2]; exact fun g h => h
             have hbl0 : ∀ x ∈ s.1, isL x s2.2.len = true := fun x hx => isL_up (HBL.out x hx) hof.low
             have hz0 := bit_isL z s2.2.len
             have hln0 : s2.2.len + 3 * j ≤ 7400 := by
               have h1 := hof.len
               have h2 := HLIM.out (i + 1) (by omega)
               rw [Nat.add_mul, Nat.one_mul] at h2
               omega
             have HMD := Lib.hid hof.made
             have HB0 := Lib.hid hbl0
             clear hK2 hO2 hof hli hbl0
             go_wp2_with fail
             refine (HBIT.out _).mono ?_
             rintro e w' ⟨rfl, rfl⟩
             obtain ⟨wo, rfl⟩ : ∃ wo, wo = wr := ⟨_, rfl⟩
             go_wp2_with fail
             go_loopw [16, 17] (fun lv kv wr => ∃ (q : Nat) (s3 : Int × Gr), q ≤ j ∧ kv = .int .i64 ((q : Int) - 1) ∧ lv = .int .i64 s3.1 ∧ muxDown s.1 mvs i q s3 = muxDown s.1 mvs i j (bitI z, s2.2) ∧ Made s3.2.n s3.2.ands ∧ (∀ x ∈ s.1, isL x s3.2.len = true) ∧ isL s3.1 s3.2.len = true ∧ s3.2.len + 3 * q ≤ 7400 ∧ OnX K2 wr gb s3.2 ∧ Frm (fun g => ¬ K2 g) wo wr) (fun _ kv _ => (intOf kv + 1).toNat)
             case atStart => exact ⟨j, (bitI z, s2.2), by omega, rfl, rfl, rfl, HMD.out, HB0.out, hz0, hln0, hO2', Frm.refl _ _⟩
             case round =>
               clear hO2' HMD HB0 hz0 hln0
               obtain ⟨q, s3, hq, rfl, rfl, hmx, hmd3, hbl3, hl3, hln3, hO3, hfq⟩ := hrel
               have HMX := Lib.hid hmx
               clear hmx
               by_cases hq0 : 0 < q
               · obtain ⟨q', rfl⟩ : ∃ q', q = q' + 1 := ⟨q - 1, by omega⟩
                 have hqi : (((q' + 1 : Nat) : Int) - 1) = (q' : Int) := by omega
                 rw [hqi]
                 clear hqi
                 have hownBq := own_frm hownBr hfq (fun g hg h => h (hK2a g (hK1b g hg)))
                 obtain ⟨gB, rfl, _⟩ := own_ptr hownBq (by omega)
                 have hbm := HBM.out
                 have hcb := own_at hownBq (i := q') (u := .int .i64 (s.1.getD q' 0)) (by rw [List.getElem?_map, List.getElem?_eq_getElem (by omega)]; simp [List.getD, show q' < s.1.length by omega])
                 have hfwq : Frm (fun g => ¬ g < w2.heap.size) w wr := hfwr.trans' hfq (fun _ _ h => h) (fun g _ h hlt => h (hK2a g (hK1a g hlt)))
                 have hle2 := HLEN.out q' (by omega)
                 obtain ⟨b, o, Bx, dx, b9, o9, e1, hFb, hcc, e2, hFb2, hcc2⟩ := (hRw.frm hfwq (fun g hg => by omega)).cell2 (j := q') (i := i) (by omega) (by omega)
                 cases e1
                 cases e2
                 have hms : muxDown s.1 mvs i (q' + 1) s3 = muxDown s.1 mvs i q' (muxG s3.2 (s.1.getD q' 0) (bitI ((mvs.getD q' []).getD i false)) s3.1) := rfl
                 have hbl := getD_isL hbl3 q'
                 obtain ⟨v, hv⟩ : ∃ v, (mvs.getD q' []).getD i false = v := ⟨_, rfl⟩
                 rw [hv] at hcc2 hms
                 have hxl2 : i < (mvs.getD q' []).length := by omega
                 clear hv hle2
                 generalize (mvs.getD q' []).length = xl2 at *
                 have hmu := mux_up hmd3 hbl (bit_isL v s3.2.len) hl3 (by omega)
                 have HMS := Lib.hid (hms.symm.trans HMX.out)
                 have HMUX := Lib.hid (onx_mux (hO3.drewN 1) (s.1.getD q' 0) (bitI v) s3.1 hbl (bit_isL v s3.2.len) hl3 (by omega))
                 have HBIT2 := Lib.hid (fun (W : World) => rone_any v W)
                 have hbl3' : ∀ x ∈ s.1, isL x (muxG s3.2 (s.1.getD q' 0) (bitI v) s3.1).2.len = true := fun x hx => hmu.1.isL (hbl3 x hx)
                 have hmd' := hmu.1.made
                 have hl3' := hmu.2
                 have hln' : (muxG s3.2 (s.1.getD q' 0) (bitI v) s3.1).2.len + 3 * q' ≤ 7400 := by have := hmu.1.high; omega
                 clear hms hbl hmu HMX hmd3 hbl3 hl3 hln3
                 generalize muxG s3.2 (s.1.getD q' 0) (bitI v) s3.1 = s4 at *
                 generalize s.1.getD q' 0 = bq at *
                 have HBL3 := Lib.hid hbl3'
                 have HMD3 := Lib.hid hmd'
                 clear hbl3' hmd'
                 have p0 : (0 : Int) ≤ q' := by omega
                 have p1 : (q' : Int) < j := by omega
                 have p2 : (q' : Int) < (j : Int) + 1 := by omega
                 have p3 : (i : Int) < xl2 := by omega
                 have wq : IntKind.i64.wrap ((q' : Int) - 1) = (q' : Int) - 1 := IntWalk.i64_in _ (by omega)
                 have hHH := Lib.hid (fun (W W' : World) (hf : Frm (fun g => ¬ K2 g) W W') (h : W.cell? ⟨gB, q', none⟩ = some (.int .i64 bq) ∧ W.cell? ⟨av, ao + q', none⟩ = some (.slice (some ⟨b9, o9, none⟩) xl2 dx) ∧ W.cell? ⟨b9, o9 + i, none⟩ = some (.bool v)) =>
                   show W'.cell? ⟨gB, q', none⟩ = some (.int .i64 bq) ∧ W'.cell? ⟨av, ao + q', none⟩ = some (.slice (some ⟨b9, o9, none⟩) xl2 dx) ∧ W'.cell? ⟨b9, o9 + i, none⟩ = some (.bool v) from ⟨hf.cell h.1 (fun e => e (hK2a _ (hK1b _ rfl))), hf.cell h.2.1 (fun e => e (hK2a _ (hK1a _ (by simp at hFb ⊢; omega)))), hf.cell h.2.2 (fun e => e (hK2a _ (hK1a _ (by simp at hFb2 ⊢; omega))))⟩)
                 have hH0 : wr.drew.cell? ⟨gB, q', none⟩ = some (.int .i64 bq) ∧ wr.drew.cell? ⟨av, ao + q', none⟩ = some (.slice (some ⟨b9, o9, none⟩) xl2 dx) ∧ wr.drew.cell? ⟨b9, o9 + i, none⟩ = some (.bool v) := ⟨hcb, hcc, hcc2⟩
                 clear hcb hcc hcc2 hc hc2
                 go_wp2_with fail
                 have hHeld := hH0
                 refine Held.begin (fun w' => w'.cell? ⟨gB, q', none⟩ = some (.int .i64 bq) ∧ w'.cell? ⟨av, ao + q', none⟩ = some (.slice (some ⟨b9, o9, none⟩) xl2 dx) ∧ w'.cell? ⟨b9, o9 + i, none⟩ = some (.bool v)) 15 (by kernel_rfl) ?_
                 refine Held.take (i := 0) (oi := ?od0) (v := ?vd0) ?hid0 (by kernel_rfl) (by kernel_rfl) (by kernel_rfl) (by kernel_rfl) (fun _ _ _ h => h) (Or.inl ⟨?hwd0, ?hyd0⟩) (by assumption) ?restd0
                 case hid0 => (simp only [List.getElem?_toArray, List.getElem?_cons_zero]; rfl)
                 case hwd0 => rfl
                 case hyd0 => (intro w hSw; (try dsimp only at hSw); go_simp; try with_reducible rfl)
                 (try simp only [Act.put, List.setIfInBounds_toArray, List.set_cons_zero, List.set_cons_succ])
                 refine Held.take (i := 1) (oi := ?od1) (v := ?vd1) ?hid1 (by kernel_rfl) (by kernel_rfl) (by kernel_rfl) (by kernel_rfl) (fun _ _ _ h => h) (Or.inl ⟨?hwd1, ?hyd1⟩) (by assumption) ?restd1
                 case hid1 => (simp only [List.getElem?_toArray, List.getElem?_cons_succ, List.getElem?_cons_zero]; rfl)
                 case hwd1 => rfl
                 case hyd1 => (intro w hSw; (try dsimp only at hSw); go_simp; try with_reducible rfl)
                 (try simp only [Act.put, List.setIfInBounds_toArray, List.set_cons_zero, List.set_cons_succ])
                 refine Held.take (i := 2) (oi := ?od2) (v := ?vd2) ?hid2 (by kernel_rfl) (by kernel_rfl) (by kernel_rfl) (by kernel_rfl) (fun _ _ _ h => h) (Or.inl ⟨?hwd2, ?hyd2⟩) (by assumption) ?restd2
                 case hid2 => (simp only [List.getElem?_toArray, List.getElem?_cons_succ, List.getElem?_cons_zero]; rfl)
                 case hwd2 => rfl
                 case hyd2 => (intro w hSw; (try dsimp only at hSw); go_simp; try with_reducible rfl)
                 (try simp only [Act.put, List.setIfInBounds_toArray, List.set_cons_zero, List.set_cons_succ])
                 refine Held.take (i := 3) (oi := ?od3) (v := ?vd3) ?hid3 (by kernel_rfl) (by kernel_rfl) (by kernel_rfl) (by kernel_rfl) (fun _ _ _ h => h) (Or.inl ⟨?hwd3, ?hyd3⟩) (by assumption) ?restd3
                 case hid3 => (simp only [List.getElem?_toArray, List.getElem?_cons_succ, List.getElem?_cons_zero]; rfl)
                 case hwd3 => rfl
                 case hyd3 => (intro w hSw; (try dsimp only at hSw); go_simp; try with_reducible rfl)
                 (try simp only [Act.put, List.setIfInBounds_toArray, List.set_cons_zero, List.set_cons_succ])
                 refine Held.take (i := 4) (oi := ?od4) (v := ?vd4) ?hid4 (by kernel_rfl) (by kernel_rfl) (by kernel_rfl) (by kernel_rfl) (fun _ _ _ h => h) (Or.inl ⟨?hwd4, ?hyd4⟩) (by assumption) ?restd4
                 case hid4 => (simp only [List.getElem?_toArray, List.getElem?_cons_succ, List.getElem?_cons_zero]; rfl)
                 case hwd4 => rfl
                 case hyd4 => (intro w hSw; (try dsimp only at hSw); go_simp; try with_reducible rfl)
                 (try simp only [Act.put, List.setIfInBounds_toArray, List.set_cons_zero, List.set_cons_succ])
                 refine Held.take (i := 5) (oi := ?od5) (v := ?vd5) ?hid5 (by kernel_rfl) (by kernel_rfl) (by kernel_rfl) (by kernel_rfl) (fun _ _ _ h => h) (Or.inl ⟨?hwd5, ?hyd5⟩) (by assumption) ?restd5
                 case hid5 => (simp only [List.getElem?_toArray, List.getElem?_cons_succ, List.getElem?_cons_zero]; rfl)
                 case hwd5 => rfl
                 case hyd5 => (intro w hSw; (try dsimp only at hSw); go_simp; try with_reducible rfl)
                 (try simp only [Act.put, List.setIfInBounds_toArray, List.set_cons_zero, List.set_cons_succ])
                 refine Held.take (i := 6) (oi := ?od6) (v := ?vd6) ?hid6 (by kernel_rfl) (by kernel_rfl) (by kernel_rfl) (by kernel_rfl) (fun _ _ _ h => h) (Or.inl ⟨?hwd6, ?hyd6⟩) (by assumption) ?restd6
                 case hid6 => (simp only [List.getElem?_toArray, List.getElem?_cons_succ, List.getElem?_cons_zero]; rfl)
                 case hwd6 => rfl
                 case hyd6 => (intro w hSw; (try dsimp only at hSw); go_simp; try with_reducible rfl)
                 (try simp only [Act.put, List.setIfInBounds_toArray, List.set_cons_zero, List.set_cons_succ])
                 refine Held.take (i := 7) (oi := ?od7) (v := ?vd7) ?hid7 (by kernel_rfl) (by kernel_rfl) (by kernel_rfl) (by kernel_rfl) (fun _ _ _ h => h) (Or.inl ⟨?hwd7, ?hyd7⟩) (by assumption) ?restd7
                 case hid7 => (simp only [List.getElem?_toArray, List.getElem?_cons_succ, List.getElem?_cons_zero]; rfl)
                 case hwd7 => rfl
                 case hyd7 => (intro w hSw; (try dsimp only at hSw); go_simp; try with_reducible rfl)
                 (try simp only [Act.put, List.setIfInBounds_toArray, List.set_cons_zero, List.set_cons_succ])
                 refine Held.take (i := 8) (oi := ?od8) (v := ?vd8) ?hid8 (by kernel_rfl) (by kernel_rfl) (by kernel_rfl) (by kernel_rfl) (fun _ _ _ h => h) (Or.inl ⟨?hwd8, ?hyd8⟩) (by assumption) ?restd8
                 case hid8 => (simp only [List.getElem?_toArray, List.getElem?_cons_succ, List.getElem?_cons_zero]; rfl)
                 case hwd8 => rfl
                 case hyd8 => (intro w hSw; (try dsimp only at hSw); go_simp; try with_reducible rfl)
                 (try simp only [Act.put, List.setIfInBounds_toArray, List.set_cons_zero, List.set_cons_succ])
                 refine Held.take (i := 9) (oi := ?od9) (v := ?vd9) ?hid9 (by kernel_rfl) (by kernel_rfl) (by kernel_rfl) (by kernel_rfl) (fun _ _ _ h => h) (Or.inl ⟨?hwd9, ?hyd9⟩) (by assumption) ?restd9
                 case hid9 => (simp only [List.getElem?_toArray, List.getElem?_cons_succ, List.getElem?_cons_zero]; rfl)
                 case hwd9 => rfl
                 case hyd9 => (intro w hSw; (try dsimp only at hSw); go_simp; try with_reducible rfl)
                 (try simp only [Act.put, List.setIfInBounds_toArray, List.set_cons_zero, List.set_cons_succ])
                 refine Held.take (i := 10) (oi := ?od10) (v := ?vd10) ?hid10 (by kernel_rfl) (by kernel_rfl) (by kernel_rfl) (by kernel_rfl) (fun _ _ _ h => h) (Or.inl ⟨?hwd10, ?hyd10⟩) (by assumption) ?restd10
                 case hid10 => (simp only [List.getElem?_toArray, List.getElem?_cons_succ, List.getElem?_cons_zero]; rfl)
                 case hwd10 => rfl
                 case hyd10 => (intro w hSw; (try dsimp only at hSw); go_simp; try with_reducible rfl)
                 (try simp only [Act.put, List.setIfInBounds_toArray, List.set_cons_zero, List.set_cons_succ])
                 refine Held.take (i := 11) (oi := ?od11) (v := ?vd11) ?hid11 (by kernel_rfl) (by kernel_rfl) (by kernel_rfl) (by kernel_rfl) (fun _ _ _ h => h) (Or.inl ⟨?hwd11, ?hyd11⟩) (by assumption) ?restd11
                 case hid11 => (simp only [List.getElem?_toArray, List.getElem?_cons_succ, List.getElem?_cons_zero]; rfl)
                 case hwd11 => rfl
                 case hyd11 => (intro w hSw; (try dsimp only at hSw); go_simp; try with_reducible rfl)
                 (try simp only [Act.put, List.setIfInBounds_toArray, List.set_cons_zero, List.set_cons_succ])
                 refine Held.take (i := 13) (oi := ?od13) (v := ?vd13) ?hid13 (by kernel_rfl) (by kernel_rfl) (by kernel_rfl) (by kernel_rfl) (fun _ _ _ h => h) (Or.inl ⟨?hwd13, ?hyd13⟩) (by assumption) ?restd13
                 case hid13 => (simp only [List.getElem?_toArray, List.getElem?_cons_succ, List.getElem?_cons_zero]; rfl)
                 case hwd13 => rfl
                 case hyd13 => (intro w hSw; (try dsimp only at hSw); go_simp; try with_reducible rfl)
                 (try simp only [Act.put, List.setIfInBounds_toArray, List.set_cons_zero, List.set_cons_succ])
                 refine Held.next (i := 12) (o := ?od12) (by kernel_rfl) ?hid12 (fun K hK => ?std12)
                 case hid12 => (simp only [List.getElem?_toArray, List.getElem?_cons_succ, List.getElem?_cons_zero]; rfl)
                 go_simp
                 (go_at_call 137; refine (HBIT2.out _).mono ?_; rintro e w' ⟨rfl, rfl⟩)
                 (try go_wp2_with fail)
                 refine hK.out _ _ (fun _ => by assumption) ?_
                 clear hK K
                 (try simp only [Act.put, List.setIfInBounds_toArray, List.set_cons_zero, List.set_cons_succ])
                 refine Held.next (i := 14) (o := ?od14) (by kernel_rfl) ?hid14 (fun K hK => ?std14)
                 case hid14 => (simp only [List.getElem?_toArray, List.getElem?_cons_succ, List.getElem?_cons_zero]; rfl)
                 go_simp
                 (go_at_call 82; refine HMUX.out.mono ?_; rintro e w5 ⟨rfl, hO5, hf5⟩)
                 (try go_wp2_with fail)
                 refine hK.out _ _ (fun _ => by exact hHH.out _ _ hf5 hHeld) ?_
                 clear hK K
                 (try simp only [Act.put, List.setIfInBounds_toArray, List.set_cons_zero, List.set_cons_succ])
                 refine Held.next (i := 15) (o := ?od15) (by kernel_rfl) ?hid15 (fun K hK => ?std15)
                 case hid15 => (simp only [List.getElem?_toArray, List.getElem?_cons_succ, List.getElem?_cons_zero]; rfl)
                 go_simp
                 refine hK.out _ _ (fun h => absurd h (by decide)) ?_
                 clear hK K
                 (try simp only [Act.put, List.setIfInBounds_toArray, List.set_cons_zero, List.set_cons_succ])
                 refine Held.done (by kernel_rfl) ?_ _
                 refine NoPanic.normal ?_
                 go_wp2_with fail
                 go_roundw
                 case rel => exact ⟨q', s4, by omega, rfl, rfl, HMS.out, HMD3.out, HBL3.out, hl3', hln', hO5, (hfq.drewN 1).trans hf5⟩
                 case measure => simp [intOf] <;> omega
               · obtain rfl : q = 0 := by omega
                 have hmx0 : s3 = muxDown s.1 mvs i j (bitI z, s2.2) := HMX.out
                 have hstp := HSTP.out
                 rw [← hmx0] at hstp
                 have HSP := Lib.hid hstp
                 clear hmx0 hstp HMX HSTP hmd3 hbl3 hl3 hln3
                 have hown3 := own_frm hown2 hfq (fun g hg h => h (hK2b g hg))
                 have hown3l := hown3.lt
                 have hsq := hfq.size
                 have hfWq : Frm (fun g => ¬ K1 g) W5 wr := hfr.trans' hfq (fun _ _ h => h) (fun g _ h hk => h (hK2a g hk))
                 obtain ⟨r3, g3⟩ := s3
                 simp only at hO3 HSP
                 go_wp2_with (at_builtin; refine wpList_append_own_at _ rfl (.tmp 146) (.tmp 148) 22 rfl W5.heap.size 3 i0 (.int .i64 0) 1 8 Tryd.underlying22 hi0 hz0 hz1 hz2 rfl (by decide) _ _ _ rfl (hown3.alloc (.cells #[.int .i64 r3] 3)) ⟨wr.heap.size, 0, none⟩ 1 1 [.int .i64 r3] rfl rfl (cell_one_new _ _ _) ?e2 ?e3 ?e4 ?e5 ?_)
                 case e2 => first | (intro u hu; simp at hu; subst hu; rfl) | rfl
                 case e3 => unfold maxLen; omega
                 case e4 => omega
                 case e5 => first | omega | (simp; omega) | simp
                 intro v' w9 hown9 hgrow _ h9
                 have hgr : Frm (fun g => (Value.slice A2 i c2).ownBlock = some g) wr w9 := (((Frm.refl (fun g => (Value.slice A2 i c2).ownBlock = some g) wr).alloc (.cells #[.int .i64 r3] 3)).grown hgrow (fun g hg hlt => hg))
                 have hO9 := OnX.wideK (K' := fun g' => K1 g' ∨ v'.ownBlock = some g') hO3 hgr (fun g' _ h => hK2b g' h) (fun g' h => by
                   rcases h with h | h
                   · exact .inl (hK2a g' h)
                   · rcases h9 with e | e
                     · exact .inl (hK2b g' (e ▸ h))
                     · have hlt9 := (hown9.lt g' h).2
                       rw [e] at h
                       simp at h
                       exact .inr ⟨by omega, hlt9⟩)
                 have hfW9 : Frm (fun g => ¬ K1 g) W5 w9 := hfWq.trans' hgr (fun _ _ h => h) (fun g hg h => by have := (hown3l g h).1; omega)
                 obtain ⟨A3, c3, rfl, _⟩ := (Sl.of_own hown9).form
                 clear hgrow hown3 hgr hO3 h9
                 go_wp2_with fail
                 go_roundw
                 case rel => exact ⟨i + 1, A3, c3, (s2.1 ++ [r3], g3), by omega, by go_num, rfl, HSP.out, hO9, by simpa using hown9, hfW9⟩
                 case measure => simp [intOf]; omega
           · obtain rfl : i = M.inn := by omega
             have hfnn : M.fn mvs = s2 := by rw [HFIN.out, HS2.out]
             have hnum := hof.num
             have hmany := hof.many
             obtain ⟨xp, ⟨_, _, Ax, cx, hbk, _⟩, _⟩ := id hO2
             rw [hof.bad] at hbk
             have hbad := hbk.at_ 2 rfl
             have HCI := Lib.hid (onx_circuit hO2 A2 M.inn c2 _ s2.1 hmany (by omega) (Sl.of_own hown2))
             have HFF := Lib.hid hfnn
             have HMM := Lib.hid hmany
             have HNU := Lib.hid hnum
             clear hbk hof hfnn hmany hnum hO2 hown2
             go_wp2_with fail
             refine HCI.out.mono ?_
             rintro e w6 ⟨v, rfl, ⟨Ar, cr, Br, dr, rfl, hAr, hBr⟩, hf6⟩
             have hr6 := hrr.frm hf6 id
             have r0 := hr6.at_ 0 rfl
             have r1 := hr6.at_ 1 rfl
             have r2 := hr6.at_ 2 rfl
             have y0 := hr6.frozen 0
             have y1 := hr6.frozen 1
             have y2 := hr6.frozen 2
             have hnn := HNU.out
             have hbs := ((hr6.set_ 0 (.int .i64 (s2.2.n : Int))).set_ 1 (.slice Ar s2.2.ands.length cr)).set_ 2 (.slice Br s2.1.length dr)
             have hset : Frm (fun g => g = w.heap.size + 1) w6 (((w6.setCell ⟨w.heap.size + 1, 0, none⟩ (.int .i64 (s2.2.n : Int))).setCell ⟨w.heap.size + 1, 1, none⟩ (.slice Ar s2.2.ands.length cr)).setCell ⟨w.heap.size + 1, 2, none⟩ (.slice Br s2.1.length dr)) := (((Frm.refl (fun g => g = w.heap.size + 1) _).setCell (p := ⟨w.heap.size + 1, 0, none⟩) (fun _ => rfl) _).setCell (p := ⟨w.heap.size + 1, 1, none⟩) (fun _ => rfl) _).setCell (p := ⟨w.heap.size + 1, 2, none⟩) (fun _ => rfl) _
             have hszr := hfwr.size
             have hA7 := (hAr.frm hset (fun g h e => by omega)).mono (G := fun g => w.heap.size ≤ g) (fun g _ h => by omega)
             have hB7 := (hBr.frm hset (fun g h e => by omega)).mono (G := fun g => w.heap.size ≤ g) (fun g _ h => by omega)
             have hff : Frm (fun _ => False) w (((w6.setCell ⟨w.heap.size + 1, 0, none⟩ (.int .i64 (s2.2.n : Int))).setCell ⟨w.heap.size + 1, 1, none⟩ (.slice Ar s2.2.ands.length cr)).setCell ⟨w.heap.size + 1, 2, none⟩ (.slice Br s2.1.length dr)) := by
               have h1 : Frm (fun g => ¬ g < w2.heap.size) w w6 := hfwr.trans (hf6.mono (fun _ _ h => h.elim))
               have h2 : Frm (fun _ => False) w w6 := h1.mono (fun g hg h => h (by omega))
               exact h2.then' hset (fun g hg e => by omega)
             have d0 := hbs.at_ 0 rfl
             have d1 := hbs.at_ 1 rfl
             have d2 := hbs.at_ 2 rfl
             clear hbs hset hAr hBr hr6 hf6 HCI hnn hbad
             go_wp2_with fail
             refine bodyPost_ret (v := .tuple #[cv (s2.2.n : Int) Ar s2.2.ands.length cr Br s2.1.length dr, .int .i64 0]) (by simp [results, Tryd.results96, go_sem, d0, d1, d2]) rfl ⟨_, rfl, ?_, hff⟩
             rw [HFF.out, ← HNU.out]
             exact ⟨Ar, cr, Br, dr, rfl, hA7, hB7⟩


end Go.Proofs.YtkjlgamggkencaaDoor
