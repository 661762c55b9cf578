/-
  The contract of skolemmake.Clauses.
-/
import Derived.Test.YtkjlgamggkencaaDoorTseitinE
import Derived.Test.YtkjlgamggkencaaDoorClauseP
namespace Go.Proofs.YtkjlgamggkencaaDoor
open Go.RowKit

set_option maxRecDepth 100000 in
theorem mklit_any (x : Int) (vars : Nat) (w : World) (h0 : 0 < vars) (hb : vars ≤ 1000000) :
    Calls Tryd.prog 123 #[.int .i64 x, .int .i64 vars] w fun e w' => e = .returned (.int .i64 (mkLit x vars)) ∧ w = w' := by
  have w1 : IntKind.i64.wrap (2 * (vars : Int)) = 2 * (vars : Int) := IntWalk.i64_in _ (by omega)
  have b1 := Int.emod_nonneg x (b := 2 * (vars : Int)) (by omega)
  have b2 := Int.emod_lt_of_pos x (b := 2 * (vars : Int)) (by omega)
  have hml : mkLit x vars = if x % (2 * (vars : Int)) < vars then x % (2 * (vars : Int)) + 1 else vars - x % (2 * (vars : Int)) - 1 := rfl
  have HN := Lib.hid (fun (W : World) => number_any x (2 * (vars : Int)) W (by omega) (by omega))
  rw [hml]
  clear hml
  generalize x % (2 * (vars : Int)) = y at *
  by_cases h : y < vars
  · rw [if_pos h]
    have w2 : IntKind.i64.wrap (y + 1) = y + 1 := IntWalk.i64_in _ (by omega)
    go_enter Tryd.func123, Tryd.ntmps123
    go_wp2_with fail
    refine (HN.out _).mono ?_
    rintro e w' ⟨rfl, rfl⟩
    go_wp2_with fail
    go_ret
    exact ⟨rfl, rfl⟩
  · rw [if_neg h]
    have w2 : IntKind.i64.wrap ((vars : Int) - y) = (vars : Int) - y := IntWalk.i64_in _ (by omega)
    have w3 : IntKind.i64.wrap ((vars : Int) - y - 1) = (vars : Int) - y - 1 := IntWalk.i64_in _ (by omega)
    go_enter Tryd.func123, Tryd.ntmps123
    go_wp2_with fail
    refine (HN.out _).mono ?_
    rintro e w' ⟨rfl, rfl⟩
    go_wp2_with fail
    go_ret
    exact ⟨rfl, rfl⟩

/-- two owned rows of two types share no block -/
theorem own_other {w : World} {b1 b2 : Nat} {e1 e2 : TypeId} {s1 s2 n1 n2 : Nat} {v1 v2 : Value} {x1 x2 : List Value} (h1 : w.ownsRow b1 e1 s1 v1 n1 x1) (h2 : w.ownsRow b2 e2 s2 v2 n2 x2) (he : e1 ≠ e2) (g : Nat) (hg : v1.ownBlock = some g) : v2.ownBlock ≠ some g := by
  intro hg2
  rcases h1.2 with ⟨h, _⟩ | ⟨g1, c1, cur1, rfl, _, hb1, _⟩
  · subst h; simp [Value.ownBlock] at hg
  rcases h2.2 with ⟨h, _⟩ | ⟨g2, c2, cur2, rfl, _, hb2, _⟩
  · subst h; simp [Value.ownBlock] at hg2
  simp [Value.ownBlock] at hg hg2
  subst hg hg2
  rw [hb1] at hb2
  simp at hb2
  exact he hb2.2
/-- what an owned row's value may point at -/
theorem own_sl1 {w : World} {base : Nat} {e : TypeId} {sz n : Nat} {v : Value} {xs : List Value} (h : w.ownsRow base e sz v n xs) : Sl w (fun k => v.ownBlock = some k) sz v n xs := Sl.of_own h

/-- rows of rows that stand below t -/
def RwT (w : World) (base t : Nat) (e : TypeId) (v : Value) (n : Nat) (cs : List (List Int)) : Prop := cs.length = n ∧ ∃ vs, w.ownsRow base e 1 v n vs ∧ Each w (fun k => base ≤ k ∧ k < t ∧ v.ownBlock ≠ some k) vs cs
theorem RwO.rwt {w : World} {base : Nat} {e : TypeId} {v : Value} {n : Nat} {cs : List (List Int)} (h : RwO w base e v n cs) : RwT w base w.heap.size e v n cs := by
  obtain ⟨h0, vs, h1, h2⟩ := h
  exact ⟨h0, vs, h1, h2.mono fun k hk h => ⟨h.1, hk, h.2⟩⟩
theorem RwT.rwo {w : World} {base t : Nat} {e : TypeId} {v : Value} {n : Nat} {cs : List (List Int)} (h : RwT w base t e v n cs) : RwO w base e v n cs := by
  obtain ⟨h0, vs, h1, h2⟩ := h
  exact ⟨h0, vs, h1, h2.mono fun k hk h => ⟨h.1, h.2.2⟩⟩
theorem RwT.frm {S : Nat → Prop} {w w' : World} {base t : Nat} {e : TypeId} {v : Value} {n : Nat} {cs : List (List Int)} (h : RwT w base t e v n cs) (hf : Frm S w w') (ho : ∀ g, v.ownBlock = some g → ¬ S g) (hS : ∀ k, k < t → ¬ S k) : RwT w' base t e v n cs := by
  obtain ⟨h0, vs, h1, h2⟩ := h
  exact ⟨h0, vs, own_frm h1 hf ho, h2.frm hf fun k hk => hS k hk.2.1⟩

set_option maxRecDepth 100000 in
set_option maxHeartbeats 8000000 in
theorem mkcl_any (vars : Nat) (A : Option Addr) (n c : Nat) (F : Nat → Prop) (l : List Int) (w : World) (hn : l.length = n) (h0 : 0 < vars) (hb : vars ≤ 1000000) (hn4 : n ≤ 1000) (hF : ∀ k, F k → k < w.heap.size) (hs : Sl w F 1 (.slice A n c) n (l.map (.int .i64))) :
    Calls Tryd.prog 75 #[.slice A n c, .int .i64 vars] w fun e w' => ∃ v, e = .returned v ∧ RwO w' w.heap.size 22 v (mkClauses l vars).length (mkClauses l vars) ∧ Frm (fun _ => False) w w' := by
  obtain ⟨i0, hi, hz0, hz1, hz2⟩ := info_parts infoInts
  obtain ⟨j0, hj0, hq0, hq1, hq2⟩ := info_parts infoIntG
  have HN := Lib.hid hn
  have hok := fun k => mkcRun_ok h0 (l.take k)
  have HOK := Lib.hid hok
  have v0 : ¬ (vars : Int) < 1 := by omega
  have hcl : mkClauses l vars = if 0 < (mkcRun vars l).2.length then (mkcRun vars l).1 ++ [(mkcRun vars l).2] else (mkcRun vars l).1 := rfl
  have HCL := Lib.hid hcl
  clear hn hok hcl
  go_enter Tryd.func75, Tryd.ntmps75
  go_wp2_with fail
  go_loopw [5, 6, 7] (fun ov cv iv wr => ∃ (k t m : Nat) (A1 : Option Addr) (c1 : Nat) (s : List (List Int) × List Int), k ≤ n ∧ iv = .int .i64 k ∧ mkcRun vars (l.take k) = s ∧ s.2.length = m ∧ cv = .slice A1 m c1 ∧ w.heap.size ≤ t ∧ t ≤ wr.heap.size ∧
    RwT wr w.heap.size t 22 ov s.1.length s.1 ∧ wr.ownsRow t 3 1 (.slice A1 m c1) m (s.2.map (.int .i64)) ∧ Frm (fun _ => False) w wr) (fun _ _ iv _ => n - (intOf iv).toNat)
  case atStart => exact ⟨0, w.heap.size, 0, _, 0, ([], []), by omega, rfl, rfl, rfl, rfl, Nat.le_refl _, Nat.le_refl _, ⟨rfl, [], World.ownsRow_nil _ _ _ _, Each.nil⟩, World.ownsRow_nil _ _ _ _, Frm.refl _ _⟩
  case round =>
    obtain ⟨k, t, m, A1, c1, s, hk, rfl, hrun, hm, rfl, ht1, ht2, hT, hown, hfk⟩ := hrel
    have hok := HOK.out k
    rw [hrun] at hok
    have hm5 : m ≤ 5 := by rw [← hm]; exact hok.cur.1
    have hsn : s.1.length ≤ 1000 := by
      have h1 := sum_ge_length (l := s.1.map List.length) (by intro x hx; obtain ⟨y, hy, rfl⟩ := List.mem_map.1 hx; exact (hok.outs y hy).2.1)
      have h2 := hok.many
      simp at h1 h2
      omega
    by_cases hlt : k < n
    · have hlt2 : k < l.length := by rw [HN.out]; exact hlt
      obtain ⟨bk, o, u, rfl, hbF, hu, hcell⟩ := (hs.frm hfk (fun _ _ => id)).at_ hlt
      obtain rfl := at_getD hu
      have hst := mkcRun_take vars l hlt2
      rw [hrun] at hst
      clear hu hok
      generalize l.getD k 0 = y at *
      have hcut : mkcCut s y = if (y % 7 = 0 ∧ 0 < s.2.length) ∨ 5 ≤ s.2.length then (s.1 ++ [s.2], []) else s := rfl
      have hgo : ∀ (s' : List (List Int) × List Int) (t' m' : Nat) (ov' : Value) (A' : Option Addr) (c' : Nat) (W w9 : World) (v' : Value), mkcCut s y = s' → s'.2.length = m' → w.heap.size ≤ t' → t' ≤ W.heap.size → RwT W w.heap.size t' 22 ov' s'.1.length s'.1 →
          W.ownsRow t' 3 1 (.slice A' m' c') m' (s'.2.map (.int .i64)) → Frm (fun _ => False) w W → w9.ownsRow t' 3 1 v' (m' + 1) (s'.2.map (.int .i64) ++ [.int .i64 (mkLit (y % 1099511627776 / 7) vars)]) →
          (W.alloc (.cells #[.int .i64 (mkLit (y % 1099511627776 / 7) vars)] 3)).grownBy w9 (Value.slice A' m' c').ownBlock →
          ∃ A2 c2 s2, mkcRun vars (l.take (k + 1)) = s2 ∧ s2.2.length = m' + 1 ∧ v' = .slice A2 (m' + 1) c2 ∧ t' ≤ w9.heap.size ∧ RwT w9 w.heap.size t' 22 ov' s2.1.length s2.1 ∧ w9.ownsRow t' 3 1 (.slice A2 (m' + 1) c2) (m' + 1) (s2.2.map (.int .i64)) ∧ Frm (fun _ => False) w w9 := by
        intro s' t' m' ov' A' c' W w9 v' h1 h2 h3 h4 h5 h6 h7 h8 h9
        have hgr : Frm (fun g => (Value.slice A' m' c').ownBlock = some g) W w9 := (((Frm.refl (fun g => (Value.slice A' m' c').ownBlock = some g) W).alloc (.cells #[.int .i64 (mkLit (y % 1099511627776 / 7) vars)] 3)).grown h9 (fun g hg hlt => hg))
        have hsz := hgr.size
        obtain ⟨A2, c2, rfl, _⟩ := (Sl.of_own h8).form
        refine ⟨A2, c2, (s'.1, s'.2 ++ [mkLit (y % 1099511627776 / 7) vars]), ?_, by simp [h2], rfl, by omega, ?_, ?_, h7.then' hgr (fun g hg h => by have := (h6.lt g h).1; omega)⟩
        · rw [hst, ← h1]; rfl
        · obtain ⟨_, vs, hv, _⟩ := id h5
          exact h5.frm hgr (fun g hg h => own_other hv h6 (by decide) g hg h) (fun g hg h => by have := (h6.lt g h).1; omega)
        · rw [List.map_append]; exact h8
      have HGO := Lib.hid hgo
      have k0 : (0 : Int) ≤ k := by omega
      have k1 : (k : Int) < n := by omega
      have hd : (y % 1099511627776).tdiv 7 = y % 1099511627776 / 7 := Int.tdiv_eq_ediv_of_nonneg (by omega)
      have hwd : IntKind.i64.wrap (y % 1099511627776 / 7) = y % 1099511627776 / 7 := IntWalk.i64_in _ (by omega)
      rw [hm] at hcut
      clear hgo hst
      by_cases h5 : 5 ≤ m
      · rw [if_pos (.inr h5)] at hcut
        have HC := Lib.hid hcut
        clear hcut
        have g5 : (5 : Int) ≤ m := by omega
        have g0 : (0 : Int) < m := by omega
        have gg : ¬ (m : Int) < 5 := by omega
        by_cases hy : y % 7 = 0
        · go_wp2_with fail
          refine (number_any y 7 _ (by omega) (by omega)).mono ?_
          rintro e w' ⟨rfl, rfl⟩
          generalize y % 7 = q at *
          obtain ⟨e0, vs, hout, hea⟩ := id hT
          have hsl1 : Sl wr (fun g => (Value.slice A1 m c1).ownBlock = some g) 1 (.slice A1 m c1) m (s.2.map (.int .i64)) := own_sl1 hown
          rw [← hm] at hsl1
          have hol : ∀ g, u5.ownBlock = some g → w.heap.size ≤ g ∧ g < wr.heap.size := fun g hg => hout.lt g hg
          have hcl : ∀ g, (Value.slice A1 m c1).ownBlock = some g → t ≤ g ∧ g < wr.heap.size := fun g hg => hown.lt g hg
          go_wp2_with (at_builtin; refine wpList_append_own_at _ rfl (.tmp 32) (.tmp 34) 49 rfl w.heap.size 22 i0 (.slice none 0 0) 1 24 Tryd.underlying49 hi hz0 hz1 hz2 rfl (by decide) _ _ _ rfl (hout.alloc _) ⟨wr.heap.size, 0, none⟩ 1 1 [.slice A1 m c1] rfl rfl (cell_one_new _ _ _) ?axa2 ?axa3 ?axa4 ?axa5 ?_)
          case axa2 => first | (intro u hu; simp at hu; subst hu; rfl) | rfl
          case axa3 => unfold maxLen; omega
          case axa4 => omega
          case axa5 => first | omega | (simp; omega) | simp
          intro v6 w6 hown6 hgrow6 _ h6
          have hal6 := (Frm.refl (fun _ => False) wr).alloc (.cells #[.slice A1 m c1] 22)
          have hal6s : (wr.alloc (.cells #[.slice A1 m c1] 22)).heap.size = wr.heap.size + 1 := by simp
          rw [← hm] at hown6 hgrow6 hal6 hal6s hcl
          have hmore := RwO.more (base := w.heap.size) (rfl : s.1.length = s.1.length) ((hea.mono (G := fun k => w.heap.size ≤ k ∧ u5.ownBlock ≠ some k) (fun k _ h => ⟨h.1, h.2.2⟩)).frm hal6 (fun _ _ => id)) (rfl : [s.2].length = 1) ((Each.one hsl1).frm hal6 (fun _ _ => id)) (fun g hg1 hg => ⟨by have := hcl g hg; omega, own_other (hm ▸ hown) hout (by decide) g hg⟩) hown6 hgrow6 (h6.imp id fun h => h.trans (by simp))
          have hgr6 : Frm (fun g => w.heap.size ≤ g) wr w6 := (hal6.any).grown hgrow6 (fun g hg hlt => (hol g hg).1)
          have hfk6 : Frm (fun _ => False) w w6 := hfk.then' hgr6 (fun g hg h => by omega)
          have hT6 : RwT w6 w.heap.size w6.heap.size 22 v6 (s.1 ++ [s.2]).length (s.1 ++ [s.2]) := by rw [List.length_append]; exact hmore.rwt
          have hs6 := hgr6.size
          have hcell := hgr6.cell hcell (fun h => by have := hF _ hbF; simp at h; omega)
          have hnil : w6.ownsRow w6.heap.size 3 1 (.slice none 0 0) 0 (([] : List Int).map (.int .i64)) := World.ownsRow_nil _ _ _ _
          have hle6 : w.heap.size ≤ w6.heap.size := by omega
          clear hgrow6 hown6 hal6 h6 hmore hgr6 hout hea hown hT hsl1 hfk
          go_wp2_with fail
          refine (number_any y 1099511627776 _ (by omega) (by omega)).mono ?_
          rintro e w' ⟨rfl, rfl⟩
          go_wp2_with fail
          refine (mklit_any (y % 1099511627776 / 7) vars _ h0 hb).mono ?_
          rintro e w' ⟨rfl, rfl⟩
          go_wp2_with (at_builtin; refine wpList_append_own _ rfl (.tmp 36) (.tmp 45) 22 rfl w6.heap.size 3 j0 (.int .i64 0) 1 8 Tryd.underlying22 hj0 hq0 hq1 hq2 rfl (by decide) _ _ _ rfl (hnil.alloc (.cells #[.int .i64 (mkLit (y % 1099511627776 / 7) vars)] 3)) ⟨_, 0, none⟩ 1 1 [.int .i64 (mkLit (y % 1099511627776 / 7) vars)] rfl rfl (cell_one_new _ _ _) ?ax2 ?ax3 ?ax4 ?ax5 ?_)
          case ax2 => first | (intro u hu; simp at hu; subst hu; rfl) | rfl
          case ax3 => unfold maxLen; omega
          case ax4 => omega
          case ax5 => first | omega | (simp; omega) | simp
          intro v' w9 hown9 hgrow _
          obtain ⟨A2, c2, s2, r1, r2, rfl, r3, r4, r5, r6⟩ := HGO.out _ w6.heap.size 0 _ _ _ _ w9 v' HC.out rfl hle6 (by omega) hT6 hnil hfk6 hown9 hgrow
          go_wp2_with fail
          go_roundw
          case rel => exact ⟨k + 1, w6.heap.size, 0 + 1, A2, c2, s2, by omega, by go_num, r1, r2, rfl, hle6, r3, r4, r5, r6⟩
          case measure => simp [intOf]; omega
        · go_wp2_with fail
          refine (number_any y 7 _ (by omega) (by omega)).mono ?_
          rintro e w' ⟨rfl, rfl⟩
          generalize y % 7 = q at *
          obtain ⟨e0, vs, hout, hea⟩ := id hT
          have hsl1 : Sl wr (fun g => (Value.slice A1 m c1).ownBlock = some g) 1 (.slice A1 m c1) m (s.2.map (.int .i64)) := own_sl1 hown
          rw [← hm] at hsl1
          have hol : ∀ g, u5.ownBlock = some g → w.heap.size ≤ g ∧ g < wr.heap.size := fun g hg => hout.lt g hg
          have hcl : ∀ g, (Value.slice A1 m c1).ownBlock = some g → t ≤ g ∧ g < wr.heap.size := fun g hg => hown.lt g hg
          go_wp2_with (at_builtin; refine wpList_append_own_at _ rfl (.tmp 32) (.tmp 34) 49 rfl w.heap.size 22 i0 (.slice none 0 0) 1 24 Tryd.underlying49 hi hz0 hz1 hz2 rfl (by decide) _ _ _ rfl (hout.alloc _) ⟨wr.heap.size, 0, none⟩ 1 1 [.slice A1 m c1] rfl rfl (cell_one_new _ _ _) ?bxa2 ?bxa3 ?bxa4 ?bxa5 ?_)
          case bxa2 => first | (intro u hu; simp at hu; subst hu; rfl) | rfl
          case bxa3 => unfold maxLen; omega
          case bxa4 => omega
          case bxa5 => first | omega | (simp; omega) | simp
          intro v6 w6 hown6 hgrow6 _ h6
          have hal6 := (Frm.refl (fun _ => False) wr).alloc (.cells #[.slice A1 m c1] 22)
          have hal6s : (wr.alloc (.cells #[.slice A1 m c1] 22)).heap.size = wr.heap.size + 1 := by simp
          rw [← hm] at hown6 hgrow6 hal6 hal6s hcl
          have hmore := RwO.more (base := w.heap.size) (rfl : s.1.length = s.1.length) ((hea.mono (G := fun k => w.heap.size ≤ k ∧ u5.ownBlock ≠ some k) (fun k _ h => ⟨h.1, h.2.2⟩)).frm hal6 (fun _ _ => id)) (rfl : [s.2].length = 1) ((Each.one hsl1).frm hal6 (fun _ _ => id)) (fun g hg1 hg => ⟨by have := hcl g hg; omega, own_other (hm ▸ hown) hout (by decide) g hg⟩) hown6 hgrow6 (h6.imp id fun h => h.trans (by simp))
          have hgr6 : Frm (fun g => w.heap.size ≤ g) wr w6 := (hal6.any).grown hgrow6 (fun g hg hlt => (hol g hg).1)
          have hfk6 : Frm (fun _ => False) w w6 := hfk.then' hgr6 (fun g hg h => by omega)
          have hT6 : RwT w6 w.heap.size w6.heap.size 22 v6 (s.1 ++ [s.2]).length (s.1 ++ [s.2]) := by rw [List.length_append]; exact hmore.rwt
          have hs6 := hgr6.size
          have hcell := hgr6.cell hcell (fun h => by have := hF _ hbF; simp at h; omega)
          have hnil : w6.ownsRow w6.heap.size 3 1 (.slice none 0 0) 0 (([] : List Int).map (.int .i64)) := World.ownsRow_nil _ _ _ _
          have hle6 : w.heap.size ≤ w6.heap.size := by omega
          clear hgrow6 hown6 hal6 h6 hmore hgr6 hout hea hown hT hsl1 hfk
          go_wp2_with fail
          refine (number_any y 1099511627776 _ (by omega) (by omega)).mono ?_
          rintro e w' ⟨rfl, rfl⟩
          go_wp2_with fail
          refine (mklit_any (y % 1099511627776 / 7) vars _ h0 hb).mono ?_
          rintro e w' ⟨rfl, rfl⟩
          go_wp2_with (at_builtin; refine wpList_append_own _ rfl (.tmp 36) (.tmp 45) 22 rfl w6.heap.size 3 j0 (.int .i64 0) 1 8 Tryd.underlying22 hj0 hq0 hq1 hq2 rfl (by decide) _ _ _ rfl (hnil.alloc (.cells #[.int .i64 (mkLit (y % 1099511627776 / 7) vars)] 3)) ⟨_, 0, none⟩ 1 1 [.int .i64 (mkLit (y % 1099511627776 / 7) vars)] rfl rfl (cell_one_new _ _ _) ?bx2 ?bx3 ?bx4 ?bx5 ?_)
          case bx2 => first | (intro u hu; simp at hu; subst hu; rfl) | rfl
          case bx3 => unfold maxLen; omega
          case bx4 => omega
          case bx5 => first | omega | (simp; omega) | simp
          intro v' w9 hown9 hgrow _
          obtain ⟨A2, c2, s2, r1, r2, rfl, r3, r4, r5, r6⟩ := HGO.out _ w6.heap.size 0 _ _ _ _ w9 v' HC.out rfl hle6 (by omega) hT6 hnil hfk6 hown9 hgrow
          go_wp2_with fail
          go_roundw
          case rel => exact ⟨k + 1, w6.heap.size, 0 + 1, A2, c2, s2, by omega, by go_num, r1, r2, rfl, hle6, r3, r4, r5, r6⟩
          case measure => simp [intOf]; omega
      · have g5 : ¬ (5 : Int) ≤ m := by omega
        have gg : (m : Int) < 5 := by omega
        by_cases hy : y % 7 = 0
        · by_cases hp : 0 < m
          · rw [if_pos (.inl ⟨hy, hp⟩)] at hcut
            have HC := Lib.hid hcut
            clear hcut
            have g0 : (0 : Int) < m := by omega
            go_wp2_with fail
            refine (number_any y 7 _ (by omega) (by omega)).mono ?_
            rintro e w' ⟨rfl, rfl⟩
            generalize y % 7 = q at *
            obtain ⟨e0, vs, hout, hea⟩ := id hT
            have hsl1 : Sl wr (fun g => (Value.slice A1 m c1).ownBlock = some g) 1 (.slice A1 m c1) m (s.2.map (.int .i64)) := own_sl1 hown
            rw [← hm] at hsl1
            have hol : ∀ g, u5.ownBlock = some g → w.heap.size ≤ g ∧ g < wr.heap.size := fun g hg => hout.lt g hg
            have hcl : ∀ g, (Value.slice A1 m c1).ownBlock = some g → t ≤ g ∧ g < wr.heap.size := fun g hg => hown.lt g hg
            go_wp2_with (at_builtin; refine wpList_append_own_at _ rfl (.tmp 32) (.tmp 34) 49 rfl w.heap.size 22 i0 (.slice none 0 0) 1 24 Tryd.underlying49 hi hz0 hz1 hz2 rfl (by decide) _ _ _ rfl (hout.alloc _) ⟨wr.heap.size, 0, none⟩ 1 1 [.slice A1 m c1] rfl rfl (cell_one_new _ _ _) ?cxa2 ?cxa3 ?cxa4 ?cxa5 ?_)
            case cxa2 => first | (intro u hu; simp at hu; subst hu; rfl) | rfl
            case cxa3 => unfold maxLen; omega
            case cxa4 => omega
            case cxa5 => first | omega | (simp; omega) | simp
            intro v6 w6 hown6 hgrow6 _ h6
            have hal6 := (Frm.refl (fun _ => False) wr).alloc (.cells #[.slice A1 m c1] 22)
            have hal6s : (wr.alloc (.cells #[.slice A1 m c1] 22)).heap.size = wr.heap.size + 1 := by simp
            rw [← hm] at hown6 hgrow6 hal6 hal6s hcl
            have hmore := RwO.more (base := w.heap.size) (rfl : s.1.length = s.1.length) ((hea.mono (G := fun k => w.heap.size ≤ k ∧ u5.ownBlock ≠ some k) (fun k _ h => ⟨h.1, h.2.2⟩)).frm hal6 (fun _ _ => id)) (rfl : [s.2].length = 1) ((Each.one hsl1).frm hal6 (fun _ _ => id)) (fun g hg1 hg => ⟨by have := hcl g hg; omega, own_other (hm ▸ hown) hout (by decide) g hg⟩) hown6 hgrow6 (h6.imp id fun h => h.trans (by simp))
            have hgr6 : Frm (fun g => w.heap.size ≤ g) wr w6 := (hal6.any).grown hgrow6 (fun g hg hlt => (hol g hg).1)
            have hfk6 : Frm (fun _ => False) w w6 := hfk.then' hgr6 (fun g hg h => by omega)
            have hT6 : RwT w6 w.heap.size w6.heap.size 22 v6 (s.1 ++ [s.2]).length (s.1 ++ [s.2]) := by rw [List.length_append]; exact hmore.rwt
            have hs6 := hgr6.size
            have hcell := hgr6.cell hcell (fun h => by have := hF _ hbF; simp at h; omega)
            have hnil : w6.ownsRow w6.heap.size 3 1 (.slice none 0 0) 0 (([] : List Int).map (.int .i64)) := World.ownsRow_nil _ _ _ _
            have hle6 : w.heap.size ≤ w6.heap.size := by omega
            clear hgrow6 hown6 hal6 h6 hmore hgr6 hout hea hown hT hsl1 hfk
            go_wp2_with fail
            refine (number_any y 1099511627776 _ (by omega) (by omega)).mono ?_
            rintro e w' ⟨rfl, rfl⟩
            go_wp2_with fail
            refine (mklit_any (y % 1099511627776 / 7) vars _ h0 hb).mono ?_
            rintro e w' ⟨rfl, rfl⟩
            go_wp2_with (at_builtin; refine wpList_append_own _ rfl (.tmp 36) (.tmp 45) 22 rfl w6.heap.size 3 j0 (.int .i64 0) 1 8 Tryd.underlying22 hj0 hq0 hq1 hq2 rfl (by decide) _ _ _ rfl (hnil.alloc (.cells #[.int .i64 (mkLit (y % 1099511627776 / 7) vars)] 3)) ⟨_, 0, none⟩ 1 1 [.int .i64 (mkLit (y % 1099511627776 / 7) vars)] rfl rfl (cell_one_new _ _ _) ?cx2 ?cx3 ?cx4 ?cx5 ?_)
            case cx2 => first | (intro u hu; simp at hu; subst hu; rfl) | rfl
            case cx3 => unfold maxLen; omega
            case cx4 => omega
            case cx5 => first | omega | (simp; omega) | simp
            intro v' w9 hown9 hgrow _
            obtain ⟨A2, c2, s2, r1, r2, rfl, r3, r4, r5, r6⟩ := HGO.out _ w6.heap.size 0 _ _ _ _ w9 v' HC.out rfl hle6 (by omega) hT6 hnil hfk6 hown9 hgrow
            go_wp2_with fail
            go_roundw
            case rel => exact ⟨k + 1, w6.heap.size, 0 + 1, A2, c2, s2, by omega, by go_num, r1, r2, rfl, hle6, r3, r4, r5, r6⟩
            case measure => simp [intOf]; omega
          · rw [if_neg (by omega)] at hcut
            have HC := Lib.hid hcut
            clear hcut
            have g0 : ¬ (0 : Int) < m := by omega
            go_wp2_with fail
            refine (number_any y 7 _ (by omega) (by omega)).mono ?_
            rintro e w' ⟨rfl, rfl⟩
            generalize y % 7 = q at *
            go_wp2_with fail
            refine (number_any y 1099511627776 _ (by omega) (by omega)).mono ?_
            rintro e w' ⟨rfl, rfl⟩
            go_wp2_with fail
            refine (mklit_any (y % 1099511627776 / 7) vars _ h0 hb).mono ?_
            rintro e w' ⟨rfl, rfl⟩
            go_wp2_with (at_builtin; refine wpList_append_own _ rfl (.tmp 36) (.tmp 45) 22 rfl t 3 j0 (.int .i64 0) 1 8 Tryd.underlying22 hj0 hq0 hq1 hq2 rfl (by decide) _ _ _ rfl (hown.alloc (.cells #[.int .i64 (mkLit (y % 1099511627776 / 7) vars)] 3)) ⟨_, 0, none⟩ 1 1 [.int .i64 (mkLit (y % 1099511627776 / 7) vars)] rfl rfl (cell_one_new _ _ _) ?dx2 ?dx3 ?dx4 ?dx5 ?_)
            case dx2 => first | (intro u hu; simp at hu; subst hu; rfl) | rfl
            case dx3 => unfold maxLen; omega
            case dx4 => omega
            case dx5 => first | omega | (simp; omega) | simp
            intro v' w9 hown9 hgrow _
            obtain ⟨A2, c2, s2, r1, r2, rfl, r3, r4, r5, r6⟩ := HGO.out _ t m _ _ _ _ w9 v' HC.out hm ht1 (by omega) hT hown hfk hown9 hgrow
            go_wp2_with fail
            go_roundw
            case rel => exact ⟨k + 1, t, m + 1, A2, c2, s2, by omega, by go_num, r1, r2, rfl, ht1, r3, r4, r5, r6⟩
            case measure => simp [intOf]; omega
        · rw [if_neg (by omega)] at hcut
          have HC := Lib.hid hcut
          clear hcut
          go_wp2_with fail
          refine (number_any y 7 _ (by omega) (by omega)).mono ?_
          rintro e w' ⟨rfl, rfl⟩
          generalize y % 7 = q at *
          go_wp2_with fail
          refine (number_any y 1099511627776 _ (by omega) (by omega)).mono ?_
          rintro e w' ⟨rfl, rfl⟩
          go_wp2_with fail
          refine (mklit_any (y % 1099511627776 / 7) vars _ h0 hb).mono ?_
          rintro e w' ⟨rfl, rfl⟩
          go_wp2_with (at_builtin; refine wpList_append_own _ rfl (.tmp 36) (.tmp 45) 22 rfl t 3 j0 (.int .i64 0) 1 8 Tryd.underlying22 hj0 hq0 hq1 hq2 rfl (by decide) _ _ _ rfl (hown.alloc (.cells #[.int .i64 (mkLit (y % 1099511627776 / 7) vars)] 3)) ⟨_, 0, none⟩ 1 1 [.int .i64 (mkLit (y % 1099511627776 / 7) vars)] rfl rfl (cell_one_new _ _ _) ?ex2 ?ex3 ?ex4 ?ex5 ?_)
          case ex2 => first | (intro u hu; simp at hu; subst hu; rfl) | rfl
          case ex3 => unfold maxLen; omega
          case ex4 => omega
          case ex5 => first | omega | (simp; omega) | simp
          intro v' w9 hown9 hgrow _
          obtain ⟨A2, c2, s2, r1, r2, rfl, r3, r4, r5, r6⟩ := HGO.out _ t m _ _ _ _ w9 v' HC.out hm ht1 (by omega) hT hown hfk hown9 hgrow
          go_wp2_with fail
          go_roundw
          case rel => exact ⟨k + 1, t, m + 1, A2, c2, s2, by omega, by go_num, r1, r2, rfl, ht1, r3, r4, r5, r6⟩
          case measure => simp [intOf]; omega
    · have hkn : l.length = k := by rw [HN.out]; omega
      have hrun2 : mkcRun vars l = s := by rw [← hrun, ← hkn, List.take_length]
      have hfin := HCL.out
      rw [hrun2, hm] at hfin
      clear hok hs hrun hrun2
      by_cases hp : 0 < m
      · rw [if_pos hp] at hfin
        have HFN := Lib.hid hfin
        clear hfin hkn
        have g0 : (0 : Int) < m := by omega
        have k1 : ¬ (k : Int) < n := by omega
        obtain ⟨e0, vs, hout, hea⟩ := id hT
        have hsl1 : Sl wr (fun g => (Value.slice A1 m c1).ownBlock = some g) 1 (.slice A1 m c1) m (s.2.map (.int .i64)) := own_sl1 hown
        rw [← hm] at hsl1
        have hol : ∀ g, u5.ownBlock = some g → w.heap.size ≤ g ∧ g < wr.heap.size := fun g hg => hout.lt g hg
        have hcl : ∀ g, (Value.slice A1 m c1).ownBlock = some g → t ≤ g ∧ g < wr.heap.size := fun g hg => hown.lt g hg
        go_wp2_with (at_builtin; refine wpList_append_own_at _ rfl (.tmp 50) (.tmp 52) 49 rfl w.heap.size 22 i0 (.slice none 0 0) 1 24 Tryd.underlying49 hi hz0 hz1 hz2 rfl (by decide) _ _ _ rfl (hout.alloc _) ⟨wr.heap.size, 0, none⟩ 1 1 [.slice A1 m c1] rfl rfl (cell_one_new _ _ _) ?fa2 ?fa3 ?fa4 ?fa5 ?_)
        case fa2 => first | (intro u hu; simp at hu; subst hu; rfl) | rfl
        case fa3 => unfold maxLen; omega
        case fa4 => omega
        case fa5 => first | omega | (simp; omega) | simp
        intro v6 w6 hown6 hgrow6 _ h6
        have hal6 := (Frm.refl (fun _ => False) wr).alloc (.cells #[.slice A1 m c1] 22)
        rw [← hm] at hown6 hgrow6 hal6 hcl
        have hmore := RwO.more (base := w.heap.size) (rfl : s.1.length = s.1.length) ((hea.mono (G := fun k => w.heap.size ≤ k ∧ u5.ownBlock ≠ some k) (fun k _ h => ⟨h.1, h.2.2⟩)).frm hal6 (fun _ _ => id)) (rfl : [s.2].length = 1) ((Each.one hsl1).frm hal6 (fun _ _ => id)) (fun g hg1 hg => ⟨by have := hcl g hg; omega, own_other (hm ▸ hown) hout (by decide) g hg⟩) hown6 hgrow6 (h6.imp id fun h => h.trans (by simp))
        have hgr6 : Frm (fun g => w.heap.size ≤ g) wr w6 := (hal6.any).grown hgrow6 (fun g hg hlt => (hol g hg).1)
        have hfk6 : Frm (fun _ => False) w w6 := hfk.then' hgr6 (fun g hg h => by omega)
        go_wp2_with fail
        go_ret
        exact ⟨_, rfl, by rw [HFN.out]; simpa using hmore, hfk6⟩
      · rw [if_neg hp] at hfin
        have HFN := Lib.hid hfin
        clear hfin hkn
        have g0 : ¬ (0 : Int) < m := by omega
        have k1 : ¬ (k : Int) < n := by omega
        go_wp2_with fail
        go_ret
        exact ⟨_, rfl, by rw [HFN.out]; exact hT.rwo, hfk⟩

end Go.Proofs.YtkjlgamggkencaaDoor
