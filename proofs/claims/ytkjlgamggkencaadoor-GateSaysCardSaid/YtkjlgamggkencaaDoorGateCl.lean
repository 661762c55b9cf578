/-
  The contract of gate.Clauses.
-/
import Derived.Test.YtkjlgamggkencaaDoorMkCl
import Derived.Test.YtkjlgamggkencaaDoorMkRow
import Derived.Test.YtkjlgamggkencaaDoorLaw9
namespace Go.Proofs.YtkjlgamggkencaaDoor
open Go.RowKit

theorem gin_any (E : Nat → Value) (fp : Nat → Prop) (gb : Nat) (g : Gr) (w : World) (i : Int) (h1 : 0 ≤ i) (h2 : i < g.n) (hG : IsGr E w fp gb g) :
    Calls Tryd.prog 34 #[.pointer (some ⟨gb, 0, none⟩), .int .i64 i] w fun e w' => e = .returned (.int .i64 (2 * (i + 1))) ∧ w = w' := by
  obtain ⟨ok, A, c, mb, m, D, hb, hr, hm, hml, hD, f1, f2, f3⟩ := hG
  have hn : g.n + g.ands.length ≤ 8000 := ok.len
  have q := hb.at_ 0 rfl
  have h1' : ¬ i < 0 := by omega
  clear hb hr hm hD
  have hd : decide ((g.n : Int) ≤ i) = false := by simp; omega
  go_enter Tryd.func34, Tryd.ntmps34
  go_wp2_with fail
  go_ret
  exact ⟨rfl, rfl⟩

theorem lvar_any (x : Int) (w : World) (h1 : -1000000 ≤ x) (h2 : x ≤ 1000000) :
    Calls Tryd.prog 145 #[.int .i64 x] w fun e w' => e = .returned (.int .i64 (if x < 0 then -x else x)) ∧ w = w' := by
  have hw : IntKind.i64.wrap (-x) = -x := IntWalk.i64_in _ (by omega)
  go_enter Tryd.func145, Tryd.ntmps145
  go_wp2_with fail
  all_goals (go_ret; exact ⟨rfl, rfl⟩)

theorem gliteral_any (E : Nat → Value) (fp : Nat → Prop) (gb : Nat) (g : Gr) (w : World) (x : Int) (hx : OkLit g.n x) (hG : IsGr E w fp gb g) :
    Calls Tryd.prog 124 #[.pointer (some ⟨gb, 0, none⟩), .int .i64 x] w fun e w' => e = .returned (.int .i64 (inG x)) ∧ w = w' := by
  obtain ⟨x0, x1, x2⟩ := hx
  have hn : g.n + g.ands.length ≤ 8000 := hG.1.len
  have HV := Lib.hid (lvar_any x w (by omega) (by omega))
  by_cases h : x < 0
  · rw [if_pos h] at HV
    have hw : IntKind.i64.wrap (-x - 1) = -x - 1 := IntWalk.i64_in _ (by omega)
    have HI := Lib.hid (gin_any E fp gb g w (-x - 1) (by omega) (by omega) hG)
    rw [show -x - 1 + 1 = -x from by omega] at HI
    have hG' : inG x = notL (2 * -x) := by unfold inG notL; rw [if_pos h]; omega
    rw [hG']
    have hsm : Small (2 * -x) := ⟨by omega, by omega⟩
    clear hG hG'
    go_enter Tryd.func124, Tryd.ntmps124
    go_wp2_with fail
    refine HV.out.mono ?_
    rintro e w' ⟨rfl, rfl⟩
    go_wp2_with fail
    refine HI.out.mono ?_
    rintro e w' ⟨rfl, rfl⟩
    go_wp2_with fail
    refine (not_any (2 * -x) hsm _).mono ?_
    rintro e w' ⟨rfl, rfl⟩
    go_wp2_with fail
    go_ret
    exact ⟨rfl, rfl⟩
  · rw [if_neg h] at HV
    have hw : IntKind.i64.wrap (x - 1) = x - 1 := IntWalk.i64_in _ (by omega)
    have HI := Lib.hid (gin_any E fp gb g w (x - 1) (by omega) (by omega) hG)
    rw [show x - 1 + 1 = x from by omega] at HI
    have hG' : inG x = 2 * x := by unfold inG; rw [if_neg h]
    rw [hG']
    clear hG hG'
    go_enter Tryd.func124, Tryd.ntmps124
    go_wp2_with fail
    refine HV.out.mono ?_
    rintro e w' ⟨rfl, rfl⟩
    go_wp2_with fail
    refine HI.out.mono ?_
    rintro e w' ⟨rfl, rfl⟩
    go_wp2_with fail
    go_ret
    exact ⟨rfl, rfl⟩

theorem On.wideK {E : Nat → Value} {K S K' : Nat → Prop} {w w' : World} {gb : Nat} {g : Gr} (h : On E K w gb g) (hf : Frm S w w') (hS : ∀ k, k < w.heap.size → S k → K k) (hK : ∀ k, K' k → K k ∨ (w.heap.size ≤ k ∧ k < w'.heap.size)) : On E K' w' gb g := by
  obtain ⟨fp, h1, h2, h3⟩ := h
  have hs := hf.size
  refine ⟨fp, h1.frm hf (fun k hk e => (h2 k hk).1 (hS k (h2 k hk).2 e)), fun k hk => ⟨fun h => ?_, by have := (h2 k hk).2; omega⟩, fun k hk => ?_⟩
  · rcases hK k h with h | h
    · exact (h2 k hk).1 h
    · have := (h2 k hk).2; omega
  · rcases hK k hk with h | h
    · have := h3 k h; omega
    · exact h.2

set_option maxRecDepth 100000 in
set_option maxHeartbeats 8000000 in
theorem gclauses_any {E : Nat → Value} {K : Nat → Prop} {w : World} {gb : Nat} {g : Gr} (hOn : On E K w gb g) (A : Option Addr) (n c : Nat) (F : Nat → Prop) (cs : List (List Int)) (hR : Rw w F (.slice A n c) n cs) (hF : ∀ k, F k → K k) (hmade : Made g.n g.ands) (hx : ∀ c ∈ cs, ∀ x ∈ c, OkLit g.n x) (h5 : ∀ c ∈ cs, c.length ≤ 5)
    (hl : g.len + (cs.map List.length).sum + cs.length ≤ 8000) (hn : n ≤ 1000) :
    Calls Tryd.prog 76 #[.pointer (some ⟨gb, 0, none⟩), .slice A n c] w fun e w' => e = .returned (.int .i64 (clG g cs).1) ∧ On E K w' gb (clG g cs).2 ∧ Frm (fun k => ¬ K k) w w' := by
  obtain ⟨i0, hi0, hz0, hz1, hz2⟩ := info_parts infoIntG
  have hinv := fun k => clRun_inv hmade (cs := cs.take k) (fun c hc => hx c (List.mem_of_mem_take hc)) (by
    have h1 : ((cs.take k).map List.length).sum ≤ (cs.map List.length).sum := by
      conv => rhs; rw [← List.take_append_drop k cs, List.map_append, List.sum_append]
      omega
    omega)
  have hsum := fun k => (show ((cs.take k).map List.length).sum ≤ (cs.map List.length).sum from by
    conv => rhs; rw [← List.take_append_drop k cs, List.map_append, List.sum_append]
    omega)
  have HINV := Lib.hid hinv
  have HN := Lib.hid hR.1
  have HX := Lib.hid hx
  have H5 := Lib.hid h5
  have HSM := Lib.hid hsum
  have HL := Lib.hid hl
  clear hinv hx h5 hmade hsum hl
  go_enter Tryd.func76, Tryd.ntmps76
  go_wp2_with (refine wpList_make_z _ rfl _ _ 22 rfl 3 i0 (.int .i64 0) Tryd.underlying22 hi0 hz0 hz1 rfl .i64 .i64 0 n ?ca ?cb (by omega) (by rw [hz2]; omega) (by omega) ?_)
  case ca => go_simp
  case cb => go_simp
  intro w2 hb2 hf2
  have hown0 := own_of_blk (base := w.heap.size) hb2 0 n (by omega) (by simp) (by unfold maxLen; omega) (Nat.le_refl _)
  have hO2 := On.wide (K' := fun k => K k ∨ (Value.slice (some ⟨w.heap.size, 0, none⟩) 0 n).ownBlock = some k) hOn hf2 (fun k hk => by rcases hk with h | h; exact .inl h; exact .inr (hown0.lt k h))
  have hf02 : Frm (fun k => ¬ K k) w w2 := hf2.any
  have hrun0 : clRun g (cs.take 0) = ([], g) := rfl
  clear hb2 hOn hf2
  go_wp2_with fail
  go_loopw [5, 16] (fun av iv wr => ∃ (k : Nat) (A1 : Option Addr) (c1 : Nat) (s : List Int × Gr), k ≤ n ∧ iv = .int .i64 k ∧ av = .slice A1 k c1 ∧ clRun g (cs.take k) = s ∧ On E (fun g => K g ∨ (Value.slice A1 k c1).ownBlock = some g) wr gb s.2 ∧
    wr.ownsRow w.heap.size 3 1 (.slice A1 k c1) k (s.1.map (.int .i64)) ∧ Frm (fun k => ¬ K k) w wr) (fun _ iv _ => n - (intOf iv).toNat)
  case atStart => exact ⟨0, _, n, ([], g), by omega, rfl, rfl, hrun0, hO2, by simpa using hown0, hf02⟩
  case round =>
    clear hO2 hown0 hf02 hrun0
    obtain ⟨k, A1, c1, s, hk, rfl, rfl, hrun, hO, hown, hfk⟩ := hrel
    have hik := HINV.out k
    rw [hrun] at hik
    obtain ⟨iu, il, im, _⟩ := hik
    have hkK : ∀ g, F g → g < w.heap.size ∨ True := fun _ _ => .inr trivial
    have hs0 := hfk.size
    by_cases hlt : k < n
    · have hlt2 : k < cs.length := by rw [HN.out]; exact hlt
      obtain ⟨b, o, B, d, rfl, hFb, hc, hsB⟩ := (hR.frm hfk (fun g hg h => h (hF g hg))).at_ hlt
      have hst := clRun_take g cs hlt2
      rw [hrun] at hst
      have hmem : cs.getD k [] ∈ cs := by simp [List.getD, hlt2]
      have hC5 := H5.out _ hmem
      have hCx := HX.out _ hmem
      have hsm2 := HSM.out (k + 1)
      rw [List.take_succ_eq_append_getElem hlt2, List.map_append, List.sum_append, show cs[k] = cs.getD k [] from by simp [List.getD, hlt2]] at hsm2
      simp only [List.map_cons, List.map_nil, List.sum_cons, List.sum_nil] at hsm2
      have hroom : s.2.len + (cs.getD k []).length ≤ 8000 := by have := iu.high; have := HL.out; omega
      clear hmem hsm2 il im
      generalize cs.getD k [] = C at *
      obtain ⟨D, hD⟩ : ∃ D, D = C.map inG := ⟨_, rfl⟩
      have hDl : D.length = C.length := by rw [hD]; simp
      have hDk : ∀ j, j < C.length → D[j]? = some (inG (C.getD j 0)) := by intro j hj; rw [hD, List.getElem?_map]; simp [List.getD, hj]
      have hCk : ∀ j, j < C.length → OkLit s.2.n (C.getD j 0) := by intro j hj; rw [iu.num]; exact hCx _ (by simp [List.getD, hj])
      have hDx : ∀ x ∈ D, isL x s.2.len = true := by
        intro x hx
        rw [hD] at hx
        obtain ⟨y, hy, rfl⟩ := List.mem_map.1 hx
        have h1 := inG_isL (hCx y hy)
        rw [isL_iff] at h1 ⊢
        have h2 := iu.num
        unfold Gr.len
        omega
      have hst2 : clRun g (cs.take (k + 1)) = (s.1 ++ [(anyG s.2 D).1], (anyG s.2 D).2) := by rw [hst, hD]; rfl
      have HST := Lib.hid hst2
      have HDL := Lib.hid hDl
      have HDK := Lib.hid hDk
      have HCK := Lib.hid hCk
      have HDX := Lib.hid hDx
      have k0 : (0 : Int) ≤ k := by omega
      have k1 : (k : Int) < n := by omega
      clear hst hst2 hD hDl hDk hCk hDx hCx iu hrun
      generalize hcl : C.length = m at *
      have HCL := Lib.hid hcl
      clear hcl
      go_wp2_with (refine wpList_make_z _ rfl _ _ 22 rfl 3 i0 (.int .i64 0) Tryd.underlying22 hi0 hz0 hz1 rfl .i64 .i64 0 m ?ga ?gb (by omega) (by rw [hz2]; omega) (by omega) ?_)
      case ga => go_simp
      case gb => go_simp
      intro w3 hb3 hf3
      have hown3 := own_of_blk (base := wr.heap.size) hb3 0 m (by omega) (by simp) (by unfold maxLen; omega) (Nat.le_refl _)
      clear hb3
      go_wp2_with fail
      obtain ⟨wo, rfl⟩ : ∃ wo, wo = wr := ⟨_, rfl⟩
      go_loopw [8, 25] (fun lv jv wr => ∃ (j : Nat) (A2 : Option Addr) (c2 : Nat), j ≤ m ∧ jv = .int .i64 j ∧ lv = .slice A2 j c2 ∧ wr.ownsRow wo.heap.size 3 1 (.slice A2 j c2) j ((D.map (.int .i64)).take j) ∧ Frm (fun _ => False) wo wr) (fun _ jv _ => m - (intOf jv).toNat)
      case atStart => exact ⟨0, _, m, by omega, rfl, rfl, by simpa using hown3, hf3⟩
      case round =>
        clear hown3 hf3
        obtain ⟨j, A2, c2, hj, rfl, rfl, hownL, hfj⟩ := hrel
        have hsj := hfj.size
        by_cases hjl : j < m
        · obtain ⟨b', o', u', rfl, hb', hu', hcell⟩ := (hsB.frm hfj (fun _ _ => id)).at_ hjl
          obtain rfl := at_getD hu'
          have hok := HCK.out j hjl
          have hdk := HDK.out j hjl
          have HDD := Lib.hid hdk
          clear hu' hdk
          generalize C.getD j 0 = y at *
          obtain ⟨fp, hG, _⟩ := hO.frm hfj
          have HLT := Lib.hid (gliteral_any E fp gb s.2 wr y hok hG)
          clear hG hok
          have jj0 : (0 : Int) ≤ j := by omega
          have jj1 : (j : Int) < m := by omega
          go_wp2_with fail
          refine HLT.out.mono ?_
          rintro e w' ⟨rfl, rfl⟩
          go_wp2_with (at_builtin; refine wpList_append_own _ rfl (.tmp 29) (.tmp 33) 22 rfl wo.heap.size 3 i0 (.int .i64 0) 1 8 Tryd.underlying22 hi0 hz0 hz1 hz2 rfl (by decide) _ _ _ rfl (hownL.alloc (.cells #[.int .i64 (inG y)] 3)) ⟨wr.heap.size, 0, none⟩ 1 1 [.int .i64 (inG y)] rfl rfl (cell_one_new _ _ _) ?d2 ?d3 ?d4 ?d5 ?_)
          case d2 => first | (intro u hu; simp at hu; subst hu; rfl) | rfl
          case d3 => unfold maxLen; omega
          case d4 => omega
          case d5 => first | omega | (simp; omega) | simp
          intro v' w9 hown9 hgrow _
          have hgr : Frm (fun g => (Value.slice A2 j c2).ownBlock = some g) wr w9 := (((Frm.refl (fun g => (Value.slice A2 j c2).ownBlock = some g) wr).alloc (.cells #[.int .i64 (inG y)] 3)).grown hgrow (fun g hg hlt => hg))
          obtain ⟨A3, c3, e3, hownL9⟩ : ∃ A c, v' = .slice A (j + 1) c ∧ w9.ownsRow wo.heap.size 3 1 (.slice A (j + 1) c) (j + 1) ((D.map (.int .i64)).take (j + 1)) := by
            have e1 : (D.map (Value.int .i64)).take j ++ [.int .i64 (inG y)] = (D.map (.int .i64)).take (j + 1) := by
              rw [List.take_add_one, List.getElem?_map, HDD.out]; rfl
            rw [e1] at hown9
            obtain ⟨A, c, rfl, _⟩ := (Sl.of_own hown9).form
            exact ⟨A, c, rfl, hown9⟩
          subst e3
          have hfj9 : Frm (fun _ => False) wo w9 := hfj.then' hgr (fun g hg h => by have := (hownL.lt g h).1; omega)
          clear hgrow hown9 hownL hfj hgr
          go_wp2_with fail
          go_roundw
          case rel => exact ⟨j + 1, A3, c3, by omega, by go_num, rfl, hownL9, hfj9⟩
          case measure => simp [intOf]; omega
        · have hjm : m = j := by omega
          subst hjm
          rw [List.take_of_length_le (by rw [List.length_map, HDL.out]; omega)] at hownL
          have hO2 := On.wide (K' := fun g' => (K g' ∨ (Value.slice A1 k c1).ownBlock = some g') ∨ (wo.heap.size ≤ g' ∧ g' < wr.heap.size)) hO hfj (fun _ h => h)
          have hown2 := own_frm hown hfj (fun _ _ => id)
          have HAN := Lib.hid (on_any hO2 A2 m c2 (fun g' => wo.heap.size ≤ g' ∧ g' < wr.heap.size) D HDL.out (own_sl hownL) (fun g' h => .inr h) HDX.out (by omega))
          have hfq := hfk.trans hfj.any
          clear hO hown hownL
          go_wp2_with fail
          refine HAN.out.mono ?_
          rintro e w5 ⟨rfl, hO5, hf5⟩
          have hown5 := own_frm hown2 hf5 (fun g' hg h => h (.inl (.inr hg)))
          have hs5 := hf5.size
          have hf05 : Frm (fun k => ¬ K k) w w5 := hfq.trans' hf5 (fun _ _ h => h) (fun g' _ h hK => h (.inl (.inl hK)))
          generalize anyG s.2 D = R at *
          obtain ⟨r, gr⟩ := R
          simp only at hO5 HST
          clear HAN hO2 hown2 hfq hf5
          go_wp2_with (at_builtin; refine wpList_append_own_at _ rfl (.tmp 36) (.tmp 40) 22 rfl w.heap.size 3 i0 (.int .i64 0) 1 8 Tryd.underlying22 hi0 hz0 hz1 hz2 rfl (by decide) _ _ _ rfl (hown5.alloc (.cells #[.int .i64 r] 3)) ⟨w5.heap.size, 0, none⟩ 1 1 [.int .i64 r] rfl rfl (cell_one_new _ _ _) ?e2 ?e3 ?e4 ?e5 ?_)
          case e2 => first | (intro u hu; simp at hu; subst hu; rfl) | rfl
          case e3 => unfold maxLen; omega
          case e4 => omega
          case e5 => first | omega | (simp; omega) | simp
          intro v' w9 hown9 hgrow _ h9
          have hgr : Frm (fun g => (Value.slice A1 k c1).ownBlock = some g) w5 w9 := (((Frm.refl (fun g => (Value.slice A1 k c1).ownBlock = some g) w5).alloc (.cells #[.int .i64 r] 3)).grown hgrow (fun g hg hlt => hg))
          have hO9 := On.wideK (K' := fun g' => K g' ∨ v'.ownBlock = some g') hO5 hgr (fun g' _ h => .inl (.inr h)) (fun g' h => by
            rcases h with h | h
            · exact .inl (.inl (.inl h))
            · rcases h9 with e | e
              · exact .inl (.inl (.inr (e ▸ h)))
              · have hlt9 := (hown9.lt g' h).2
                rw [e] at h
                simp at h
                exact .inr ⟨by omega, hlt9⟩)
          have hf09 : Frm (fun k => ¬ K k) w w9 := hf05.then' hgr (fun g' hg h => by have := (hown5.lt g' h).1; omega)
          obtain ⟨A3, c3, rfl, _⟩ := (Sl.of_own hown9).form
          clear hgrow hown5 hf05 hgr hO5 h9
          go_wp2_with fail
          go_roundw
          case rel => exact ⟨k + 1, A3, c3, (s.1 ++ [r], gr), by omega, by go_num, rfl, HST.out, hO9, by simpa using hown9, hf09⟩
          case measure => simp [intOf]; omega
    · have hkn : n = k := by omega
      subst hkn
      rw [List.take_of_length_le (by rw [HN.out]; omega)] at hrun
      have hsml := HSM.out n
      have hcg : clG g cs = allG s.2 s.1 := by unfold clG; rw [hrun]
      have hsl := own_sl1 hown
      have him : s.1.length = n := by rw [im, List.length_take, HN.out]; omega
      have hhi := iu.high
      have HAL := Lib.hid (on_all hO A1 n c1 _ s.1 him hsl (fun g' h => .inr h) il (by have := HL.out; have := HN.out; omega))
      have HCG := Lib.hid hcg
      clear him hcg im iu il hsml hsl hrun
      go_wp2_with fail
      refine HAL.out.mono ?_
      rintro e w5 ⟨rfl, hO5, hf5⟩
      go_wp2_with fail
      go_ret
      refine ⟨ret_int (by rw [HCG.out]), ?_, hfk.trans' hf5 (fun _ _ h => h) (fun g' _ h hK => h (.inl hK))⟩
      rw [HCG.out]
      exact On.wideK hO5 (Frm.refl (fun _ => False) _) (fun _ _ h => h.elim) (fun g' h => .inl (.inl h))

end Go.Proofs.YtkjlgamggkencaaDoor
