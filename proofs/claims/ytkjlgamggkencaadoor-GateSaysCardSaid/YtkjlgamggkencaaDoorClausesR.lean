/-
  The contract of the reference's Clauses.
-/
import Derived.Test.YtkjlgamggkencaaDoorOnX
import Derived.Test.YtkjlgamggkencaaDoorRows2
import Derived.Test.YtkjlgamggkencaaDoorClauseP
namespace Go.Proofs.YtkjlgamggkencaaDoor
open Go.RowKit

set_option maxRecDepth 100000 in
set_option maxHeartbeats 8000000 in
theorem xclauses_any {K : Nat → Prop} {w : World} {gx : Nat} {g : Gr} (hOn : OnX K w gx g) (A : Option Addr) (n c : Nat) (F : Nat → Prop) (cs : List (List Int)) (hR : Rw w F (.slice A n c) n cs) (hF : ∀ k, F k → K k) (hmade : Made g.n g.ands) (hx : ∀ c ∈ cs, ∀ x ∈ c, OkLit g.n x) (h5 : ∀ c ∈ cs, c.length ≤ 5)
    (hl : g.len + (cs.map List.length).sum + cs.length ≤ 8000) (hn : n ≤ 1000) :
    Calls Tryd.prog 85 #[.pointer (some ⟨gx, 0, none⟩), .slice A n c] w fun e w' => e = .returned (.int .i64 (clG g cs).1) ∧ OnX K w' gx (clG g cs).2 ∧ Frm (fun k => ¬ K k) w w' := by
  obtain ⟨i0, hi0, hz0, hz1, hz2⟩ := info_parts infoIntG
  have hinv := fun k => clRun_inv hmade (cs := cs.take k) (fun c hc => hx c (List.mem_of_mem_take hc)) (by
    have h1 : ((cs.take k).map List.length).sum ≤ (cs.map List.length).sum := by
      conv => rhs; rw [← List.take_append_drop k cs, List.map_append, List.sum_append]
      omega
    omega)
  have hsum := fun k => (show ((cs.take k).map List.length).sum ≤ (cs.map List.length).sum from by
    conv => rhs; rw [← List.take_append_drop k cs, List.map_append, List.sum_append]
    omega)
  have hgn : g.n ≤ 8000 := by unfold Gr.len at hl; omega
  have HINV := Lib.hid hinv
  have HN := Lib.hid hR.1
  have HX := Lib.hid hx
  have H5 := Lib.hid h5
  have HSM := Lib.hid hsum
  have HL := Lib.hid hl
  clear hinv hx h5 hmade hsum hl
  have hO2 := OnX.wideK (K' := fun k => K k ∨ (Value.slice none 0 0).ownBlock = some k) hOn (Frm.refl (fun _ => False) w) (fun _ _ h => h.elim) (fun k hk => by rcases hk with h | h; exact .inl h; simp [Value.ownBlock] at h)
  have hrun0 : clRun g (cs.take 0) = ([], g) := rfl
  clear hOn
  go_enter Tryd.func85, Tryd.ntmps85
  go_wp2_with fail
  go_loopw [5, 6] (fun av iv wr => ∃ (k : Nat) (A1 : Option Addr) (c1 : Nat) (s : List Int × Gr), k ≤ n ∧ iv = .int .i64 k ∧ av = .slice A1 k c1 ∧ clRun g (cs.take k) = s ∧ OnX (fun g => K g ∨ (Value.slice A1 k c1).ownBlock = some g) wr gx s.2 ∧
    wr.ownsRow w.heap.size 3 1 (.slice A1 k c1) k (s.1.map (.int .i64)) ∧ Frm (fun k => ¬ K k) w wr) (fun _ iv _ => n - (intOf iv).toNat)
  case atStart => exact ⟨0, none, 0, ([], g), by omega, rfl, rfl, hrun0, hO2, World.ownsRow_nil _ _ _ _, Frm.refl _ _⟩
  case round =>
    clear hO2 hrun0
    obtain ⟨k, A1, c1, s, hk, rfl, rfl, hrun, hO, hown, hfk⟩ := hrel
    have hik := HINV.out k
    rw [hrun] at hik
    obtain ⟨iu, il, im, _⟩ := hik
    have hs0 := hfk.size
    by_cases hlt : k < n
    · have hlt2 : k < cs.length := by rw [HN.out]; exact hlt
      obtain ⟨b, o, B, d, rfl, hFb, hc, hsB⟩ := (hR.frm hfk (fun g hg h => h (hF g hg))).at_ hlt
      have hst := clRun_take g cs hlt2
      rw [hrun] at hst
      have hmem : cs.getD k [] ∈ cs := by simp [List.getD, hlt2]
      have hC5 := H5.out _ hmem
      have hCx := HX.out _ hmem
      have hsm2 := HSM.out (k + 1)
      rw [List.take_succ_eq_append_getElem hlt2, List.map_append, List.sum_append, show cs[k] = cs.getD k [] from by simp [List.getD, hlt2]] at hsm2
      simp only [List.map_cons, List.map_nil, List.sum_cons, List.sum_nil] at hsm2
      have hroom : s.2.len + (cs.getD k []).length ≤ 8000 := by have := iu.high; have := HL.out; omega
      clear hmem hsm2 il im
      generalize cs.getD k [] = C at *
      obtain ⟨D, hD⟩ : ∃ D, D = C.map inG := ⟨_, rfl⟩
      have hDl : D.length = C.length := by rw [hD]; simp
      have hDk : ∀ j, j < C.length → D[j]? = some (inG (C.getD j 0)) := by intro j hj; rw [hD, List.getElem?_map]; simp [List.getD, hj]
      have hCk : ∀ j, j < C.length → OkLit s.2.n (C.getD j 0) := by intro j hj; rw [iu.num]; exact hCx _ (by simp [List.getD, hj])
      have hDx : ∀ x ∈ D, isL x s.2.len = true := by
        intro x hx
        rw [hD] at hx
        obtain ⟨y, hy, rfl⟩ := List.mem_map.1 hx
        have h1 := inG_isL (hCx y hy)
        rw [isL_iff] at h1 ⊢
        have h2 := iu.num
        unfold Gr.len
        omega
      have hst2 : clRun g (cs.take (k + 1)) = (s.1 ++ [(anyG s.2 D).1], (anyG s.2 D).2) := by rw [hst, hD]; rfl
      have hsn : s.2.n ≤ 8000 := by have := iu.num; omega
      have HST := Lib.hid hst2
      have HDL := Lib.hid hDl
      have HDK := Lib.hid hDk
      have HCK := Lib.hid hCk
      have HDX := Lib.hid hDx
      have k0 : (0 : Int) ≤ k := by omega
      have k1 : (k : Int) < n := by omega
      clear hst hst2 hD hDl hDk hCk hDx hCx iu hrun
      generalize hcl : C.length = m at *
      have HCL := Lib.hid hcl
      clear hcl
      go_wp2_with fail
      obtain ⟨wo, rfl⟩ : ∃ wo, wo = wr := ⟨_, rfl⟩
      go_loopw [7, 8] (fun lv jv wr => ∃ (j : Nat) (A2 : Option Addr) (c2 : Nat), j ≤ m ∧ jv = .int .i64 j ∧ lv = .slice A2 j c2 ∧ wr.ownsRow wo.heap.size 3 1 (.slice A2 j c2) j ((D.map (.int .i64)).take j) ∧ Frm (fun _ => False) wo wr) (fun _ jv _ => m - (intOf jv).toNat)
      case atStart => exact ⟨0, none, 0, by omega, rfl, rfl, by simpa using World.ownsRow_nil _ _ _ _, Frm.refl _ _⟩
      case round =>
        obtain ⟨j, A2, c2, hj, rfl, rfl, hownL, hfj⟩ := hrel
        have hsj := hfj.size
        have hcj := hfj.cell hc id
        by_cases hjl : j < m
        · obtain ⟨b', o', u', rfl, hb', hu', hcell⟩ := (hsB.frm hfj (fun _ _ => id)).at_ hjl
          obtain rfl := at_getD hu'
          have hok := HCK.out j hjl
          have hdk := HDK.out j hjl
          have HDD := Lib.hid hdk
          clear hu' hdk
          generalize C.getD j 0 = y at *
          obtain ⟨y0, y1, y2⟩ := hok
          have hOj := hO.frm hfj
          have jj0 : (0 : Int) ≤ j := by omega
          have jj1 : (j : Int) < m := by omega
          by_cases hp : 0 < y
          · have hyi := onx_in hOj (y - 1) (by omega) (by omega)
            have hin : inG y = 2 * (y - 1 + 1) := by unfold inG; rw [if_neg (by omega)]; omega
            rw [← hin] at hyi
            have HYI := Lib.hid hyi
            have hw : IntKind.i64.wrap (y - 1) = y - 1 := IntWalk.i64_in _ (by omega)
            clear hyi hin hOj
            go_wp2_with fail
            refine HYI.out.mono ?_
            rintro e w' ⟨rfl, rfl⟩
            go_wp2_with (at_builtin; refine wpList_append_own _ rfl (.tmp 32) (.tmp 43) 22 rfl wo.heap.size 3 i0 (.int .i64 0) 1 8 Tryd.underlying22 hi0 hz0 hz1 hz2 rfl (by decide) _ _ _ rfl (hownL.alloc (.cells #[.int .i64 (inG y)] 3)) ⟨wr.heap.size, 0, none⟩ 1 1 [.int .i64 (inG y)] rfl rfl (cell_one_new _ _ _) ?d2 ?d3 ?d4 ?d5 ?_)
            case d2 => first | (intro u hu; simp at hu; subst hu; rfl) | rfl
            case d3 => unfold maxLen; omega
            case d4 => omega
            case d5 => first | omega | (simp; omega) | simp
            intro v' w9 hown9 hgrow _
            have hgr : Frm (fun g => (Value.slice A2 j c2).ownBlock = some g) wr w9 := (((Frm.refl (fun g => (Value.slice A2 j c2).ownBlock = some g) wr).alloc (.cells #[.int .i64 (inG y)] 3)).grown hgrow (fun g hg hlt => hg))
            obtain ⟨A3, c3, rfl, hownL9⟩ := own_nextD (D := D) HDD.out hown9
            have hfj9 : Frm (fun _ => False) wo w9 := hfj.then' hgr (fun g hg h => by have := (hownL.lt g h).1; omega)
            clear hgrow hown9 hownL hfj hgr
            go_wp2_with fail
            go_roundw
            case rel => exact ⟨j + 1, A3, c3, by omega, by go_num, rfl, hownL9, hfj9⟩
            case measure => simp [intOf]; omega
          · have hyi := onx_in hOj (-y - 1) (by omega) (by omega)
            have hxo := bits_xor_one (2 * (-y - 1 + 1)) (by omega) (by omega)
            have hin : inG y = notL (2 * (-y - 1 + 1)) := by unfold inG notL; rw [if_pos (by omega), if_pos (by omega)]; omega
            rw [← hin] at hxo
            generalize 2 * (-y - 1 + 1) = Y at *
            have HYI := Lib.hid hyi
            have hw : IntKind.i64.wrap (-y) = -y := IntWalk.i64_in _ (by omega)
            have hw2 : IntKind.i64.wrap (-y - 1) = -y - 1 := IntWalk.i64_in _ (by omega)
            clear hyi hin hOj
            go_wp2_with fail
            refine HYI.out.mono ?_
            rintro e w' ⟨rfl, rfl⟩
            go_wp2_with (at_builtin; refine wpList_append_own _ rfl (.tmp 45) (.tmp 58) 22 rfl wo.heap.size 3 i0 (.int .i64 0) 1 8 Tryd.underlying22 hi0 hz0 hz1 hz2 rfl (by decide) _ _ _ rfl (hownL.alloc (.cells #[.int .i64 (inG y)] 3)) ⟨wr.heap.size, 0, none⟩ 1 1 [.int .i64 (inG y)] rfl rfl (cell_one_new _ _ _) ?d2 ?d3 ?d4 ?d5 ?_)
            case d2 => first | (intro u hu; simp at hu; subst hu; rfl) | rfl
            case d3 => unfold maxLen; omega
            case d4 => omega
            case d5 => first | omega | (simp; omega) | simp
            intro v' w9 hown9 hgrow _
            have hgr : Frm (fun g => (Value.slice A2 j c2).ownBlock = some g) wr w9 := (((Frm.refl (fun g => (Value.slice A2 j c2).ownBlock = some g) wr).alloc (.cells #[.int .i64 (inG y)] 3)).grown hgrow (fun g hg hlt => hg))
            obtain ⟨A3, c3, rfl, hownL9⟩ := own_nextD (D := D) HDD.out hown9
            have hfj9 : Frm (fun _ => False) wo w9 := hfj.then' hgr (fun g hg h => by have := (hownL.lt g h).1; omega)
            clear hgrow hown9 hownL hfj hgr
            go_wp2_with fail
            go_roundw
            case rel => exact ⟨j + 1, A3, c3, by omega, by go_num, rfl, hownL9, hfj9⟩
            case measure => simp [intOf]; omega
        · have hjm : m = j := by omega
          subst hjm
          rw [List.take_of_length_le (by rw [List.length_map, HDL.out]; omega)] at hownL
          have hO2 := OnX.wide (K' := fun g' => (K g' ∨ (Value.slice A1 k c1).ownBlock = some g') ∨ (wo.heap.size ≤ g' ∧ g' < wr.heap.size)) hO hfj (fun _ h => h)
          have hown2 := own_frm hown hfj (fun _ _ => id)
          have HAN := Lib.hid (onx_any hO2 A2 m c2 (fun g' => wo.heap.size ≤ g' ∧ g' < wr.heap.size) D HDL.out (own_sl hownL) HDX.out (by omega))
          have hfq := hfk.trans (hfj.mono (T := fun k => ¬ K k) (fun _ _ h => h.elim))
          clear hO hown hownL
          go_wp2_with fail
          refine HAN.out.mono ?_
          rintro e w5 ⟨rfl, hO5, hf5⟩
          have hown5 := own_frm hown2 hf5 (fun g' hg h => h (.inl (.inr hg)))
          have hs5 := hf5.size
          have hf05 : Frm (fun k => ¬ K k) w w5 := hfq.trans' hf5 (fun _ _ h => h) (fun g' _ h hK => h (.inl (.inl hK)))
          generalize anyG s.2 D = R at *
          obtain ⟨r, gr⟩ := R
          simp only at hO5 HST
          clear HAN hO2 hown2 hfq hf5
          go_wp2_with (at_builtin; refine wpList_append_own_at _ rfl (.tmp 60) (.tmp 64) 22 rfl w.heap.size 3 i0 (.int .i64 0) 1 8 Tryd.underlying22 hi0 hz0 hz1 hz2 rfl (by decide) _ _ _ rfl (hown5.alloc (.cells #[.int .i64 r] 3)) ⟨w5.heap.size, 0, none⟩ 1 1 [.int .i64 r] rfl rfl (cell_one_new _ _ _) ?e2 ?e3 ?e4 ?e5 ?_)
          case e2 => first | (intro u hu; simp at hu; subst hu; rfl) | rfl
          case e3 => unfold maxLen; omega
          case e4 => omega
          case e5 => first | omega | (simp; omega) | simp
          intro v' w9 hown9 hgrow _ h9
          have hgr : Frm (fun g => (Value.slice A1 k c1).ownBlock = some g) w5 w9 := (((Frm.refl (fun g => (Value.slice A1 k c1).ownBlock = some g) w5).alloc (.cells #[.int .i64 r] 3)).grown hgrow (fun g hg hlt => hg))
          have hO9 := OnX.wideK (K' := fun g' => K g' ∨ v'.ownBlock = some g') hO5 hgr (fun g' _ h => .inl (.inr h)) (fun g' h => by
            rcases h with h | h
            · exact .inl (.inl (.inl h))
            · rcases h9 with e | e
              · exact .inl (.inl (.inr (e ▸ h)))
              · have hlt9 := (hown9.lt g' h).2
                rw [e] at h
                simp at h
                exact .inr ⟨by omega, hlt9⟩)
          have hf09 : Frm (fun k => ¬ K k) w w9 := hf05.then' hgr (fun g' hg h => by have := (hown5.lt g' h).1; omega)
          obtain ⟨A3, c3, rfl, _⟩ := (Sl.of_own hown9).form
          clear hgrow hown5 hf05 hgr hO5 h9
          go_wp2_with fail
          go_roundw
          case rel => exact ⟨k + 1, A3, c3, (s.1 ++ [r], gr), by omega, by go_num, rfl, HST.out, hO9, by simpa using hown9, hf09⟩
          case measure => simp [intOf]; omega
    · have hkn : n = k := by omega
      subst hkn
      rw [List.take_of_length_le (by rw [HN.out]; omega)] at hrun
      have hsml := HSM.out n
      have hcg : clG g cs = allG s.2 s.1 := by unfold clG; rw [hrun]
      have hsl := (Sl.of_own hown)
      have him : s.1.length = n := by rw [im, List.length_take, HN.out]; omega
      have hhi := iu.high
      have HAL := Lib.hid (onx_all hO A1 n c1 _ s.1 him hsl (fun g' h => .inr h) il (by have := HL.out; have := HN.out; omega))
      have HCG := Lib.hid hcg
      clear him hcg im iu il hsml hsl hrun
      go_wp2_with fail
      refine HAL.out.mono ?_
      rintro e w5 ⟨rfl, hO5, hf5⟩
      go_wp2_with fail
      go_ret
      refine ⟨ret_int (by rw [HCG.out]), ?_, hfk.trans' hf5 (fun _ _ h => h) (fun g' _ h hK => h (.inl hK))⟩
      rw [HCG.out]
      exact OnX.wideK hO5 (Frm.refl (fun _ => False) _) (fun _ _ h => h.elim) (fun g' h => .inl (.inl h))

end Go.Proofs.YtkjlgamggkencaaDoor
