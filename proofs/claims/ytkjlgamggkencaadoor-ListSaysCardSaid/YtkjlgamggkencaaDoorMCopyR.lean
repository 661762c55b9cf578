/-
  The contract of the reference's Copy.
-/
import Derived.Test.YtkjlgamggkencaaDoorMReachR
import Derived.Test.YtkjlgamggkencaaDoorMPure
import Derived.Test.YtkjlgamggkencaaDoorMOnX
import Derived.Test.YtkjlgamggkencaaDoorMRegion
namespace Go.Proofs.YtkjlgamggkencaaDoor
open Go.RowKit
set_option linter.unusedVariables false

theorem bits_xor_zero2 (l : Int) (h0 : 0 ≤ l) (h1 : l ≤ 4000000000000) : bits .xor .i64 l 0 = l := by
  obtain ⟨a, rfl⟩ := Int.eq_ofNat_of_zero_le h0
  have ha : a % 2 ^ IntKind.i64.bits = a := Nat.mod_eq_of_lt (by simp [IntKind.bits]; omega)
  have h1' : (0 : Int) = ((0 : Nat) : Int) := rfl
  unfold bits
  rw [h1']
  simp only [BitVec.ofInt_natCast, BitVec.toNat_xor, BitVec.toNat_ofNat, ha]
  rw [show (0 % 2 ^ IntKind.i64.bits) = 0 from by decide, Nat.xor_zero]
  have hp : (2 : Int) ^ 62 = 4611686018427387904 := by decide
  exact wrap_i64_small _ (by omega) (by omega)
theorem ints_at2 {l : List Int} {k : Nat} (h : k < l.length) : (l.map (Value.int .i64))[k]? = some (.int .i64 (l.getD k 0)) := by simp [List.getD, h]
theorem getD_isL2 {bs : List Int} {n : Nat} (h : ∀ b ∈ bs, isL b n = true) (k : Nat) : isL (bs.getD k 0) n = true := by
  rw [List.getD]
  cases hg : bs[k]? with
  | none => rw [isL_iff]; simp; omega
  | some y => exact h y (List.mem_of_getElem? hg)

set_option maxHeartbeats 400000 in
theorem turn_any (x l : Int) (h0 : 0 ≤ x) (h1 : x ≤ 1000000) (h2 : 0 ≤ l) (h3 : l ≤ 1000000) (w : World) : Calls Tryd.prog 129 #[.int .i64 x, .int .i64 l] w fun e w' => e = .returned (.int .i64 (if l % 2 = 1 then notL x else x)) ∧ w = w' := by
  have hand := bits_and_one l h2 (by omega)
  have hn : ¬ x < 0 := by omega
  rcases (show l % 2 = 0 ∨ l % 2 = 1 from by omega) with h | h
  · rw [h] at hand
    have hxz := bits_xor_zero2 x h0 (by omega)
    rw [if_neg (by omega)]
    go_enter Tryd.func129, Tryd.ntmps129
    go_wp2_with fail
    go_ret
    exact ⟨rfl, rfl⟩
  · rw [h] at hand
    have hxz := bits_xor_one x h0 (by omega)
    rw [if_pos h]
    generalize notL x = y at *
    go_enter Tryd.func129, Tryd.ntmps129
    go_wp2_with fail
    go_ret
    exact ⟨rfl, rfl⟩

/-- the inputs' literals up to j -/
def ToFew (n m : Nat) (bys : List Int) (j : Nat) (cur : List Int) : Prop := cur.length = n + 1 + m ∧ ∀ y, y < n + 1 + m → cur.getD y 0 = if 1 ≤ y ∧ y ≤ j then bys.getD (y - 1) 0 else 0
theorem ToFew.none (n m : Nat) (bys : List Int) : ToFew n m bys 0 (List.replicate (n + 1 + m) 0) := by
  refine ⟨by simp, fun y hy => ?_⟩
  rw [if_neg (by omega)]; simp [List.getD, hy]
theorem ToFew.set_ {n m : Nat} {bys : List Int} {j : Nat} {cur : List Int} (h : ToFew n m bys j cur) (hj : j < n) : ToFew n m bys (j + 1) (cur.set (j + 1) (bys.getD j 0)) := by
  refine ⟨by rw [List.length_set]; exact h.1, fun y hy => ?_⟩
  have hl := h.1
  by_cases e : y = j + 1
  · subst e
    rw [if_pos (by omega), show j + 1 - 1 = j from by omega]
    simp [List.getD, show j + 1 < cur.length by omega]
  · have h2 := h.2 y hy
    rw [show (cur.set (j + 1) (bys.getD j 0)).getD y 0 = cur.getD y 0 from by simp [List.getD, show ¬ j + 1 = y from fun h => e h.symm], h2]
    by_cases h3 : 1 ≤ y ∧ y ≤ j
    · rw [if_pos h3, if_pos (by omega)]
    · rw [if_neg h3, if_neg (by omega)]
theorem ToFew.skip {n m : Nat} {bys : List Int} {j : Nat} {cur : List Int} (h : ToFew n m bys j cur) (hj : bys.length ≤ j) : ToFew n m bys (j + 1) cur := by
  refine ⟨h.1, fun y hy => ?_⟩
  rw [h.2 y hy]
  by_cases h3 : 1 ≤ y ∧ y ≤ j
  · rw [if_pos h3, if_pos (by omega)]
  · rw [if_neg h3]
    by_cases h4 : 1 ≤ y ∧ y ≤ j + 1
    · rw [if_pos h4, List.getD, List.getElem?_eq_none (by omega)]; rfl
    · rw [if_neg h4]
theorem ToFew.all {n m : Nat} {bys : List Int} {cur : List Int} (h : ToFew n m bys n cur) : cur = at0 n m bys := by
  apply List.ext_getElem?
  intro y
  have hl := h.1
  have hl2 := at0_length n m bys
  by_cases hy : y < n + 1 + m
  · have h2 := h.2 y hy
    rw [List.getElem?_eq_getElem (by omega), List.getElem?_eq_getElem (by omega)]
    rw [show cur.getD y 0 = cur[y] from by simp [List.getD, show y < cur.length by omega]] at h2
    rw [h2]
    congr 1
    have h3 : (at0 n m bys)[y]? = some (if 1 ≤ y ∧ y ≤ n then bys.getD (y - 1) 0 else 0) := by
      unfold at0
      cases y with
      | zero => simp
      | succ k =>
        by_cases hk : k < n
        · rw [List.getElem?_append_left (by simp; omega), List.getElem?_cons_succ, List.getElem?_map, List.getElem?_range hk, if_pos (by omega)]; rfl
        · rw [List.getElem?_append_right (by simp; omega), if_neg (by omega), List.getElem?_replicate]
          simp only [List.length_cons, List.length_map, List.length_range]
          rw [if_pos (by omega)]
    rw [List.getElem?_eq_getElem (by omega)] at h3
    exact (Option.some.inj h3).symm
  · rw [List.getElem?_eq_none (by omega), List.getElem?_eq_none (by omega)]

set_option maxRecDepth 100000 in
set_option maxHeartbeats 8000000 in
theorem rcopy_any {K : Nat → Prop} {w : World} {gx : Nat} {g : Gr} (hOn : OnX K w gx g) (n : Nat) (L : List (Int × Int)) (A : Option Addr) (m c : Nat) (B : Option Addr) (k d : Nat) (x : Int) (Ab : Option Addr) (lb cb : Nat) (bys : List Int) (F F3 : Nat → Prop) (hmade : Made g.n g.ands) (hgl : g.len + L.length < 8000)
    (hm : L.length = m) (hlb : bys.length = lb) (hr : Right n L) (hn : n ≤ 2000) (hm4 : m ≤ 2000) (hb4 : lb ≤ 1000000) (hx : isL x (n + m) = true) (hby : ∀ x ∈ bys, isL x g.len = true)
    (hs : Sl w F 2 (.slice A m c) m (pairs L)) (hbs : Sl w F3 1 (.slice Ab lb cb) lb (bys.map (.int .i64))) (hF : ∀ k, F k → K k) :
    Calls Tryd.prog 91 #[.pointer (some ⟨gx, 0, none⟩), cv n A m c B k d, .int .i64 x, .slice Ab lb cb] w fun e w' => e = .returned (.int .i64 (copyG g n L x bys).1) ∧ OnX K w' gx (copyG g n L x bys).2 ∧ Frm (fun k => ¬ K k) w w' := by
  obtain ⟨i0, hi0, hz0, hz1, hz2⟩ := info_parts infoIntG
  have hf0 := (Frm.refl (fun _ => False) w).alloc (.cells #[.int .i64 n, .slice A m c, .slice B k d] 40)
  have hb0 : Blk (w.alloc (.cells #[.int .i64 n, .slice A m c, .slice B k d] 40)) w.heap.size 40 [.int .i64 n, .slice A m c, .slice B k d] := Blk.new _ _ _
  have HMK := Lib.hid (rreach_any n L A m c B k d x F (w.alloc (.cells #[.int .i64 n, .slice A m c, .slice B k d] 40)) hm hr hn hm4 hx (hs.frm hf0 (fun _ _ => id)))
  have b00 := hb0.at_ 0 rfl
  have b01 := hb0.at_ 1 rfl
  have b02 := hb0.at_ 2 rfl
  have hml := marksL_length n L x
  rw [hm] at hml
  have hxl := isL_iff.1 hx
  have hcd : copyG g n L x bys = (asL (cpRun n L (marksL n L x) (g, at0 n m bys) m).2 x, (cpRun n L (marksL n L x) (g, at0 n m bys) m).1) := by unfold copyG; rw [hm]
  have hinv := fun j hj => cp_inv hmade (n := n) (L := L) (marksL n L x) (at0_isL (n := n) (m := m) hby) hgl j hj
  have hst := fun j => cpRun_succ n L (marksL n L x) (g, at0 n m bys) j
  have hkept : ∀ k, K k → k < w.heap.size := by obtain ⟨_, _, _, h⟩ := hOn; exact h
  rw [hm] at hinv hgl
  have HINV := Lib.hid hinv
  have HST := Lib.hid hst
  have HCD := Lib.hid hcd
  have HM := Lib.hid hm
  have HLB := Lib.hid hlb
  have HR := Lib.hid hr
  have h10 := at0_length n m bys
  clear hm hr hx hcd hinv hst hby hlb hmade
  go_enter Tryd.func91, Tryd.ntmps91
  go_wp2_with fail
  refine HMK.out.mono ?_
  rintro e w1 ⟨g1, rfl, hown1, hf1⟩
  generalize marksL n L x = R at *
  have hf01 := hf0.trans hf1
  have hb1 := hb0.frm hf1 id
  have hsz1 := hf01.size
  clear HMK b00 b01 b02 hf0 hf1 hb0
  go_wp2_with (refine wpList_make_z _ rfl _ _ 22 rfl 3 i0 (.int .i64 0) Tryd.underlying22 hi0 hz0 hz1 rfl .i64 .i64 (n + 1 + m) (n + 1 + m) ?ca ?cb (by omega) (by rw [hz2]; omega) (by omega) ?_)
  case ca => go_simp
  case cb => go_simp
  intro w2 hb2 hf2
  have hto0 := own_of_blk (base := w1.heap.size) hb2 (n + 1 + m) (n + 1 + m) (by omega) (by simp) (by unfold maxLen; omega) (Nat.le_refl _)
  have hrep : (List.replicate (n + 1 + m) (Value.int .i64 0)).take (n + 1 + m) = (List.replicate (n + 1 + m) (0 : Int)).map (.int .i64) := by simp
  rw [hrep] at hto0
  have hfew0 := ToFew.none n m bys
  have hf02 := hf01.trans hf2
  have hb2' := hb1.frm hf2 id
  have hown2 := own_frm hown1 hf2 (fun _ _ => id)
  have hlt2 := hb2.lt
  have hg1 : w.heap.size < g1 ∧ g1 < w1.heap.size := ⟨by have := (hown1.lt g1 rfl).1; simp at this; omega, (hown1.lt g1 rfl).2⟩
  have hbl := hb1.lt
  clear hb2 hrep hf01 hb1 hown1 hf2
  generalize List.replicate (n + 1 + m) (0 : Int) = cur0 at *
  obtain ⟨gt, hgt⟩ : ∃ gt, gt = w1.heap.size := ⟨_, rfl⟩
  rw [← hgt] at hto0 hlt2
  have hgt1 : g1 < gt := by omega
  have hgt2 : w.heap.size < gt := by omega
  simp only [← hgt]
  clear hgt
  go_wp2_with fail
  go_loopw [11] (fun iv wr => ∃ (j : Nat) (cur : List Int), j ≤ n ∧ iv = .int .i64 (j : Int) ∧ ToFew n m bys j cur ∧ wr.ownsRow gt 3 1 (.slice (some ⟨gt, 0, none⟩) (n + 1 + m) (n + 1 + m)) (n + 1 + m) (cur.map (.int .i64)) ∧ Frm (fun k => k = gt) w2 wr) (fun iv _ => n - (intOf iv).toNat)
  case atStart => exact ⟨0, cur0, by omega, rfl, hfew0, hto0, Frm.refl _ _⟩
  case round =>
    clear hfew0 hto0
    obtain ⟨j, cur, hj, rfl, hfew, hto, hfk⟩ := hrel
    have hbj := hb2'.frm hfk (by omega)
    have b0 := hbj.at_ 0 rfl
    by_cases hlt : j < n
    · have HFW := Lib.hid hfew
      have hcl := hfew.1
      clear hfew
      have j0 : (0 : Int) ≤ j := by omega
      have j1 : (j : Int) < n := by omega
      have wj : IntKind.i64.wrap ((j : Int) + 1) = (j : Int) + 1 := IntWalk.i64_in _ (by omega)
      by_cases hjl : j < lb
      · obtain ⟨bq, oq, u, rfl, _, hu, hcell⟩ := (hbs.frm (hf02.then' hfk (fun k hk e => by omega)) (fun _ _ => id)).at_ hjl
        obtain rfl := at_getD hu
        have hset := HFW.out.set_ hlt
        have HSET := Lib.hid hset
        clear hu hset
        generalize bys.getD j 0 = y at *
        have j2 : (j : Int) < lb := by omega
        have j3 : (0 : Int) ≤ (j : Int) + 1 := by omega
        have j4 : (j : Int) + 1 < (n : Int) + 1 + m := by omega
        have j5 : ((j : Int) + 1).toNat = j + 1 := by omega
        have hcw : wr.cell? ⟨gt, j + 1, none⟩ = some (.int .i64 (cur.getD (j + 1) 0)) := own_at hto (by rw [List.getElem?_map, List.getElem?_eq_getElem (by omega)]; simp [List.getD, show j + 1 < cur.length by omega])
        have hcf := own_free hto (j + 1)
        have hto2 := own_set hto (i := j + 1) (.int .i64 y)
        rw [← List.map_set] at hto2
        have hfk2 : Frm (fun k => k = gt) w2 (wr.setCell ⟨gt, j + 1, none⟩ (.int .i64 y)) := hfk.setCell (p := ⟨gt, j + 1, none⟩) (fun _ => rfl) _
        go_wp2_with fail
        go_roundw
        case rel => exact ⟨j + 1, cur.set (j + 1) y, by omega, by go_num, HSET.out, hto2, hfk2⟩
        case measure => simp [intOf]; omega
      · have j2 : ¬ (j : Int) < lb := by omega
        have hsk := HFW.out.skip (by rw [HLB.out]; omega)
        have HSK := Lib.hid hsk
        clear hsk
        go_wp2_with fail
        go_roundw
        case rel => exact ⟨j + 1, cur, by omega, by go_num, HSK.out, hto, hfk⟩
        case measure => simp [intOf]; omega
    · obtain rfl : n = j := by omega
      have hall := hfew.all
      subst hall
      clear hlt hj hfew
      have hf0j := hf02.then' hfk (fun k hk e => by omega)
      have hownj := own_frm hown2 hfk (fun g hg e => by simp [Value.ownBlock] at hg; omega)
      have hsj := hfk.size
      have hs0j := hf0j.size
      obtain ⟨K2, hK2⟩ : ∃ K2 : Nat → Prop, K2 = fun k => K k ∨ (w.heap.size ≤ k ∧ k < wr.heap.size) := ⟨_, rfl⟩
      have hO2 : OnX K2 wr gx g := by rw [hK2]; exact OnX.wide hOn hf0j (fun k hk => hk)
      have hkn : ∀ k, w.heap.size ≤ k → k < wr.heap.size → K2 k := by rw [hK2]; exact fun k h1 h2 => .inr ⟨h1, h2⟩
      have hkk : ∀ k, K k → K2 k := by rw [hK2]; exact fun k h => .inl h
      have hK2' : ∀ k, K2 k → K k ∨ (w.heap.size ≤ k ∧ k < wr.heap.size) := by rw [hK2]; exact fun k h => h
      have hf0K : Frm (fun k => ¬ K k) w wr := hf0j.mono (fun _ _ h => h.elim)
      clear hK2 hown2 hb2' hfk hf02 hOn
      obtain ⟨W5, rfl⟩ : ∃ W5, W5 = wr := ⟨_, rfl⟩
      go_wp2_with fail
      go_loopw [12] (fun iv wr => ∃ (j : Nat) (cur : List Int) (gq : Gr), j ≤ m ∧ iv = .int .i64 (j : Int) ∧ cpRun n L R (g, at0 n m bys) j = (gq, cur) ∧ OnX K2 wr gx gq ∧ wr.ownsRow gt 3 1 (.slice (some ⟨gt, 0, none⟩) (n + 1 + m) (n + 1 + m)) (n + 1 + m) (cur.map (.int .i64)) ∧ Frm (fun k => ¬ K2 k ∨ k = gt) W5 wr) (fun iv _ => m - (intOf iv).toNat)
      case atStart => exact ⟨0, at0 n m bys, g, by omega, rfl, rfl, hO2, hto, Frm.refl _ _⟩
      case round =>
        clear hto hO2 b0
        obtain ⟨j, cur, gq, hj, rfl, hcr, hOq, hat, hfk⟩ := hrel
        have hno : ∀ k, w.heap.size ≤ k → k < W5.heap.size → k ≠ gt → ¬ (¬ K2 k ∨ k = gt) := fun k h1 h2 h3 h => by rcases h with h | h; exact h (hkn k h1 h2); exact h3 h
        have hbq := hbj.frm hfk (hno _ (by omega) (by omega) (by omega))
        have hRj := own_sl (own_frm hownj hfk (fun g hg => by simp [Value.ownBlock] at hg; subst hg; exact hno _ (by omega) (by omega) (by omega)))
        have hszj := hfk.size
        have hi := HINV.out j (by have := HM.out; omega)
        rw [hcr] at hi
        have hsu := HST.out j
        rw [hcr] at hsu
        obtain ⟨hup, hmany, hlits⟩ := hi
        simp only at hup hmany hlits
        have HCR := Lib.hid hcr
        have HSU := Lib.hid hsu
        have HMY := Lib.hid (hmany.trans h10)
        have HLT := Lib.hid hlits
        have hlen := hup.high
        have b0 := hbq.at_ 0 rfl
        have b1 := hbq.at_ 1 rfl
        clear hcr hsu hmany hlits
        by_cases hlt : j < m
        · have hlt2 : j < L.length := by rw [HM.out]; exact hlt
          obtain ⟨b1', o1, u1, e1, _, hu1, hcR⟩ := hRj.at_ (k := n + 1 + j) (by omega)
          cases e1
          obtain rfl := at_bool hu1
          rw [Nat.zero_add] at hcR
          have hcs2 : cpStep n L R (gq, cur) j = if R.getD (n + 1 + j) false = true then ((gq.and (asL cur (L.getD j (0, 0)).1) (asL cur (L.getD j (0, 0)).2)).2, cur.set (n + 1 + j) (gq.and (asL cur (L.getD j (0, 0)).1) (asL cur (L.getD j (0, 0)).2)).1) else (gq, cur) := rfl
          have hsu := HSU.out
          rw [hcs2] at hsu
          clear hu1 hcs2 HSU
          obtain ⟨z, hz⟩ : ∃ z, z = R.getD (n + 1 + j) false := ⟨_, rfl⟩
          rw [← hz] at hcR hsu
          clear hz
          have j0 : (0 : Int) ≤ j := by omega
          have j1 : (j : Int) < m := by omega
          have wj1 : IntKind.i64.wrap ((n : Int) + j) = (n : Int) + j := IntWalk.i64_in _ (by omega)
          have wj2 : IntKind.i64.wrap ((n : Int) + j + 1) = (n : Int) + j + 1 := IntWalk.i64_in _ (by omega)
          have j3 : (0 : Int) ≤ (n : Int) + j + 1 := by omega
          have j4 : (n : Int) + j + 1 < (n : Int) + 1 + m := by omega
          have j5 : ((n : Int) + j + 1).toNat = n + 1 + j := by omega
          cases z
          · simp only [Bool.false_eq_true, if_false] at hsu
            have HS2 := Lib.hid hsu
            clear hsu
            go_wp2_with fail
            go_roundw
            case rel => exact ⟨j + 1, cur, gq, by omega, by go_num, HS2.out, hOq, hat, hfk⟩
            case measure => simp [intOf]; omega
          · simp only [if_true] at hsu
            obtain ⟨b, o, rfl, hFb, q1, q2⟩ := sl_pair hs hlt
            have hbw : b < w.heap.size := World.block_lt_of_cell? _ _ q1
            have hnb := hkk b (hF b hFb)
            rw [← Nat.add_assoc] at q2
            have q1 := hfk.cell (hf0j.cell q1 id) (fun h => by rcases h with h | h; exact h hnb; simp at h; omega)
            have q2 := hfk.cell (hf0j.cell q2 id) (fun h => by rcases h with h | h; exact h hnb; simp at h; omega)
            have hpr := HR.out j (L.getD j (0, 0)) (by simp [List.getD, hlt2])
            obtain ⟨p, hp⟩ : ∃ p, L.getD j (0, 0) = p := ⟨_, rfl⟩
            rw [hp] at q1 q2 hpr hsu
            clear hp
            obtain ⟨y1, y2⟩ := p
            simp only at q1 q2 hpr hsu
            have a1 := asL_isL (l := y1) HLT.out
            have a2 := asL_isL (l := y2) HLT.out
            obtain ⟨e1, he1⟩ : ∃ e1 : Nat, y1 / 2 = (e1 : Int) := ⟨(y1 / 2).toNat, by omega⟩
            obtain ⟨e2, he2⟩ : ∃ e2 : Nat, y2 / 2 = (e2 : Int) := ⟨(y2 / 2).toNat, by omega⟩
            have f1 : asL cur y1 = if y1 % 2 = 1 then notL (cur.getD e1 0) else cur.getD e1 0 := by unfold asL; rw [he1]; rfl
            have f2 : asL cur y2 = if y2 % 2 = 1 then notL (cur.getD e2 0) else cur.getD e2 0 := by unfold asL; rw [he2]; rfl
            have hcl := HMY.out
            have hc1 := own_at hat (ints_at2 (l := cur) (k := e1) (by omega))
            have hc2 := own_at hat (ints_at2 (l := cur) (k := e2) (by omega))
            have s1 := isL_iff.1 (getD_isL2 HLT.out e1)
            have s2 := isL_iff.1 (getD_isL2 HLT.out e2)
            have HA1 := Lib.hid (fun (W : World) => turn_any (cur.getD e1 0) y1 (by omega) (by omega) (by omega) (by omega) W)
            have HA2 := Lib.hid (fun (W : World) => turn_any (cur.getD e2 0) y2 (by omega) (by omega) (by omega) (by omega) W)
            rw [← f1] at HA1
            rw [← f2] at HA2
            have HX := Lib.hid (onx_and (hOq.drewN 1) (asL cur y1) (asL cur y2) (by omega))
            have HS2 := Lib.hid hsu
            clear hsu a1 a2 f1 f2 s1 s2
            generalize gq.and (asL cur y1) (asL cur y2) = rr at *
            obtain ⟨r, gr⟩ := rr
            generalize asL cur y1 = X1 at *
            generalize asL cur y2 = X2 at *
            simp only at HX HS2
            generalize cur.getD e1 0 = D1 at *
            generalize cur.getD e2 0 = D2 at *
            have k1 : (e1 : Int) < (n : Int) + 1 + m := by omega
            have k2 : (e2 : Int) < (n : Int) + 1 + m := by omega
            have k3 : (0 : Int) ≤ e1 := by omega
            have k4 : (0 : Int) ≤ e2 := by omega
            have HH := Lib.hid (fun (W W' : World) (hf : Frm (fun k => ¬ K2 k) W W') (h : W.cell? ⟨w.heap.size, 0, none⟩ = some (.int .i64 (n : Int)) ∧ W.cell? ⟨w.heap.size, 1, none⟩ = some (.slice (some ⟨b, o, none⟩) m c) ∧ W.cell? ⟨b, o + j * 2, none⟩ = some (.int .i64 y1) ∧ W.cell? ⟨b, o + j * 2 + 1, none⟩ = some (.int .i64 y2) ∧ W.cell? ⟨gt, e1, none⟩ = some (.int .i64 D1) ∧ W.cell? ⟨gt, e2, none⟩ = some (.int .i64 D2)) =>
              show W'.cell? ⟨w.heap.size, 0, none⟩ = some (.int .i64 (n : Int)) ∧ W'.cell? ⟨w.heap.size, 1, none⟩ = some (.slice (some ⟨b, o, none⟩) m c) ∧ W'.cell? ⟨b, o + j * 2, none⟩ = some (.int .i64 y1) ∧ W'.cell? ⟨b, o + j * 2 + 1, none⟩ = some (.int .i64 y2) ∧ W'.cell? ⟨gt, e1, none⟩ = some (.int .i64 D1) ∧ W'.cell? ⟨gt, e2, none⟩ = some (.int .i64 D2) from
              ⟨hf.cell h.1 (fun e => e (hkn _ (by simp) (by simp; omega))), hf.cell h.2.1 (fun e => e (hkn _ (by simp) (by simp; omega))), hf.cell h.2.2.1 (fun e => e hnb), hf.cell h.2.2.2.1 (fun e => e hnb), hf.cell h.2.2.2.2.1 (fun e => e (hkn _ (by simp; omega) (by simp; omega))), hf.cell h.2.2.2.2.2 (fun e => e (hkn _ (by simp; omega) (by simp; omega)))⟩)
            have hH0 : wr.drew.cell? ⟨w.heap.size, 0, none⟩ = some (.int .i64 (n : Int)) ∧ wr.drew.cell? ⟨w.heap.size, 1, none⟩ = some (.slice (some ⟨b, o, none⟩) m c) ∧ wr.drew.cell? ⟨b, o + j * 2, none⟩ = some (.int .i64 y1) ∧ wr.drew.cell? ⟨b, o + j * 2 + 1, none⟩ = some (.int .i64 y2) ∧ wr.drew.cell? ⟨gt, e1, none⟩ = some (.int .i64 D1) ∧ wr.drew.cell? ⟨gt, e2, none⟩ = some (.int .i64 D2) := ⟨b0, b1, q1, q2, hc1, hc2⟩
            clear hc1 hc2 q1 q2
            go_wp2_with fail
            have hHeld := hH0
            refine Held.begin (fun w' => w'.cell? ⟨w.heap.size, 0, none⟩ = some (.int .i64 (n : Int)) ∧ w'.cell? ⟨w.heap.size, 1, none⟩ = some (.slice (some ⟨b, o, none⟩) m c) ∧ w'.cell? ⟨b, o + j * 2, none⟩ = some (.int .i64 y1) ∧ w'.cell? ⟨b, o + j * 2 + 1, none⟩ = some (.int .i64 y2) ∧ w'.cell? ⟨gt, e1, none⟩ = some (.int .i64 D1) ∧ w'.cell? ⟨gt, e2, none⟩ = some (.int .i64 D2)) 43 (by kernel_rfl) ?_
            refine Held.take (i := 0) (oi := ?oa0) (v := ?va0) ?hia0 (by kernel_rfl) (by kernel_rfl) (by kernel_rfl) (by kernel_rfl) (fun _ _ _ h => h) (Or.inl ⟨?hwa0, ?hya0⟩) (by assumption) ?resta0
            case hia0 => (simp only [List.getElem?_toArray, List.getElem?_cons_zero]; rfl)
            case hwa0 => rfl
            case hya0 => (intro w hSw; (try dsimp only at hSw); go_simp; try with_reducible rfl)
            (try simp only [Act.put, List.setIfInBounds_toArray, List.set_cons_zero, List.set_cons_succ])
            refine Held.take (i := 1) (oi := ?oa1) (v := ?va1) ?hia1 (by kernel_rfl) (by kernel_rfl) (by kernel_rfl) (by kernel_rfl) (fun _ _ _ h => h) (Or.inl ⟨?hwa1, ?hya1⟩) (by assumption) ?resta1
            case hia1 => (simp only [List.getElem?_toArray, List.getElem?_cons_succ, List.getElem?_cons_zero]; rfl)
            case hwa1 => rfl
            case hya1 => (intro w hSw; (try dsimp only at hSw); go_simp; try with_reducible rfl)
            (try simp only [Act.put, List.setIfInBounds_toArray, List.set_cons_zero, List.set_cons_succ])
            refine Held.take (i := 2) (oi := ?oa2) (v := ?va2) ?hia2 (by kernel_rfl) (by kernel_rfl) (by kernel_rfl) (by kernel_rfl) (fun _ _ _ h => h) (Or.inl ⟨?hwa2, ?hya2⟩) (by assumption) ?resta2
            case hia2 => (simp only [List.getElem?_toArray, List.getElem?_cons_succ, List.getElem?_cons_zero]; rfl)
            case hwa2 => rfl
            case hya2 => (intro w hSw; (try dsimp only at hSw); go_simp; try with_reducible rfl)
            (try simp only [Act.put, List.setIfInBounds_toArray, List.set_cons_zero, List.set_cons_succ])
            refine Held.take (i := 3) (oi := ?oa3) (v := ?va3) ?hia3 (by kernel_rfl) (by kernel_rfl) (by kernel_rfl) (by kernel_rfl) (fun _ _ _ h => h) (Or.inl ⟨?hwa3, ?hya3⟩) (by assumption) ?resta3
            case hia3 => (simp only [List.getElem?_toArray, List.getElem?_cons_succ, List.getElem?_cons_zero]; rfl)
            case hwa3 => rfl
            case hya3 => (intro w hSw; (try dsimp only at hSw); go_simp; try with_reducible rfl)
            (try simp only [Act.put, List.setIfInBounds_toArray, List.set_cons_zero, List.set_cons_succ])
            refine Held.take (i := 4) (oi := ?oa4) (v := ?va4) ?hia4 (by kernel_rfl) (by kernel_rfl) (by kernel_rfl) (by kernel_rfl) (fun _ _ _ h => h) (Or.inl ⟨?hwa4, ?hya4⟩) (by assumption) ?resta4
            case hia4 => (simp only [List.getElem?_toArray, List.getElem?_cons_succ, List.getElem?_cons_zero]; rfl)
            case hwa4 => rfl
            case hya4 => (intro w hSw; (try dsimp only at hSw); go_simp; try with_reducible rfl)
            (try simp only [Act.put, List.setIfInBounds_toArray, List.set_cons_zero, List.set_cons_succ])
            refine Held.take (i := 5) (oi := ?oa5) (v := ?va5) ?hia5 (by kernel_rfl) (by kernel_rfl) (by kernel_rfl) (by kernel_rfl) (fun _ _ _ h => h) (Or.inl ⟨?hwa5, ?hya5⟩) (by assumption) ?resta5
            case hia5 => (simp only [List.getElem?_toArray, List.getElem?_cons_succ, List.getElem?_cons_zero]; rfl)
            case hwa5 => rfl
            case hya5 => (intro w hSw; (try dsimp only at hSw); go_simp; try with_reducible rfl)
            (try simp only [Act.put, List.setIfInBounds_toArray, List.set_cons_zero, List.set_cons_succ])
            refine Held.take (i := 6) (oi := ?oa6) (v := ?va6) ?hia6 (by kernel_rfl) (by kernel_rfl) (by kernel_rfl) (by kernel_rfl) (fun _ _ _ h => h) (Or.inl ⟨?hwa6, ?hya6⟩) (by assumption) ?resta6
            case hia6 => (simp only [List.getElem?_toArray, List.getElem?_cons_succ, List.getElem?_cons_zero]; rfl)
            case hwa6 => rfl
            case hya6 => (intro w hSw; (try dsimp only at hSw); go_simp; try with_reducible rfl)
            (try simp only [Act.put, List.setIfInBounds_toArray, List.set_cons_zero, List.set_cons_succ])
            refine Held.take (i := 7) (oi := ?oa7) (v := ?va7) ?hia7 (by kernel_rfl) (by kernel_rfl) (by kernel_rfl) (by kernel_rfl) (fun _ _ _ h => h) (Or.inl ⟨?hwa7, ?hya7⟩) (by assumption) ?resta7
            case hia7 => (simp only [List.getElem?_toArray, List.getElem?_cons_succ, List.getElem?_cons_zero]; rfl)
            case hwa7 => rfl
            case hya7 => (intro w hSw; (try dsimp only at hSw); go_simp; try with_reducible rfl)
            (try simp only [Act.put, List.setIfInBounds_toArray, List.set_cons_zero, List.set_cons_succ])
            refine Held.take (i := 8) (oi := ?oa8) (v := ?va8) ?hia8 (by kernel_rfl) (by kernel_rfl) (by kernel_rfl) (by kernel_rfl) (fun _ _ _ h => h) (Or.inl ⟨?hwa8, ?hya8⟩) (by assumption) ?resta8
            case hia8 => (simp only [List.getElem?_toArray, List.getElem?_cons_succ, List.getElem?_cons_zero]; rfl)
            case hwa8 => rfl
            case hya8 => (intro w hSw; (try dsimp only at hSw); go_simp; try with_reducible rfl)
            (try simp only [Act.put, List.setIfInBounds_toArray, List.set_cons_zero, List.set_cons_succ])
            refine Held.take (i := 9) (oi := ?oa9) (v := ?va9) ?hia9 (by kernel_rfl) (by kernel_rfl) (by kernel_rfl) (by kernel_rfl) (fun _ _ _ h => h) (Or.inl ⟨?hwa9, ?hya9⟩) (by assumption) ?resta9
            case hia9 => (simp only [List.getElem?_toArray, List.getElem?_cons_succ, List.getElem?_cons_zero]; rfl)
            case hwa9 => rfl
            case hya9 => (intro w hSw; (try dsimp only at hSw); go_simp; try with_reducible rfl)
            (try simp only [Act.put, List.setIfInBounds_toArray, List.set_cons_zero, List.set_cons_succ])
            refine Held.take (i := 10) (oi := ?oa10) (v := ?va10) ?hia10 (by kernel_rfl) (by kernel_rfl) (by kernel_rfl) (by kernel_rfl) (fun _ _ _ h => h) (Or.inl ⟨?hwa10, ?hya10⟩) (by assumption) ?resta10
            case hia10 => (simp only [List.getElem?_toArray, List.getElem?_cons_succ, List.getElem?_cons_zero]; rfl)
            case hwa10 => rfl
            case hya10 => (intro w hSw; (try dsimp only at hSw); go_simp; try with_reducible rfl)
            (try simp only [Act.put, List.setIfInBounds_toArray, List.set_cons_zero, List.set_cons_succ])
            refine Held.take (i := 11) (oi := ?oa11) (v := ?va11) ?hia11 (by kernel_rfl) (by kernel_rfl) (by kernel_rfl) (by kernel_rfl) (fun _ _ _ h => h) (Or.inl ⟨?hwa11, ?hya11⟩) (by assumption) ?resta11
            case hia11 => (simp only [List.getElem?_toArray, List.getElem?_cons_succ, List.getElem?_cons_zero]; rfl)
            case hwa11 => rfl
            case hya11 => (intro w hSw; (try dsimp only at hSw); go_simp; try with_reducible rfl)
            (try simp only [Act.put, List.setIfInBounds_toArray, List.set_cons_zero, List.set_cons_succ])
            refine Held.take (i := 12) (oi := ?oa12) (v := ?va12) ?hia12 (by kernel_rfl) (by kernel_rfl) (by kernel_rfl) (by kernel_rfl) (fun _ _ _ h => h) (Or.inl ⟨?hwa12, ?hya12⟩) (by assumption) ?resta12
            case hia12 => (simp only [List.getElem?_toArray, List.getElem?_cons_succ, List.getElem?_cons_zero]; rfl)
            case hwa12 => rfl
            case hya12 => (intro w hSw; (try dsimp only at hSw); go_simp; try with_reducible rfl)
            (try simp only [Act.put, List.setIfInBounds_toArray, List.set_cons_zero, List.set_cons_succ])
            refine Held.take (i := 13) (oi := ?oa13) (v := ?va13) ?hia13 (by kernel_rfl) (by kernel_rfl) (by kernel_rfl) (by kernel_rfl) (fun _ _ _ h => h) (Or.inl ⟨?hwa13, ?hya13⟩) (by assumption) ?resta13
            case hia13 => (simp only [List.getElem?_toArray, List.getElem?_cons_succ, List.getElem?_cons_zero]; rfl)
            case hwa13 => rfl
            case hya13 => (intro w hSw; (try dsimp only at hSw); go_simp; try with_reducible rfl)
            (try simp only [Act.put, List.setIfInBounds_toArray, List.set_cons_zero, List.set_cons_succ])
            refine Held.take (i := 14) (oi := ?oa14) (v := ?va14) ?hia14 (by kernel_rfl) (by kernel_rfl) (by kernel_rfl) (by kernel_rfl) (fun _ _ _ h => h) (Or.inl ⟨?hwa14, ?hya14⟩) (by assumption) ?resta14
            case hia14 => (simp only [List.getElem?_toArray, List.getElem?_cons_succ, List.getElem?_cons_zero]; rfl)
            case hwa14 => rfl
            case hya14 => (intro w hSw; (try dsimp only at hSw); go_simp; try with_reducible rfl)
            (try simp only [Act.put, List.setIfInBounds_toArray, List.set_cons_zero, List.set_cons_succ])
            refine Held.take (i := 15) (oi := ?oa15) (v := ?va15) ?hia15 (by kernel_rfl) (by kernel_rfl) (by kernel_rfl) (by kernel_rfl) (fun _ _ _ h => h) (Or.inl ⟨?hwa15, ?hya15⟩) (by assumption) ?resta15
            case hia15 => (simp only [List.getElem?_toArray, List.getElem?_cons_succ, List.getElem?_cons_zero]; rfl)
            case hwa15 => rfl
            case hya15 => (intro w hSw; (try dsimp only at hSw); go_simp; try with_reducible rfl)
            (try simp only [Act.put, List.setIfInBounds_toArray, List.set_cons_zero, List.set_cons_succ])
            refine Held.take (i := 16) (oi := ?oa16) (v := ?va16) ?hia16 (by kernel_rfl) (by kernel_rfl) (by kernel_rfl) (by kernel_rfl) (fun _ _ _ h => h) (Or.inl ⟨?hwa16, ?hya16⟩) (by assumption) ?resta16
            case hia16 => (simp only [List.getElem?_toArray, List.getElem?_cons_succ, List.getElem?_cons_zero]; rfl)
            case hwa16 => rfl
            case hya16 => (intro w hSw; (try dsimp only at hSw); go_simp; try with_reducible rfl)
            (try simp only [Act.put, List.setIfInBounds_toArray, List.set_cons_zero, List.set_cons_succ])
            refine Held.take (i := 17) (oi := ?oa17) (v := ?va17) ?hia17 (by kernel_rfl) (by kernel_rfl) (by kernel_rfl) (by kernel_rfl) (fun _ _ _ h => h) (Or.inl ⟨?hwa17, ?hya17⟩) (by assumption) ?resta17
            case hia17 => (simp only [List.getElem?_toArray, List.getElem?_cons_succ, List.getElem?_cons_zero]; rfl)
            case hwa17 => rfl
            case hya17 => (intro w hSw; (try dsimp only at hSw); go_simp; try with_reducible rfl)
            (try simp only [Act.put, List.setIfInBounds_toArray, List.set_cons_zero, List.set_cons_succ])
            refine Held.take (i := 18) (oi := ?oa18) (v := ?va18) ?hia18 (by kernel_rfl) (by kernel_rfl) (by kernel_rfl) (by kernel_rfl) (fun _ _ _ h => h) (Or.inl ⟨?hwa18, ?hya18⟩) (by assumption) ?resta18
            case hia18 => (simp only [List.getElem?_toArray, List.getElem?_cons_succ, List.getElem?_cons_zero]; rfl)
            case hwa18 => rfl
            case hya18 => (intro w hSw; (try dsimp only at hSw); go_simp; try with_reducible rfl)
            (try simp only [Act.put, List.setIfInBounds_toArray, List.set_cons_zero, List.set_cons_succ])
            refine Held.take (i := 19) (oi := ?oa19) (v := ?va19) ?hia19 (by kernel_rfl) (by kernel_rfl) (by kernel_rfl) (by kernel_rfl) (fun _ _ _ h => h) (Or.inl ⟨?hwa19, ?hya19⟩) (by assumption) ?resta19
            case hia19 => (simp only [List.getElem?_toArray, List.getElem?_cons_succ, List.getElem?_cons_zero]; rfl)
            case hwa19 => rfl
            case hya19 => (intro w hSw; (try dsimp only at hSw); go_simp; try with_reducible rfl)
            (try simp only [Act.put, List.setIfInBounds_toArray, List.set_cons_zero, List.set_cons_succ])
            refine Held.take (i := 20) (oi := ?oa20) (v := ?va20) ?hia20 (by kernel_rfl) (by kernel_rfl) (by kernel_rfl) (by kernel_rfl) (fun _ _ _ h => h) (Or.inl ⟨?hwa20, ?hya20⟩) (by assumption) ?resta20
            case hia20 => (simp only [List.getElem?_toArray, List.getElem?_cons_succ, List.getElem?_cons_zero]; rfl)
            case hwa20 => rfl
            case hya20 => (intro w hSw; (try dsimp only at hSw); go_simp; try with_reducible rfl)
            (try simp only [Act.put, List.setIfInBounds_toArray, List.set_cons_zero, List.set_cons_succ])
            refine Held.take (i := 21) (oi := ?oa21) (v := ?va21) ?hia21 (by kernel_rfl) (by kernel_rfl) (by kernel_rfl) (by kernel_rfl) (fun _ _ _ h => h) (Or.inl ⟨?hwa21, ?hya21⟩) (by assumption) ?resta21
            case hia21 => (simp only [List.getElem?_toArray, List.getElem?_cons_succ, List.getElem?_cons_zero]; rfl)
            case hwa21 => rfl
            case hya21 => (intro w hSw; (try dsimp only at hSw); go_simp; try with_reducible rfl)
            (try simp only [Act.put, List.setIfInBounds_toArray, List.set_cons_zero, List.set_cons_succ])
            refine Held.take (i := 22) (oi := ?oa22) (v := ?va22) ?hia22 (by kernel_rfl) (by kernel_rfl) (by kernel_rfl) (by kernel_rfl) (fun _ _ _ h => h) (Or.inl ⟨?hwa22, ?hya22⟩) (by assumption) ?resta22
            case hia22 => (simp only [List.getElem?_toArray, List.getElem?_cons_succ, List.getElem?_cons_zero]; rfl)
            case hwa22 => rfl
            case hya22 => (intro w hSw; (try dsimp only at hSw); go_simp; try with_reducible rfl)
            (try simp only [Act.put, List.setIfInBounds_toArray, List.set_cons_zero, List.set_cons_succ])
            refine Held.take (i := 24) (oi := ?oa24) (v := ?va24) ?hia24 (by kernel_rfl) (by kernel_rfl) (by kernel_rfl) (by kernel_rfl) (fun _ _ _ h => h) (Or.inl ⟨?hwa24, ?hya24⟩) (by assumption) ?resta24
            case hia24 => (simp only [List.getElem?_toArray, List.getElem?_cons_succ, List.getElem?_cons_zero]; rfl)
            case hwa24 => rfl
            case hya24 => (intro w hSw; (try dsimp only at hSw); go_simp; try with_reducible rfl)
            (try simp only [Act.put, List.setIfInBounds_toArray, List.set_cons_zero, List.set_cons_succ])
            refine Held.take (i := 25) (oi := ?oa25) (v := ?va25) ?hia25 (by kernel_rfl) (by kernel_rfl) (by kernel_rfl) (by kernel_rfl) (fun _ _ _ h => h) (Or.inl ⟨?hwa25, ?hya25⟩) (by assumption) ?resta25
            case hia25 => (simp only [List.getElem?_toArray, List.getElem?_cons_succ, List.getElem?_cons_zero]; rfl)
            case hwa25 => rfl
            case hya25 => (intro w hSw; (try dsimp only at hSw); go_simp; try with_reducible rfl)
            (try simp only [Act.put, List.setIfInBounds_toArray, List.set_cons_zero, List.set_cons_succ])
            refine Held.take (i := 26) (oi := ?oa26) (v := ?va26) ?hia26 (by kernel_rfl) (by kernel_rfl) (by kernel_rfl) (by kernel_rfl) (fun _ _ _ h => h) (Or.inl ⟨?hwa26, ?hya26⟩) (by assumption) ?resta26
            case hia26 => (simp only [List.getElem?_toArray, List.getElem?_cons_succ, List.getElem?_cons_zero]; rfl)
            case hwa26 => rfl
            case hya26 => (intro w hSw; (try dsimp only at hSw); go_simp; try with_reducible rfl)
            (try simp only [Act.put, List.setIfInBounds_toArray, List.set_cons_zero, List.set_cons_succ])
            refine Held.take (i := 27) (oi := ?oa27) (v := ?va27) ?hia27 (by kernel_rfl) (by kernel_rfl) (by kernel_rfl) (by kernel_rfl) (fun _ _ _ h => h) (Or.inl ⟨?hwa27, ?hya27⟩) (by assumption) ?resta27
            case hia27 => (simp only [List.getElem?_toArray, List.getElem?_cons_succ, List.getElem?_cons_zero]; rfl)
            case hwa27 => rfl
            case hya27 => (intro w hSw; (try dsimp only at hSw); go_simp; try with_reducible rfl)
            (try simp only [Act.put, List.setIfInBounds_toArray, List.set_cons_zero, List.set_cons_succ])
            refine Held.take (i := 28) (oi := ?oa28) (v := ?va28) ?hia28 (by kernel_rfl) (by kernel_rfl) (by kernel_rfl) (by kernel_rfl) (fun _ _ _ h => h) (Or.inl ⟨?hwa28, ?hya28⟩) (by assumption) ?resta28
            case hia28 => (simp only [List.getElem?_toArray, List.getElem?_cons_succ, List.getElem?_cons_zero]; rfl)
            case hwa28 => rfl
            case hya28 => (intro w hSw; (try dsimp only at hSw); go_simp; try with_reducible rfl)
            (try simp only [Act.put, List.setIfInBounds_toArray, List.set_cons_zero, List.set_cons_succ])
            refine Held.take (i := 29) (oi := ?oa29) (v := ?va29) ?hia29 (by kernel_rfl) (by kernel_rfl) (by kernel_rfl) (by kernel_rfl) (fun _ _ _ h => h) (Or.inl ⟨?hwa29, ?hya29⟩) (by assumption) ?resta29
            case hia29 => (simp only [List.getElem?_toArray, List.getElem?_cons_succ, List.getElem?_cons_zero]; rfl)
            case hwa29 => rfl
            case hya29 => (intro w hSw; (try dsimp only at hSw); go_simp; try with_reducible rfl)
            (try simp only [Act.put, List.setIfInBounds_toArray, List.set_cons_zero, List.set_cons_succ])
            refine Held.take (i := 30) (oi := ?oa30) (v := ?va30) ?hia30 (by kernel_rfl) (by kernel_rfl) (by kernel_rfl) (by kernel_rfl) (fun _ _ _ h => h) (Or.inl ⟨?hwa30, ?hya30⟩) (by assumption) ?resta30
            case hia30 => (simp only [List.getElem?_toArray, List.getElem?_cons_succ, List.getElem?_cons_zero]; rfl)
            case hwa30 => rfl
            case hya30 => (intro w hSw; (try dsimp only at hSw); go_simp; try with_reducible rfl)
            (try simp only [Act.put, List.setIfInBounds_toArray, List.set_cons_zero, List.set_cons_succ])
            refine Held.take (i := 31) (oi := ?oa31) (v := ?va31) ?hia31 (by kernel_rfl) (by kernel_rfl) (by kernel_rfl) (by kernel_rfl) (fun _ _ _ h => h) (Or.inl ⟨?hwa31, ?hya31⟩) (by assumption) ?resta31
            case hia31 => (simp only [List.getElem?_toArray, List.getElem?_cons_succ, List.getElem?_cons_zero]; rfl)
            case hwa31 => rfl
            case hya31 => (intro w hSw; (try dsimp only at hSw); go_simp; try with_reducible rfl)
            (try simp only [Act.put, List.setIfInBounds_toArray, List.set_cons_zero, List.set_cons_succ])
            refine Held.take (i := 32) (oi := ?oa32) (v := ?va32) ?hia32 (by kernel_rfl) (by kernel_rfl) (by kernel_rfl) (by kernel_rfl) (fun _ _ _ h => h) (Or.inl ⟨?hwa32, ?hya32⟩) (by assumption) ?resta32
            case hia32 => (simp only [List.getElem?_toArray, List.getElem?_cons_succ, List.getElem?_cons_zero]; rfl)
            case hwa32 => rfl
            case hya32 => (intro w hSw; (try dsimp only at hSw); go_simp; try with_reducible rfl)
            (try simp only [Act.put, List.setIfInBounds_toArray, List.set_cons_zero, List.set_cons_succ])
            refine Held.take (i := 33) (oi := ?oa33) (v := ?va33) ?hia33 (by kernel_rfl) (by kernel_rfl) (by kernel_rfl) (by kernel_rfl) (fun _ _ _ h => h) (Or.inl ⟨?hwa33, ?hya33⟩) (by assumption) ?resta33
            case hia33 => (simp only [List.getElem?_toArray, List.getElem?_cons_succ, List.getElem?_cons_zero]; rfl)
            case hwa33 => rfl
            case hya33 => (intro w hSw; (try dsimp only at hSw); go_simp; try with_reducible rfl)
            (try simp only [Act.put, List.setIfInBounds_toArray, List.set_cons_zero, List.set_cons_succ])
            refine Held.take (i := 34) (oi := ?oa34) (v := ?va34) ?hia34 (by kernel_rfl) (by kernel_rfl) (by kernel_rfl) (by kernel_rfl) (fun _ _ _ h => h) (Or.inl ⟨?hwa34, ?hya34⟩) (by assumption) ?resta34
            case hia34 => (simp only [List.getElem?_toArray, List.getElem?_cons_succ, List.getElem?_cons_zero]; rfl)
            case hwa34 => rfl
            case hya34 => (intro w hSw; (try dsimp only at hSw); go_simp; try with_reducible rfl)
            (try simp only [Act.put, List.setIfInBounds_toArray, List.set_cons_zero, List.set_cons_succ])
            refine Held.take (i := 35) (oi := ?oa35) (v := ?va35) ?hia35 (by kernel_rfl) (by kernel_rfl) (by kernel_rfl) (by kernel_rfl) (fun _ _ _ h => h) (Or.inl ⟨?hwa35, ?hya35⟩) (by assumption) ?resta35
            case hia35 => (simp only [List.getElem?_toArray, List.getElem?_cons_succ, List.getElem?_cons_zero]; rfl)
            case hwa35 => rfl
            case hya35 => (intro w hSw; (try dsimp only at hSw); go_simp; try with_reducible rfl)
            (try simp only [Act.put, List.setIfInBounds_toArray, List.set_cons_zero, List.set_cons_succ])
            refine Held.take (i := 36) (oi := ?oa36) (v := ?va36) ?hia36 (by kernel_rfl) (by kernel_rfl) (by kernel_rfl) (by kernel_rfl) (fun _ _ _ h => h) (Or.inl ⟨?hwa36, ?hya36⟩) (by assumption) ?resta36
            case hia36 => (simp only [List.getElem?_toArray, List.getElem?_cons_succ, List.getElem?_cons_zero]; rfl)
            case hwa36 => rfl
            case hya36 => (intro w hSw; (try dsimp only at hSw); go_simp; try with_reducible rfl)
            (try simp only [Act.put, List.setIfInBounds_toArray, List.set_cons_zero, List.set_cons_succ])
            refine Held.take (i := 37) (oi := ?oa37) (v := ?va37) ?hia37 (by kernel_rfl) (by kernel_rfl) (by kernel_rfl) (by kernel_rfl) (fun _ _ _ h => h) (Or.inl ⟨?hwa37, ?hya37⟩) (by assumption) ?resta37
            case hia37 => (simp only [List.getElem?_toArray, List.getElem?_cons_succ, List.getElem?_cons_zero]; rfl)
            case hwa37 => rfl
            case hya37 => (intro w hSw; (try dsimp only at hSw); go_simp; try with_reducible rfl)
            (try simp only [Act.put, List.setIfInBounds_toArray, List.set_cons_zero, List.set_cons_succ])
            refine Held.take (i := 38) (oi := ?oa38) (v := ?va38) ?hia38 (by kernel_rfl) (by kernel_rfl) (by kernel_rfl) (by kernel_rfl) (fun _ _ _ h => h) (Or.inl ⟨?hwa38, ?hya38⟩) (by assumption) ?resta38
            case hia38 => (simp only [List.getElem?_toArray, List.getElem?_cons_succ, List.getElem?_cons_zero]; rfl)
            case hwa38 => rfl
            case hya38 => (intro w hSw; (try dsimp only at hSw); go_simp; try with_reducible rfl)
            (try simp only [Act.put, List.setIfInBounds_toArray, List.set_cons_zero, List.set_cons_succ])
            refine Held.take (i := 39) (oi := ?oa39) (v := ?va39) ?hia39 (by kernel_rfl) (by kernel_rfl) (by kernel_rfl) (by kernel_rfl) (fun _ _ _ h => h) (Or.inl ⟨?hwa39, ?hya39⟩) (by assumption) ?resta39
            case hia39 => (simp only [List.getElem?_toArray, List.getElem?_cons_succ, List.getElem?_cons_zero]; rfl)
            case hwa39 => rfl
            case hya39 => (intro w hSw; (try dsimp only at hSw); go_simp; try with_reducible rfl)
            (try simp only [Act.put, List.setIfInBounds_toArray, List.set_cons_zero, List.set_cons_succ])
            refine Held.next (i := 23) (o := ?oa23) (by kernel_rfl) ?hia23 (fun K hK => ?sta23)
            case hia23 => (simp only [List.getElem?_toArray, List.getElem?_cons_succ, List.getElem?_cons_zero]; rfl)
            go_simp
            (go_at_call 129; refine (HA1.out _).mono ?_; rintro e w' ⟨rfl, rfl⟩)
            (try go_wp2_with fail)
            refine hK.out _ _ (fun _ => by assumption) ?_
            clear hK K
            (try simp only [Act.put, List.setIfInBounds_toArray, List.set_cons_zero, List.set_cons_succ])
            refine Held.next (i := 40) (o := ?oa40) (by kernel_rfl) ?hia40 (fun K hK => ?sta40)
            case hia40 => (simp only [List.getElem?_toArray, List.getElem?_cons_succ, List.getElem?_cons_zero]; rfl)
            go_simp
            (go_at_call 129; refine (HA2.out _).mono ?_; rintro e w' ⟨rfl, rfl⟩)
            (try go_wp2_with fail)
            refine hK.out _ _ (fun _ => by assumption) ?_
            clear hK K
            (try simp only [Act.put, List.setIfInBounds_toArray, List.set_cons_zero, List.set_cons_succ])
            refine Held.next (i := 41) (o := ?oa41) (by kernel_rfl) ?hia41 (fun K hK => ?sta41)
            case hia41 => (simp only [List.getElem?_toArray, List.getElem?_cons_succ, List.getElem?_cons_zero]; rfl)
            go_simp
            (go_at_call 33; refine HX.out.mono ?_; rintro e w5 ⟨rfl, hO5, hf5⟩)
            (try go_wp2_with fail)
            refine hK.out _ _ (fun _ => by exact HH.out _ _ hf5 hHeld) ?_
            clear hK K
            (try simp only [Act.put, List.setIfInBounds_toArray, List.set_cons_zero, List.set_cons_succ])
            have hH2 := HH.out _ _ hf5 hHeld
            refine Held.take (i := 42) (oi := ?oa42) (v := ?va42) ?hia42 (by kernel_rfl) (by kernel_rfl) (by kernel_rfl) (by kernel_rfl) (fun _ _ _ h => h) (Or.inl ⟨?hwa42, ?hya42⟩) (by assumption) ?resta42
            case hia42 => (simp only [List.getElem?_toArray, List.getElem?_cons_succ, List.getElem?_cons_zero]; rfl)
            case hwa42 => rfl
            case hya42 => (intro w hSw; (try dsimp only at hSw); go_simp; try with_reducible rfl)
            (try simp only [Act.put, List.setIfInBounds_toArray, List.set_cons_zero, List.set_cons_succ])
            have hs5 := hf5.size
            have hatB := own_frm (own_frm hat (Frm.refl (fun _ => False) wr).drew (fun _ _ => id)) hf5 (fun g hg h => by simp [Value.ownBlock] at hg; subst hg; exact h (hkn _ (by omega) (by omega)))
            have hlen5 : (n + 1 + j) < cur.length := by omega
            have hcw : w5.cell? ⟨gt, n + 1 + j, none⟩ = some (.int .i64 (cur.getD (n + 1 + j) 0)) := own_at hatB (by rw [List.getElem?_map, List.getElem?_eq_getElem hlen5]; simp [List.getD, hlen5])
            have hcf := own_free hatB (n + 1 + j)
            refine Held.next (i := 43) (o := ?oa43) (by kernel_rfl) ?hia43 (fun K hK => ?sta43)
            case hia43 => (simp only [List.getElem?_toArray, List.getElem?_cons_succ, List.getElem?_cons_zero]; rfl)
            go_simp
            refine hK.out _ _ (fun h => absurd h (by decide)) ?_
            clear hK K
            (try simp only [Act.put, List.setIfInBounds_toArray, List.set_cons_zero, List.set_cons_succ])
            refine Held.done (by kernel_rfl) ?_ _
            refine NoPanic.normal ?_
            have hat6 := own_set hatB (i := n + 1 + j) (.int .i64 r)
            rw [← List.map_set] at hat6
            have hfr6 : Frm (fun k => ¬ K2 k ∨ k = gt) W5 (w5.setCell ⟨gt, n + 1 + j, none⟩ (.int .i64 r)) := ((hfk.drewN 1).trans' hf5 (fun _ _ h => h) (fun k _ h => .inl h)).setCell (fun _ => .inr rfl) (.int .i64 r)
            have hO6 : OnX K2 (w5.setCell ⟨gt, n + 1 + j, none⟩ (.int .i64 r)) gx gr := hO5.frmK ((Frm.refl (fun k => k = gt) w5).setCell (p := ⟨gt, n + 1 + j, none⟩) (fun _ => rfl) (.int .i64 r)) (fun k h => by subst h; exact hkn _ (by omega) (by omega))
            go_wp2_with fail
            go_roundw
            case rel => exact ⟨j + 1, cur.set (n + 1 + j) r, gr, by omega, by go_num, HS2.out, hO6, hat6, hfr6⟩
            case measure => simp [intOf]; omega
        · have hjm : m = j := by omega
          subst hjm
          have hcd := HCD.out
          rw [HCR.out] at hcd
          have HC := Lib.hid hcd
          obtain ⟨e1, he1⟩ : ∃ e1 : Nat, x / 2 = (e1 : Int) := ⟨(x / 2).toNat, by omega⟩
          have f1 : asL cur x = if x % 2 = 1 then notL (cur.getD e1 0) else cur.getD e1 0 := by unfold asL; rw [he1]; rfl
          have hcl := HMY.out
          have hc1 := own_at hat (ints_at2 (l := cur) (k := e1) (by omega))
          have s1 := isL_iff.1 (getD_isL2 HLT.out e1)
          have HA1 := Lib.hid (fun (W : World) => turn_any (cur.getD e1 0) x (by omega) (by omega) (by omega) (by omega) W)
          rw [← f1] at HA1
          have k1 : (e1 : Int) < (n : Int) + 1 + m := by omega
          have k3 : (0 : Int) ≤ e1 := by omega
          clear hcd f1 s1
          generalize cur.getD e1 0 = D1 at *
          go_wp2_with fail
          refine (HA1.out _).mono ?_
          rintro e w' ⟨rfl, rfl⟩
          go_wp2_with fail
          go_ret
          refine ⟨ret_int (by rw [HC.out]), ?_, hf0K.trans' hfk (fun _ _ h => h) (fun k hk h hKk => by rcases h with h | h; exact h (hkk k hKk); omega)⟩
          rw [HC.out]
          exact OnX.wideK hOq (Frm.refl (fun _ => False) _) (fun _ _ h => h.elim) (fun k h => .inl (hkk k h))

end Go.Proofs.YtkjlgamggkencaaDoor
