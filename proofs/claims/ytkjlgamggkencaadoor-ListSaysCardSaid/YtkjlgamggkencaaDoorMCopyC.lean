/-
  The contract of look.Copy.
-/
import Derived.Test.YtkjlgamggkencaaDoorMMarks
import Derived.Test.YtkjlgamggkencaaDoorMPure
import Derived.Test.YtkjlgamggkencaaDoorMGate
import Derived.Test.YtkjlgamggkencaaDoorMRBuild
import Derived.Test.YtkjlgamggkencaaDoorMRegion
import Derived.Test.YtkjlgamggkencaaDoorMRow
namespace Go.Proofs.YtkjlgamggkencaaDoor
open Go.RowKit

theorem splice_at0 (n m : Nat) (l : List Int) :
    splice (List.replicate (n + 1 + m) (Value.int .i64 0)) 1 ((l.take n).map (.int .i64)) = (at0 n m l).map (.int .i64) := by
  apply List.ext_getElem?
  intro i
  unfold splice at0
  have h1 : (List.take 1 (List.replicate (n + 1 + m) (Value.int .i64 0))).length = 1 := by simp; omega
  cases i with
  | zero => simp [show n + 1 + m = (n + m) + 1 from by omega, List.replicate_succ]
  | succ i =>
    rw [List.getElem?_append_right (by omega), h1, show i + 1 - 1 = i from by omega, List.getElem?_map]
    by_cases hn : i < n
    · have hr : (0 :: (List.range n).map (fun i => l.getD i 0) ++ List.replicate m 0)[i + 1]? = some (l.getD i 0) := by
        rw [List.getElem?_append_left (by simp; omega), List.getElem?_cons_succ, List.getElem?_map, List.getElem?_range hn]; rfl
      rw [hr]
      simp only [Option.map_some]
      by_cases hl : i < l.length
      · rw [List.getElem?_append_left (by simp; omega)]
        simp [List.getD, hl, hn]
      · rw [List.getElem?_append_right (by simp; omega)]
        simp only [List.length_map, List.length_take, List.getElem?_drop, List.getD]
        rw [List.getElem?_eq_none (l := l) (by omega), List.getElem?_replicate, if_pos (by omega)]
        rfl
    · have hr : (0 :: (List.range n).map (fun i => l.getD i 0) ++ List.replicate m 0)[i + 1]? = (List.replicate m (0 : Int))[i - n]? := by
        rw [List.getElem?_append_right (by simp; omega)]
        simp only [List.length_cons, List.length_map, List.length_range]
        rw [show i + 1 - (n + 1) = i - n from by omega]
      rw [hr, List.getElem?_append_right (by simp; omega)]
      simp only [List.length_map, List.length_take, List.getElem?_drop]
      rw [List.getElem?_replicate, List.getElem?_replicate]
      by_cases hm : i < n + m
      · rw [if_pos (by omega), if_pos (by omega)]; rfl
      · rw [if_neg (by omega), if_neg (by omega)]; rfl

set_option maxRecDepth 100000 in
set_option maxHeartbeats 1000000 in
/-- the closure: what a literal is by its node's -/
theorem clit_any (ab : Nat) (A : Option Addr) (n c : Nat) (F : Nat → Prop) (bys : List Int) (l : Int) (w : World) (hn : bys.length = n) (h0 : 0 ≤ l) (h1 : (l / 2).toNat < n) (hb : n ≤ 1000000) (hx : ∀ x ∈ bys, 0 ≤ x ∧ x ≤ 1000000)
    (ha : w.cell? ⟨ab, 0, none⟩ = some (.slice A n c)) (hs : Sl w F 1 (.slice A n c) n (bys.map (.int .i64))) :
    Calls Tryd.prog 127 #[.int .i64 l, .pointer (some ⟨ab, 0, none⟩)] w fun e w' => e = .returned (.int .i64 (asL bys l)) ∧ w = w' := by
  obtain ⟨b, o, u, rfl, _, hu, hcell⟩ := hs.at_ h1
  obtain rfl := at_getD hu
  have hand := bits_and_one l h0 (by omega)
  have hval : asL bys l = if l % 2 = 1 then notL (bys.getD (l / 2).toNat 0) else bys.getD (l / 2).toNat 0 := rfl
  have hxr := hx (bys.getD (l / 2).toNat 0) (by simp [List.getD, show (l / 2).toNat < bys.length by omega])
  have i0 : (0 : Int) ≤ l / 2 := by omega
  have i1 : l / 2 < (n : Int) := by omega
  have hd := tdiv2 h0
  clear hu hs hx
  generalize bys.getD (l / 2).toNat 0 = x at *
  have HW := Lib.hid hval
  clear hval
  rcases (show l % 2 = 0 ∨ l % 2 = 1 from by omega) with h | h
  · rw [h] at hand
    have hxz := bits_xor_zero x hxr.1 (by omega)
    go_enter Tryd.func127, Tryd.ntmps127
    go_wp2_with fail
    go_ret
    exact ⟨ret_int (by rw [HW.out, if_neg (by omega)]), rfl⟩
  · rw [h] at hand
    have hxz := bits_xor_one x hxr.1 (by omega)
    go_enter Tryd.func127, Tryd.ntmps127
    go_wp2_with fail
    go_ret
    exact ⟨ret_int (by rw [HW.out, if_pos h]), rfl⟩

set_option maxRecDepth 100000 in
set_option maxHeartbeats 8000000 in
theorem copy_many (E : Nat → Value) (fp : Nat → Prop) (gb : Nat) (g : Gr) (n : Nat) (L : List (Int × Int)) (A : Option Addr) (m c : Nat) (B : Option Addr) (k d : Nat) (l : List Int) (x : Int) (Ab : Option Addr) (lb cb : Nat) (bys : List Int) (F F2 F3 : Nat → Prop) (w : World) (hG : IsGr E w fp gb g) (hfp : ∀ g, fp g → g < w.heap.size) (hmade : Made g.n g.ands) (hgl : g.len + L.length < 8000)
    (hm : L.length = m) (hk : l.length = k) (hlb : bys.length = lb) (hr : Right n L) (hn : n ≤ 2000) (hm4 : m ≤ 2000) (hk4 : k ≤ 2000) (hb4 : lb ≤ 1000000) (hl : ∀ x ∈ l, isL x (n + m) = true) (hx : isL x (n + m) = true) (hby : ∀ x ∈ bys, isL x g.len = true)
    (hs : Sl w F 2 (.slice A m c) m (pairs L)) (ho : Sl w F2 1 (.slice B k d) k (l.map (.int .i64))) (hbs : Sl w F3 1 (.slice Ab lb cb) lb (bys.map (.int .i64))) (hF : ∀ k, F k → ¬ fp k) (hcap : ¬ n + 1 + m = 1) :
    Calls Tryd.prog 86 #[.pointer (some ⟨gb, 0, none⟩), cv n A m c B k d, .int .i64 x, .slice Ab lb cb] w fun e w' => e = .returned (.int .i64 (copyG g n L x bys).1) ∧ GStep E fp gb w w' (copyG g n L x bys).2 := by
  obtain ⟨i0, hi0, hz0, hz1, hz2⟩ := info_parts infoIntG
  have hf0 := (Frm.refl (fun _ => False) w).alloc (.cells #[.int .i64 n, .slice A m c, .slice B k d] 40)
  have hb0 : Blk (w.alloc (.cells #[.int .i64 n, .slice A m c, .slice B k d] 40)) w.heap.size 40 [.int .i64 n, .slice A m c, .slice B k d] := Blk.new _ _ _
  have HMK := Lib.hid (marks_any n L A m c B k d l x F F2 (w.alloc (.cells #[.int .i64 n, .slice A m c, .slice B k d] 40)) hm hk hr hn hm4 hk4 hl hx (hs.frm hf0 (fun _ _ => id)) (ho.frm hf0 (fun _ _ => id)))
  have b00 := hb0.at_ 0 rfl
  have b01 := hb0.at_ 1 rfl
  have b02 := hb0.at_ 2 rfl
  have hml := marksL_length n L x
  rw [hm] at hml
  have hxl := isL_iff.1 hx
  have hcd : copyG g n L x bys = (asL (cpRun n L (marksL n L x) (g, at0 n m bys) m).2 x, (cpRun n L (marksL n L x) (g, at0 n m bys) m).1) := by unfold copyG; rw [hm]
  have hinv := fun j hj => cp_inv hmade (n := n) (L := L) (marksL n L x) (at0_isL (n := n) (m := m) hby) hgl j hj
  have hst := fun j => cpRun_succ n L (marksL n L x) (g, at0 n m bys) j
  rw [hm] at hinv hgl
  have HINV := Lib.hid hinv
  have HST := Lib.hid hst
  have HCD := Lib.hid hcd
  have HM := Lib.hid hm
  have HLB := Lib.hid hlb
  have HR := Lib.hid hr
  have h10 := at0_length n m bys
  clear hm hk hr hl ho hx hcd hinv hst hby hlb hmade
  go_enter Tryd.func86, Tryd.ntmps86
  go_wp2_with fail
  refine HMK.out.mono ?_
  rintro e w1 ⟨g1, rfl, hown1, hf1⟩
  generalize marksL n L x = R at *
  have he : ∀ W : World, (binOp .eql 54 (.slice (some ⟨g1, 0, none⟩) (n + 1 + m) (n + 1 + m)) (.slice none 0 0)).run Tryd.prog W = .ok (.bool false) W := fun _ => rfl
  have hf01 := hf0.trans hf1
  have hb1 := hb0.frm hf1 id
  have hsz1 := hf01.size
  clear HMK b00 b01 b02 hf0 hf1 hb0
  go_wp2_with (refine wpList_make_z _ rfl _ _ 22 rfl 3 i0 (.int .i64 0) Tryd.underlying22 hi0 hz0 hz1 rfl .i64 .i64 (n + 1 + m) (n + 1 + m) ?ca ?cb (by omega) (by rw [hz2]; omega) (by omega) ?_)
  case ca => go_simp
  case cb => go_simp
  intro w2 hb2 hf2
  have hal := (Frm.refl (fun _ => False) w2).alloc (.cells #[.slice (some ⟨w1.heap.size, 0, none⟩) (n + 1 + m) (n + 1 + m)] 22)
  have hbt : Blk (w2.alloc (.cells #[.slice (some ⟨w1.heap.size, 0, none⟩) (n + 1 + m) (n + 1 + m)] 22)) w2.heap.size 22 [.slice (some ⟨w1.heap.size, 0, none⟩) (n + 1 + m) (n + 1 + m)] := Blk.new _ _ _

  have hfw := hf2.trans hal
  have hbr := hb2.frm hal id
  have hb3 := hb1.frm hfw id
  have hown3 := own_frm hown1 hfw (fun _ _ => id)
  have hf03 := hf01.trans hfw
  have hsi3 := hbs.frm hf03 (fun _ _ => id)
  have hlt2 := hb2.lt
  have hlq := hb1.lt
  have hg1 : w.heap.size < g1 ∧ g1 < w1.heap.size := ⟨by have := (hown1.lt g1 rfl).1; simp at this; omega, (hown1.lt g1 rfl).2⟩

  have hcl : ((bys.take n).map (Value.int .i64)).length ≤ n := by simp; omega
  have hcp : ((bys.take n).map (Value.int .i64)).length = Nat.min lb n := by simp [HLB.out, Nat.min_comm]
  have hcl2 : ((bys.take n).map (Value.int .i64)).length ≤ lb := by rw [hcp]; exact Nat.min_le_left _ _
  have hspl := splice_at0 n m bys
  have hrl : (List.replicate (n + 1 + m) (Value.int .i64 0)).length = n + 1 + m := by simp
  obtain ⟨cs, hcs⟩ : ∃ cs, cs = (bys.take n).map (Value.int .i64) := ⟨_, rfl⟩
  have hcat : ∀ (i : Nat) (u : Value), cs[i]? = some u → (bys.map (Value.int .i64))[i]? = some u := by
    intro i u hu
    rw [hcs, List.map_take, List.getElem?_take] at hu
    split at hu
    · exact hu
    · cases hu
  have hcone : ∀ u ∈ cs, u.oneCell' = true := by intro u hu; rw [hcs] at hu; obtain ⟨x, _, rfl⟩ := List.mem_map.1 hu; rfl
  rw [← hcs] at hspl hcp hcl hcl2
  generalize List.replicate (n + 1 + m) (Value.int .i64 0) = R0 at *
  have HSP := Lib.hid hspl
  have HRL := Lib.hid hrl
  have HCA := Lib.hid hcat
  rw [show n = 1 + n - 1 from by omega] at hcp
  have HCP := Lib.hid hcp
  have c0 := hbt.at_ 0 rfl
  have b0 := hb3.at_ 0 rfl
  have wa : IntKind.i64.wrap (1 + (n : Int)) = 1 + (n : Int) := IntWalk.i64_in _ (by omega)
  have s1 : (1 : Int) ≤ 1 + (n : Int) := by omega
  have s2 : 1 + (n : Int) ≤ (n : Int) + 1 + m := by omega
  clear hspl hrl hcat hcp hcs hfw hal hb2 hb1 hown1 hf01 hf2
  go_wp2_with (refine wpList_copy_frm rfl (.tmp 26) (.tmp 27) 22 22 rfl 3 Tryd.underlying22 (by rw [hi0]; simp [hz1]) _ _ _ _ _ _ rfl rfl w1.heap.size 1 R0 3 hbr cs HCP.out ?cc1 ?cc2 hcone ?_)
  case cc1 =>
    intro hpos
    obtain ⟨bb, oo, uu, rfl, _⟩ := hsi3.at_ (k := 0) (by omega)
    exact ⟨_, rfl, fun j u hu => hsi3.src j u (HCA.out j u hu)⟩
  case cc2 => have := HRL.out; omega
  intro w4 HG4 hf4
  have hb4 : Blk w4 w1.heap.size 3 (splice R0 1 cs) := HG4.out
  rw [HSP.out] at hb4
  have hat0 := own_of_blk (base := w1.heap.size) hb4 (n + 1 + m) (n + 1 + m) (Nat.le_refl _) (by simp [h10]) (by unfold maxLen; omega) (Nat.le_refl _)
  rw [List.take_of_length_le (by simp [h10])] at hat0
  have hbt4 := hbt.frm hf4 (by omega)
  have hbq4 := hb3.frm hf4 (by omega)
  have hown4 := own_frm hown3 hf4 (fun g hg e => by simp [Value.ownBlock] at hg; omega)
  have hf04 := hf03.then' hf4 (fun g hg e => by omega)
  have hs3 := hf03.size
  have hs4 := hf4.size
  have hG4 := hG.frm hf04 (fun _ _ => id)
  have b0' := hbq4.at_ 0 rfl
  have hlt4 := hbt4.lt
  clear HG4 hb4 HSP HRL HCA HCP hcone hcl hcl2 hsi3 hbr hbt hb3 hown3 hf03 hf4 c0 b0 he hG
  go_wp2_with fail
  go_loopw [12] (fun iv wr => ∃ (j : Nat) (cur : List Int) (gq : Gr) (fq : Nat → Prop), j ≤ m ∧ iv = .int .i64 (1 + (n : Int) + j) ∧ cpRun n L R (g, at0 n m bys) j = (gq, cur) ∧ IsGr E wr fq gb gq ∧ (∀ k, fq k → fp k ∨ w4.heap.size ≤ k) ∧ (∀ k, fq k → k < wr.heap.size) ∧ wr.ownsRow w1.heap.size 3 1 (.slice (some ⟨w1.heap.size, 0, none⟩) (n + 1 + m) (n + 1 + m)) (n + 1 + m) (cur.map (.int .i64)) ∧ Frm (fun k => fp k ∨ k = w1.heap.size) w4 wr) (fun iv _ => (1 + (n : Int) + m - intOf iv).toNat)
  case atStart => exact ⟨0, at0 n m bys, g, fp, by omega, by go_num, rfl, hG4, fun k hk => .inl hk, fun k hk => by have := hfp k hk; omega, hat0, Frm.refl _ _⟩
  case round =>
    clear hat0 hG4 b0'
    obtain ⟨j, cur, gq, fq, hj, rfl, hcr, hGq, hfq1, hfq2, hat, hfk⟩ := hrel
    have hlow : ∀ k, k < w4.heap.size → w.heap.size ≤ k → k ≠ w1.heap.size → ¬ (fp k ∨ k = w1.heap.size) := fun k h1 h2 h3 h => by rcases h with h | h; have := hfp k h; omega; exact h3 h
    have hnfq : ∀ k, k < w4.heap.size → w.heap.size ≤ k → ¬ fq k := fun k h1 h2 h => by rcases hfq1 k h with h | h; have := hfp k h; omega; omega
    have hbqj := hbq4.frm hfk (hlow _ (by omega) (by omega) (by omega))
    have hbtj := hbt4.frm hfk (hlow _ (by omega) (by omega) (by omega))
    have hRj := (own_sl (own_frm hown4 hfk (fun g hg => by simp [Value.ownBlock] at hg; subst hg; exact hlow _ (by omega) (by omega) (by omega))))
    have hszj := hfk.size
    have hi := HINV.out j (by have := HM.out; omega)
    rw [hcr] at hi
    have hsu := HST.out j
    rw [hcr] at hsu
    obtain ⟨hup, hmany, hlits⟩ := hi
    simp only at hup hmany hlits
    have HCR := Lib.hid hcr
    have HSU := Lib.hid hsu
    have HMY := Lib.hid (hmany.trans h10)
    have HLT := Lib.hid hlits
    have hlen := hup.high
    clear hcr hsu hmany hlits
    by_cases hlt : j < m
    · have hlt2 : j < L.length := by rw [HM.out]; exact hlt
      obtain ⟨b1', o1, u1, e1, _, hu1, hcR⟩ := hRj.at_ (k := n + 1 + j) (by omega)
      cases e1
      obtain rfl := at_bool hu1
      rw [Nat.zero_add] at hcR
      have hcs2 : cpStep n L R (gq, cur) j = if R.getD (n + 1 + j) false = true then ((gq.and (asL cur (L.getD j (0, 0)).1) (asL cur (L.getD j (0, 0)).2)).2, cur.set (n + 1 + j) (gq.and (asL cur (L.getD j (0, 0)).1) (asL cur (L.getD j (0, 0)).2)).1) else (gq, cur) := rfl
      have hsu := HSU.out
      rw [hcs2] at hsu
      clear hu1 hcs2 HSU
      obtain ⟨z, hz⟩ : ∃ z, z = R.getD (n + 1 + j) false := ⟨_, rfl⟩
      rw [← hz] at hcR hsu
      clear hz
      have j0 : (0 : Int) ≤ 1 + (n : Int) + j := by omega
      have j1 : 1 + (n : Int) + j < (n : Int) + 1 + m := by omega
      have j2 : (1 + (n : Int) + j).toNat = n + 1 + j := by omega
      have wj1 : IntKind.i64.wrap (1 + (n : Int) + j - 1) = (n : Int) + j := by rw [IntWalk.i64_in _ (by omega)]; omega
      have wj2 : IntKind.i64.wrap ((n : Int) + j - n) = j := by rw [IntWalk.i64_in _ (by omega)]; omega
      cases z
      · simp only [Bool.false_eq_true, if_false] at hsu
        have HS2 := Lib.hid hsu
        clear hsu
        go_wp2_with fail
        go_roundw
        case rel => exact ⟨j + 1, cur, gq, fq, by omega, by go_num, HS2.out, hGq, hfq1, hfq2, hat, hfk⟩
        case measure => simp [intOf]; omega
      · simp only [if_true] at hsu
        obtain ⟨b, o, rfl, hFb, q1, q2⟩ := sl_pair hs hlt
        have hbw : b < w.heap.size := World.block_lt_of_cell? _ _ q1
        have hnb := hF b hFb
        rw [← Nat.add_assoc] at q2
        have q1 := hfk.cell (hf04.cell q1 id) (fun h => by rcases h with h | h; exact hnb h; simp at h; omega)
        have q2 := hfk.cell (hf04.cell q2 id) (fun h => by rcases h with h | h; exact hnb h; simp at h; omega)
        have hpr := HR.out j (L.getD j (0, 0)) (by simp [List.getD, hlt2])
        obtain ⟨p, hp⟩ : ∃ p, L.getD j (0, 0) = p := ⟨_, rfl⟩
        rw [hp] at q1 q2 hpr hsu
        clear hp
        obtain ⟨y1, y2⟩ := p
        simp only at q1 q2 hpr hsu
        have a1 := asL_isL (l := y1) HLT.out
        have a2 := asL_isL (l := y2) HLT.out
        have hsm : ∀ x ∈ cur, 0 ≤ x ∧ x ≤ 1000000 := fun x hx => by have := isL_iff.1 (HLT.out x hx); omega
        have hal := (Frm.refl (fun _ => False) wr).alloc (.cells #[.int .i64 y1, .int .i64 y2] 73)
        have hbp : Blk (wr.alloc (.cells #[.int .i64 y1, .int .i64 y2] 73)) wr.heap.size 73 [.int .i64 y1, .int .i64 y2] := Blk.new _ _ _
        have hatA := own_frm hat hal (fun _ _ => id)
        have hbtA := hbtj.frm hal id
        have hGA := (hGq.frm hal (fun _ _ => id)).drewN 1
        have HAX := Lib.hid (fun (W : World) (hf : Frm (fun _ => False) (wr.alloc (.cells #[.int .i64 y1, .int .i64 y2] 73)) W) => clit_any w2.heap.size (some ⟨w1.heap.size, 0, none⟩) (n + 1 + m) (n + 1 + m) _ cur y1 W HMY.out (by omega) (by omega) (by omega) hsm ((hbtA.frm hf id).at_ 0 rfl) ((own_sl hatA).frm hf (fun _ _ => id)))
        have HAY := Lib.hid (fun (W : World) (hf : Frm (fun _ => False) (wr.alloc (.cells #[.int .i64 y1, .int .i64 y2] 73)) W) => clit_any w2.heap.size (some ⟨w1.heap.size, 0, none⟩) (n + 1 + m) (n + 1 + m) _ cur y2 W HMY.out (by omega) (by omega) (by omega) hsm ((hbtA.frm hf id).at_ 0 rfl) ((own_sl hatA).frm hf (fun _ _ => id)))
        have HX := Lib.hid (and_any E fq gb gq _ (asL cur y1) (asL cur y2) hGA a1 a2 (by omega))
        have hsmr := and_small a1 a2 (show gq.len < 8000 by omega)
        have HS2 := Lib.hid hsu
        clear hsu hsm a1 a2
        generalize gq.and (asL cur y1) (asL cur y2) = rr at *
        obtain ⟨r, gr⟩ := rr
        simp only at HX HS2 hsmr
        have hH0 : (wr.alloc (.cells #[.int .i64 y1, .int .i64 y2] 73)).drew.cell? ⟨w2.heap.size, 0, none⟩ = some (.slice (some ⟨w1.heap.size, 0, none⟩) (n + 1 + m) (n + 1 + m)) ∧ (wr.alloc (.cells #[.int .i64 y1, .int .i64 y2] 73)).drew.cell? ⟨wr.heap.size, 0, none⟩ = some (.int .i64 y1) ∧ (wr.alloc (.cells #[.int .i64 y1, .int .i64 y2] 73)).drew.cell? ⟨wr.heap.size, 1, none⟩ = some (.int .i64 y2) := ⟨hbtA.at_ 0 rfl, hbp.at_ 0 rfl, hbp.at_ 1 rfl⟩
        have b0' := hbqj.at_ 0 rfl
        have b1'' := hbqj.at_ 1 rfl
        have hnp : ¬ fq wr.heap.size := fun h => by have := hfq2 _ h; omega
        have hnt : ¬ fq w2.heap.size := hnfq _ (by omega) (by omega)
        have hna : ¬ fq w1.heap.size := hnfq _ (by omega) (by omega)
        have hdr := (Frm.refl (fun _ => False) (wr.alloc (.cells #[.int .i64 y1, .int .i64 y2] 73))).drew
        have k0 : (0 : Int) ≤ j := by omega
        have k1 : (j : Int) < m := by omega
        go_wp2_with fail
        have hHeld := hH0
        refine Held.begin (fun w' => w'.cell? ⟨w2.heap.size, 0, none⟩ = some (.slice (some ⟨w1.heap.size, 0, none⟩) (n + 1 + m) (n + 1 + m)) ∧ w'.cell? ⟨wr.heap.size, 0, none⟩ = some (.int .i64 y1) ∧ w'.cell? ⟨wr.heap.size, 1, none⟩ = some (.int .i64 y2)) 12 (by kernel_rfl) ?_
        refine Held.take (i := 0) (oi := ?oa0) (v := ?va0) ?hia0 (by kernel_rfl) (by kernel_rfl) (by kernel_rfl) (by kernel_rfl) (fun _ _ _ h => h) (Or.inl ⟨?hwa0, ?hya0⟩) (by assumption) ?resta0
        case hia0 => (simp only [List.getElem?_toArray, List.getElem?_cons_zero]; rfl)
        case hwa0 => rfl
        case hya0 => (intro w hSw; (try dsimp only at hSw); go_simp; try with_reducible rfl)
        (try simp only [Act.put, List.setIfInBounds_toArray, List.set_cons_zero, List.set_cons_succ])
        refine Held.take (i := 1) (oi := ?oa1) (v := ?va1) ?hia1 (by kernel_rfl) (by kernel_rfl) (by kernel_rfl) (by kernel_rfl) (fun _ _ _ h => h) (Or.inl ⟨?hwa1, ?hya1⟩) (by assumption) ?resta1
        case hia1 => (simp only [List.getElem?_toArray, List.getElem?_cons_succ, List.getElem?_cons_zero]; rfl)
        case hwa1 => rfl
        case hya1 => (intro w hSw; (try dsimp only at hSw); go_simp; try with_reducible rfl)
        (try simp only [Act.put, List.setIfInBounds_toArray, List.set_cons_zero, List.set_cons_succ])
        refine Held.take (i := 2) (oi := ?oa2) (v := ?va2) ?hia2 (by kernel_rfl) (by kernel_rfl) (by kernel_rfl) (by kernel_rfl) (fun _ _ _ h => h) (Or.inl ⟨?hwa2, ?hya2⟩) (by assumption) ?resta2
        case hia2 => (simp only [List.getElem?_toArray, List.getElem?_cons_succ, List.getElem?_cons_zero]; rfl)
        case hwa2 => rfl
        case hya2 => (intro w hSw; (try dsimp only at hSw); go_simp; try with_reducible rfl)
        (try simp only [Act.put, List.setIfInBounds_toArray, List.set_cons_zero, List.set_cons_succ])
        refine Held.take (i := 3) (oi := ?oa3) (v := ?va3) ?hia3 (by kernel_rfl) (by kernel_rfl) (by kernel_rfl) (by kernel_rfl) (fun _ _ _ h => h) (Or.inl ⟨?hwa3, ?hya3⟩) (by assumption) ?resta3
        case hia3 => (simp only [List.getElem?_toArray, List.getElem?_cons_succ, List.getElem?_cons_zero]; rfl)
        case hwa3 => rfl
        case hya3 => (intro w hSw; (try dsimp only at hSw); go_simp; try with_reducible rfl)
        (try simp only [Act.put, List.setIfInBounds_toArray, List.set_cons_zero, List.set_cons_succ])
        refine Held.take (i := 4) (oi := ?oa4) (v := ?va4) ?hia4 (by kernel_rfl) (by kernel_rfl) (by kernel_rfl) (by kernel_rfl) (fun _ _ _ h => h) (Or.inl ⟨?hwa4, ?hya4⟩) (by assumption) ?resta4
        case hia4 => (simp only [List.getElem?_toArray, List.getElem?_cons_succ, List.getElem?_cons_zero]; rfl)
        case hwa4 => rfl
        case hya4 => (intro w hSw; (try dsimp only at hSw); go_simp; try with_reducible rfl)
        (try simp only [Act.put, List.setIfInBounds_toArray, List.set_cons_zero, List.set_cons_succ])
        refine Held.take (i := 5) (oi := ?oa5) (v := ?va5) ?hia5 (by kernel_rfl) (by kernel_rfl) (by kernel_rfl) (by kernel_rfl) (fun _ _ _ h => h) (Or.inl ⟨?hwa5, ?hya5⟩) (by assumption) ?resta5
        case hia5 => (simp only [List.getElem?_toArray, List.getElem?_cons_succ, List.getElem?_cons_zero]; rfl)
        case hwa5 => rfl
        case hya5 => (intro w hSw; (try dsimp only at hSw); go_simp; try with_reducible rfl)
        (try simp only [Act.put, List.setIfInBounds_toArray, List.set_cons_zero, List.set_cons_succ])
        refine Held.take (i := 7) (oi := ?oa7) (v := ?va7) ?hia7 (by kernel_rfl) (by kernel_rfl) (by kernel_rfl) (by kernel_rfl) (fun _ _ _ h => h) (Or.inl ⟨?hwa7, ?hya7⟩) (by assumption) ?resta7
        case hia7 => (simp only [List.getElem?_toArray, List.getElem?_cons_succ, List.getElem?_cons_zero]; rfl)
        case hwa7 => rfl
        case hya7 => (intro w hSw; (try dsimp only at hSw); go_simp; try with_reducible rfl)
        (try simp only [Act.put, List.setIfInBounds_toArray, List.set_cons_zero, List.set_cons_succ])
        refine Held.take (i := 8) (oi := ?oa8) (v := ?va8) ?hia8 (by kernel_rfl) (by kernel_rfl) (by kernel_rfl) (by kernel_rfl) (fun _ _ _ h => h) (Or.inl ⟨?hwa8, ?hya8⟩) (by assumption) ?resta8
        case hia8 => (simp only [List.getElem?_toArray, List.getElem?_cons_succ, List.getElem?_cons_zero]; rfl)
        case hwa8 => rfl
        case hya8 => (intro w hSw; (try dsimp only at hSw); go_simp; try with_reducible rfl)
        (try simp only [Act.put, List.setIfInBounds_toArray, List.set_cons_zero, List.set_cons_succ])
        refine Held.take (i := 9) (oi := ?oa9) (v := ?va9) ?hia9 (by kernel_rfl) (by kernel_rfl) (by kernel_rfl) (by kernel_rfl) (fun _ _ _ h => h) (Or.inl ⟨?hwa9, ?hya9⟩) (by assumption) ?resta9
        case hia9 => (simp only [List.getElem?_toArray, List.getElem?_cons_succ, List.getElem?_cons_zero]; rfl)
        case hwa9 => rfl
        case hya9 => (intro w hSw; (try dsimp only at hSw); go_simp; try with_reducible rfl)
        (try simp only [Act.put, List.setIfInBounds_toArray, List.set_cons_zero, List.set_cons_succ])
        refine Held.next (i := 6) (o := ?oa6) (by kernel_rfl) ?hia6 (fun K hK => ?sta6)
        case hia6 => (simp only [List.getElem?_toArray, List.getElem?_cons_succ, List.getElem?_cons_zero]; rfl)
        go_simp
        (go_at_call 127; refine (HAX.out _ hdr).mono ?_; rintro e w' ⟨rfl, rfl⟩)
        (try go_wp2_with fail)
        refine hK.out _ _ (fun _ => by assumption) ?_
        clear hK K
        (try simp only [Act.put, List.setIfInBounds_toArray, List.set_cons_zero, List.set_cons_succ])
        refine Held.next (i := 10) (o := ?oa10) (by kernel_rfl) ?hia10 (fun K hK => ?sta10)
        case hia10 => (simp only [List.getElem?_toArray, List.getElem?_cons_succ, List.getElem?_cons_zero]; rfl)
        go_simp
        (go_at_call 127; refine (HAY.out _ hdr).mono ?_; rintro e w' ⟨rfl, rfl⟩)
        (try go_wp2_with fail)
        refine hK.out _ _ (fun _ => by assumption) ?_
        clear hK K
        (try simp only [Act.put, List.setIfInBounds_toArray, List.set_cons_zero, List.set_cons_succ])
        refine Held.next (i := 11) (o := ?oa11) (by kernel_rfl) ?hia11 (fun K hK => ?sta11)
        case hia11 => (simp only [List.getElem?_toArray, List.getElem?_cons_succ, List.getElem?_cons_zero]; rfl)
        go_simp
        (go_at_call 27; refine HX.out.mono ?_; rintro e w5 ⟨rfl, fr, hG5, hg5, hf5⟩)
        (try go_wp2_with fail)
        refine hK.out _ _ (fun _ => by exact ⟨hf5.cell hHeld.1 hnt, hf5.cell hHeld.2.1 hnp, hf5.cell hHeld.2.2 hnp⟩) ?_
        clear hK K
        (try simp only [Act.put, List.setIfInBounds_toArray, List.set_cons_zero, List.set_cons_succ])
        have hs5 := hf5.size
        have hs5 : wr.heap.size < w5.heap.size := by simp at hs5; omega
        have hatB := own_frm (own_frm hatA hdr (fun _ _ => id)) hf5 (fun g hg => by simp [Value.ownBlock] at hg; subst hg; exact hna)
        have hlen5 : (n + 1 + j) < cur.length := by rw [HMY.out]; omega
        have hcw : w5.cell? ⟨w1.heap.size, n + 1 + j, none⟩ = some (.int .i64 (cur.getD (n + 1 + j) 0)) := own_at hatB (by rw [List.getElem?_map, List.getElem?_eq_getElem hlen5]; simp [List.getD, hlen5])
        have hcf := own_free hatB (n + 1 + j)
        have hltB : w1.heap.size < w5.heap.size := by omega
        refine Held.next (i := 12) (o := ?oa12) (by kernel_rfl) ?hia12 (fun K hK => ?sta12)
        case hia12 => (simp only [List.getElem?_toArray, List.getElem?_cons_succ, List.getElem?_cons_zero]; rfl)
        go_simp
        refine hK.out _ _ (fun h => absurd h (by decide)) ?_
        clear hK K
        (try simp only [Act.put, List.setIfInBounds_toArray, List.set_cons_zero, List.set_cons_succ])
        refine Held.next (i := 13) (o := ?oa13) (by kernel_rfl) ?hia13 (fun K hK => ?sta13)
        case hia13 => (simp only [List.getElem?_toArray, List.getElem?_cons_succ, List.getElem?_cons_zero]; rfl)
        go_simp
        refine hK.out _ _ (fun h => absurd h (by decide)) ?_
        clear hK K
        (try simp only [Act.put, List.setIfInBounds_toArray, List.set_cons_zero, List.set_cons_succ])
        refine Held.done (by kernel_rfl) ?_ _
        refine NoPanic.normal ?_
        have hat6 := own_set hatB (i := n + 1 + j) (.int .i64 r)
        rw [← List.map_set] at hat6
        have hfr6 : Frm (fun k => fp k ∨ k = w1.heap.size) w4 (w5.setCell ⟨w1.heap.size, n + 1 + j, none⟩ (.int .i64 r)) := ((((hfk.alloc (.cells #[.int .i64 y1, .int .i64 y2] 73)).drewN 1).then' hf5 (fun k hk hq => by rcases hfq1 k hq with h | h; exact .inl h; omega))).setCell (fun _ => .inr rfl) (.int .i64 r)
        have hG6 := hG5.frm ((Frm.refl (fun k => k = w1.heap.size) w5).setCell (p := ⟨w1.heap.size, n + 1 + j, none⟩) (fun _ => rfl) (.int .i64 r)) (fun k hk e => by subst e; rcases hg5 _ hk with h | h; exact hna h; have := h.1; simp at this; omega)
        have hfr1 : ∀ k, fr k → fp k ∨ w4.heap.size ≤ k := fun k hk => by
          rcases hg5 k hk with h | h
          · exact hfq1 k h
          · have := h.1; simp at this; exact .inr (by omega)
        have hfr2 : ∀ k, fr k → k < (w5.setCell ⟨w1.heap.size, n + 1 + j, none⟩ (.int .i64 r)).heap.size := fun k hk => by
          rw [show (w5.setCell ⟨w1.heap.size, n + 1 + j, none⟩ (.int .i64 r)).heap.size = w5.heap.size by simp [World.setCell]]
          rcases hg5 k hk with h | h
          · have := hfq2 k h; omega
          · exact h.2
        go_wp2_with fail
        go_roundw
        case rel => exact ⟨j + 1, cur.set (n + 1 + j) r, gr, fr, by omega, by go_num, HS2.out, hG6, hfr1, hfr2, hat6, hfr6⟩
        case measure => simp [intOf]; omega
    · have hjm : m = j := by omega
      subst hjm
      have j1 : ¬ 1 + (n : Int) + m < (n : Int) + 1 + m := by omega
      have hcd := HCD.out
      rw [HCR.out] at hcd
      have HC := Lib.hid hcd
      have hsm : ∀ x ∈ cur, 0 ≤ x ∧ x ≤ 1000000 := fun x hx => by have := isL_iff.1 (HLT.out x hx); omega
      have HAX := Lib.hid (fun (W : World) (hf : Frm (fun _ => False) wr W) => clit_any w2.heap.size (some ⟨w1.heap.size, 0, none⟩) (n + 1 + m) (n + 1 + m) _ cur x W HMY.out (by omega) (by omega) (by omega) hsm ((hbtj.frm hf id).at_ 0 rfl) ((own_sl hat).frm hf (fun _ _ => id)))
      clear hcd hsm
      go_wp2_with fail
      refine (HAX.out wr (Frm.refl _ _)).mono ?_
      rintro e w' ⟨rfl, rfl⟩
      go_wp2_with fail
      go_ret
      refine ⟨ret_int (by rw [HC.out]), ?_⟩
      rw [HC.out]
      exact ⟨fq, hGq, fun k hk => by rcases hfq1 k hk with h | h; exact .inl h; exact .inr ⟨by omega, hfq2 k hk⟩, hf04.trans' hfk (fun _ _ h => h.elim) (fun k hk h => by rcases h with h | h; exact h; omega)⟩

end Go.Proofs.YtkjlgamggkencaaDoor
