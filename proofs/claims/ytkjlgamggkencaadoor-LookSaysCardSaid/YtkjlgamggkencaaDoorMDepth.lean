/-
  The contract of look.Depth.
-/
import Derived.Test.YtkjlgamggkencaaDoorMMarks
import Derived.Test.YtkjlgamggkencaaDoorMRegion
namespace Go.Proofs.YtkjlgamggkencaaDoor
open Go.RowKit

theorem dmore_le {B : Nat} (d : List Int) (hd : ∀ x ∈ d, 0 ≤ x ∧ x ≤ B) (L : List (Int × Int)) : ∀ x ∈ dmore d L, 0 ≤ x ∧ x ≤ (B : Int) + L.length := by
  induction L generalizing d B with
  | nil => intro x hx; have := hd x hx; simp; omega
  | cons p r ih =>
    intro x hx
    have hg : ∀ k : Nat, 0 ≤ d[k]?.getD 0 ∧ d[k]?.getD 0 ≤ B := by
      intro k
      cases hk : d[k]? with
      | none => exact ⟨Int.le_refl _, by simp⟩
      | some y => exact hd y (List.mem_of_getElem? hk)
    have h1 := hg (p.1 / 2).toNat
    have h2 := hg (p.2 / 2).toNat
    have := ih (B := B + 1) (d ++ [1 + max (d.getD (p.1 / 2).toNat 0) (d.getD (p.2 / 2).toNat 0)]) (by
      intro y hy
      rcases List.mem_append.1 hy with h | h
      · have := hd y h; omega
      · simp at h; omega) x hx
    simp; omega
theorem dmore_get (n : Nat) (L : List (Int × Int)) (k : Nat) : 0 ≤ (dmore (List.replicate (n + 1) 0) L).getD k 0 ∧ (dmore (List.replicate (n + 1) 0) L).getD k 0 ≤ L.length := by
  rw [List.getD]
  cases hk : (dmore (List.replicate (n + 1) 0) L)[k]? with
  | none => exact ⟨Int.le_refl _, by simp⟩
  | some y =>
    have := dmore_le (B := 0) (List.replicate (n + 1) 0) (by intro x hx; have := List.eq_of_mem_replicate hx; omega) L y (List.mem_of_getElem? hk)
    simpa using this
theorem ints_at {l : List Int} {k : Nat} (h : k < l.length) : (l.map (Value.int .i64))[k]? = some (.int .i64 (l.getD k 0)) := by simp [List.getD, h]
theorem mostL_take {d l : List Int} {k : Nat} (hk : k < l.length) : mostL d (l.take (k + 1)) = max (mostL d (l.take k)) (d.getD (l.getD k 0 / 2).toNat 0) := by
  unfold mostL
  rw [List.take_succ_eq_append_getElem hk, List.foldl_append, show l.getD k 0 = l[k] from by simp [List.getD, hk]]
  rfl

set_option maxRecDepth 100000 in
set_option maxHeartbeats 8000000 in
theorem depth_any (n : Nat) (L : List (Int × Int)) (A : Option Addr) (m c : Nat) (B : Option Addr) (k d : Nat) (l : List Int) (F F2 : Nat → Prop) (w : World) (hm : L.length = m) (hk : l.length = k) (hr : Right n L)
    (hn : n ≤ 2000) (hm4 : m ≤ 2000) (hk4 : k ≤ 2000) (hl : ∀ x ∈ l, isL x (n + m) = true) (hs : Sl w F 2 (.slice A m c) m (pairs L)) (ho : Sl w F2 1 (.slice B k d) k (l.map (.int .i64))) :
    Calls Tryd.prog 62 #[cv n A m c B k d] w fun e w' => e = .returned (.int .i64 (depthL n L l)) ∧ Frm (fun _ => False) w w' := by
  obtain ⟨i0, hi0, hz0, hz1, hz2⟩ := info_parts infoIntG
  have hck : ckCode n L l = 0 := ckCode_right hr (by omega) (by rw [hm]; exact hl)
  have hf0 := (Frm.refl (fun _ => False) w).alloc (.cells #[.int .i64 n, .slice A m c, .slice B k d] 40)
  have hb0 : Blk (w.alloc (.cells #[.int .i64 n, .slice A m c, .slice B k d] 40)) w.heap.size 40 [.int .i64 n, .slice A m c, .slice B k d] := Blk.new _ _ _
  have HCK := Lib.hid (check_any [102, 104] (fun _ => ⟨0, 0, none⟩) (by simp) (by simp) n A m c B k d L l F F2 (w.alloc (.cells #[.int .i64 n, .slice A m c, .slice B k d] 40)) hm hk (by omega) (by omega) (hs.frm hf0 (fun _ _ => id)) (ho.frm hf0 (fun _ _ => id)) (fun h => absurd hck h))
  rw [hck, PE_zero] at HCK
  have b00 := hb0.at_ 0 rfl
  have b01 := hb0.at_ 1 rfl
  have b02 := hb0.at_ 2 rfl
  have HM := Lib.hid hm
  have HK := Lib.hid hk
  have HR := Lib.hid hr
  have HL := Lib.hid hl
  clear hm hk hr hl hck
  have wa : IntKind.i64.wrap (1 + (n : Int)) = 1 + (n : Int) := IntWalk.i64_in _ (by omega)
  have wb : IntKind.i64.wrap (1 + (n : Int) + m) = 1 + (n : Int) + m := IntWalk.i64_in _ (by omega)
  go_enter Tryd.func62, Tryd.ntmps62
  go_wp2_with fail
  refine HCK.out.mono ?_
  rintro e w1 ⟨rfl, hf1⟩
  have hb1 := hb0.frm hf1 id
  have hfw1 := hf0.trans hf1
  have b10 := hb1.at_ 0 rfl
  have b11 := hb1.at_ 1 rfl
  clear HCK hb0 hf0 hf1 b00 b01 b02
  go_wp2_with (refine wpList_make_z _ rfl _ _ 22 rfl 3 i0 (.int .i64 0) Tryd.underlying22 hi0 hz0 hz1 rfl .i64 .i64 (n + 1) (n + 1 + m) ?ca ?cb (by omega) (by rw [hz2]; omega) (by omega) ?_)
  case ca => go_simp; omega
  case cb => go_simp; omega
  intro w2 hb2 hf2
  have hown0 := own_of_blk (base := w.heap.size + 1) hb2 (n + 1) (n + 1 + m) (by omega) (by simp) (by unfold maxLen; omega) (by have := hb1.lt; omega)
  have hrep : (List.replicate (n + 1 + m) (Value.int .i64 0)).take (n + 1) = (dmore (List.replicate (n + 1) 0) (L.take 0)).map (.int .i64) := by
    rw [List.take_replicate, show min (n + 1) (n + 1 + m) = n + 1 from by omega]; simp [dmore]
  rw [hrep] at hown0
  have hfw2 := hfw1.trans hf2
  have hb3 := hb1.frm hf2 id
  have b1 := hb3.at_ 1 rfl
  clear hrep hb2 hf2 hb1 hfw1 b10 b11 wa wb
  go_wp2_with fail
  go_loopw [3, 26] (fun t iv wr => ∃ (j : Nat) (A' : Option Addr) (c' : Nat), j ≤ m ∧ iv = .int .i64 j ∧ t = .slice A' (n + 1 + j) c' ∧ Blk wr w.heap.size 40 [.int .i64 n, .slice A m c, .slice B k d] ∧ wr.ownsRow (w.heap.size + 1) 3 1 (.slice A' (n + 1 + j) c') (n + 1 + j) ((dmore (List.replicate (n + 1) 0) (L.take j)).map (.int .i64)) ∧ Frm (fun _ => False) w wr) (fun _ iv _ => m - (intOf iv).toNat)
  case atStart => exact ⟨0, _, _, by omega, rfl, rfl, hb3, hown0, hfw2⟩
  case round =>
    clear hb3 hown0 hfw2 b1
    obtain ⟨j, A', c', hj, rfl, rfl, hb, hown, hfk⟩ := hrel
    have hdl : (dmore (List.replicate (n + 1) (0 : Int)) (L.take j)).length = n + 1 + j := by have := hown.1; simpa using this
    by_cases hlt : j < m
    · have hlt2 : j < L.length := by rw [HM.out]; exact hlt
      obtain ⟨b, o, rfl, _, q1, q2⟩ := sl_pair (hs.frm hfk (fun _ _ => id)) hlt
      rw [← Nat.add_assoc] at q2
      have hrp := HR.out j (L.getD j (0, 0)) (by simp [List.getD, hlt2])
      have hdt := dmore_take (List.replicate (n + 1) (0 : Int)) L hlt2
      obtain ⟨p, hp⟩ : ∃ p, L.getD j (0, 0) = p := ⟨_, rfl⟩
      rw [hp] at q1 q2 hrp hdt
      clear hp
      obtain ⟨y1, y2⟩ := p
      simp only at q1 q2 hrp hdt
      obtain ⟨a1, ha1⟩ : ∃ a1 : Nat, y1 / 2 = (a1 : Int) := ⟨(y1 / 2).toNat, by omega⟩
      obtain ⟨a2, ha2⟩ : ∃ a2 : Nat, y2 / 2 = (a2 : Int) := ⟨(y2 / 2).toNat, by omega⟩
      have hd1 := tdiv2 (show 0 ≤ y1 by omega)
      have hd2 := tdiv2 (show 0 ≤ y2 by omega)
      rw [ha1] at hd1 hdt
      rw [ha2] at hd2 hdt
      simp only [Int.toNat_natCast] at hdt
      have g1 := dmore_get n (L.take j) a1
      have g2 := dmore_get n (L.take j) a2
      rw [List.length_take] at g1 g2
      obtain ⟨gg, rfl, hge⟩ := own_ptr hown (by omega)
      have hc1 := own_at hown (ints_at (l := dmore (List.replicate (n + 1) 0) (L.take j)) (k := a1) (by omega))
      have hc2 := own_at hown (ints_at (l := dmore (List.replicate (n + 1) 0) (L.take j)) (k := a2) (by omega))
      have HDT := Lib.hid hdt
      clear hdt
      generalize (dmore (List.replicate (n + 1) 0) (L.take j)).getD a1 0 = D1 at *
      generalize (dmore (List.replicate (n + 1) 0) (L.take j)).getD a2 0 = D2 at *
      generalize dmore (List.replicate (n + 1) 0) (L.take j) = D at *
      have j0 : (0 : Int) ≤ j := by omega
      have j1 : (j : Int) < m := by omega
      have k1 : (a1 : Int) < (n : Int) + 1 + j := by omega
      have k2 : (a2 : Int) < (n : Int) + 1 + j := by omega
      have k3 : (0 : Int) ≤ a1 := by omega
      have k4 : (0 : Int) ≤ a2 := by omega
      have k5 : IntKind.i64.wrap (a1 : Int) = a1 := IntWalk.i64_in _ (by omega)
      have k6 : IntKind.i64.wrap (a2 : Int) = a2 := IntWalk.i64_in _ (by omega)
      obtain ⟨M, hM, hM2⟩ : ∃ M : Int, max D1 D2 = M ∧ 0 ≤ M ∧ M ≤ 2000 := ⟨max D1 D2, rfl, by omega, by omega⟩
      rw [hM] at HDT
      have wM : IntKind.i64.wrap (1 + M) = 1 + M := IntWalk.i64_in _ (by omega)
      have hal := (Frm.refl (fun _ => False) wr).alloc (.cells #[.int .i64 y1, .int .i64 y2] 73)
      have hbp : Blk (wr.alloc (.cells #[.int .i64 y1, .int .i64 y2] 73)) wr.heap.size 73 [.int .i64 y1, .int .i64 y2] := Blk.new _ _ _
      have hH0 : (wr.alloc (.cells #[.int .i64 y1, .int .i64 y2] 73)).drew.cell? ⟨wr.heap.size, 0, none⟩ = some (.int .i64 y1) ∧ (wr.alloc (.cells #[.int .i64 y1, .int .i64 y2] 73)).drew.cell? ⟨wr.heap.size, 1, none⟩ = some (.int .i64 y2) ∧
        (wr.alloc (.cells #[.int .i64 y1, .int .i64 y2] 73)).drew.cell? ⟨gg, a1, none⟩ = some (.int .i64 D1) ∧ (wr.alloc (.cells #[.int .i64 y1, .int .i64 y2] 73)).drew.cell? ⟨gg, a2, none⟩ = some (.int .i64 D2) := ⟨hbp.at_ 0 rfl, hbp.at_ 1 rfl, hal.cell hc1 id, hal.cell hc2 id⟩
      clear hc1 hc2 g1 g2
      have hggl := (hown.lt gg rfl).2
      rcases Classical.em (D1 < D2) with hcc | hcc
      · obtain rfl : M = D2 := by omega
        clear hM
        go_wp2_with fail
        have hHeld := hH0
        refine Held.begin (fun w' => w'.cell? ⟨wr.heap.size, 0, none⟩ = some (.int .i64 y1) ∧ w'.cell? ⟨wr.heap.size, 1, none⟩ = some (.int .i64 y2) ∧ w'.cell? ⟨gg, a1, none⟩ = some (.int .i64 D1) ∧ w'.cell? ⟨gg, a2, none⟩ = some (.int .i64 M)) 16 (by kernel_rfl) ?_
        refine Held.take2 (i := 0) (oi := ?oa0) (v := ?va0) ?hia0 (by kernel_rfl) (by kernel_rfl) (by kernel_rfl) (by kernel_rfl) (fun _ _ _ h => h) (Or.inl ⟨?hwa0, ?hya0⟩) (by assumption) ?resta0
        case hia0 => (simp only [List.getElem?_toArray, List.getElem?_cons_zero]; rfl)
        case hwa0 => rfl
        case hya0 => (intro w hSw; (try dsimp only at hSw); go_simp; try with_reducible rfl)
        (try simp only [Act.put, List.setIfInBounds_toArray, List.set_cons_zero, List.set_cons_succ])
        refine Held.take2 (i := 1) (oi := ?oa1) (v := ?va1) ?hia1 (by kernel_rfl) (by kernel_rfl) (by kernel_rfl) (by kernel_rfl) (fun _ _ _ h => h) (Or.inl ⟨?hwa1, ?hya1⟩) (by assumption) ?resta1
        case hia1 => (simp only [List.getElem?_toArray, List.getElem?_cons_succ, List.getElem?_cons_zero]; rfl)
        case hwa1 => rfl
        case hya1 => (intro w hSw; (try dsimp only at hSw); go_simp; try with_reducible rfl)
        (try simp only [Act.put, List.setIfInBounds_toArray, List.set_cons_zero, List.set_cons_succ])
        refine Held.take2 (i := 2) (oi := ?oa2) (v := ?va2) ?hia2 (by kernel_rfl) (by kernel_rfl) (by kernel_rfl) (by kernel_rfl) (fun _ _ _ h => h) (Or.inl ⟨?hwa2, ?hya2⟩) (by assumption) ?resta2
        case hia2 => (simp only [List.getElem?_toArray, List.getElem?_cons_succ, List.getElem?_cons_zero]; rfl)
        case hwa2 => rfl
        case hya2 => (intro w hSw; (try dsimp only at hSw); go_simp; try with_reducible rfl)
        (try simp only [Act.put, List.setIfInBounds_toArray, List.set_cons_zero, List.set_cons_succ])
        refine Held.take2 (i := 3) (oi := ?oa3) (v := ?va3) ?hia3 (by kernel_rfl) (by kernel_rfl) (by kernel_rfl) (by kernel_rfl) (fun _ _ _ h => h) (Or.inl ⟨?hwa3, ?hya3⟩) (by assumption) ?resta3
        case hia3 => (simp only [List.getElem?_toArray, List.getElem?_cons_succ, List.getElem?_cons_zero]; rfl)
        case hwa3 => rfl
        case hya3 => (intro w hSw; (try dsimp only at hSw); go_simp; try with_reducible rfl)
        (try simp only [Act.put, List.setIfInBounds_toArray, List.set_cons_zero, List.set_cons_succ])
        refine Held.take2 (i := 4) (oi := ?oa4) (v := ?va4) ?hia4 (by kernel_rfl) (by kernel_rfl) (by kernel_rfl) (by kernel_rfl) (fun _ _ _ h => h) (Or.inl ⟨?hwa4, ?hya4⟩) (by assumption) ?resta4
        case hia4 => (simp only [List.getElem?_toArray, List.getElem?_cons_succ, List.getElem?_cons_zero]; rfl)
        case hwa4 => rfl
        case hya4 => (intro w hSw; (try dsimp only at hSw); go_simp; try with_reducible rfl)
        (try simp only [Act.put, List.setIfInBounds_toArray, List.set_cons_zero, List.set_cons_succ])
        refine Held.take2 (i := 5) (oi := ?oa5) (v := ?va5) ?hia5 (by kernel_rfl) (by kernel_rfl) (by kernel_rfl) (by kernel_rfl) (fun _ _ _ h => h) (Or.inl ⟨?hwa5, ?hya5⟩) (by assumption) ?resta5
        case hia5 => (simp only [List.getElem?_toArray, List.getElem?_cons_succ, List.getElem?_cons_zero]; rfl)
        case hwa5 => rfl
        case hya5 => (intro w hSw; (try dsimp only at hSw); go_simp; try with_reducible rfl)
        (try simp only [Act.put, List.setIfInBounds_toArray, List.set_cons_zero, List.set_cons_succ])
        refine Held.take2 (i := 6) (oi := ?oa6) (v := ?va6) ?hia6 (by kernel_rfl) (by kernel_rfl) (by kernel_rfl) (by kernel_rfl) (fun _ _ _ h => h) (Or.inl ⟨?hwa6, ?hya6⟩) (by assumption) ?resta6
        case hia6 => (simp only [List.getElem?_toArray, List.getElem?_cons_succ, List.getElem?_cons_zero]; rfl)
        case hwa6 => rfl
        case hya6 => (intro w hSw; (try dsimp only at hSw); go_simp; try with_reducible rfl)
        (try simp only [Act.put, List.setIfInBounds_toArray, List.set_cons_zero, List.set_cons_succ])
        refine Held.take2 (i := 7) (oi := ?oa7) (v := ?va7) ?hia7 (by kernel_rfl) (by kernel_rfl) (by kernel_rfl) (by kernel_rfl) (fun _ _ _ h => h) (Or.inl ⟨?hwa7, ?hya7⟩) (by assumption) ?resta7
        case hia7 => (simp only [List.getElem?_toArray, List.getElem?_cons_succ, List.getElem?_cons_zero]; rfl)
        case hwa7 => rfl
        case hya7 => (intro w hSw; (try dsimp only at hSw); go_simp; try with_reducible rfl)
        (try simp only [Act.put, List.setIfInBounds_toArray, List.set_cons_zero, List.set_cons_succ])
        refine Held.take2 (i := 8) (oi := ?oa8) (v := ?va8) ?hia8 (by kernel_rfl) (by kernel_rfl) (by kernel_rfl) (by kernel_rfl) (fun _ _ _ h => h) (Or.inl ⟨?hwa8, ?hya8⟩) (by assumption) ?resta8
        case hia8 => (simp only [List.getElem?_toArray, List.getElem?_cons_succ, List.getElem?_cons_zero]; rfl)
        case hwa8 => rfl
        case hya8 => (intro w hSw; (try dsimp only at hSw); go_simp; try with_reducible rfl)
        (try simp only [Act.put, List.setIfInBounds_toArray, List.set_cons_zero, List.set_cons_succ])
        refine Held.take2 (i := 9) (oi := ?oa9) (v := ?va9) ?hia9 (by kernel_rfl) (by kernel_rfl) (by kernel_rfl) (by kernel_rfl) (fun _ _ _ h => h) (Or.inl ⟨?hwa9, ?hya9⟩) (by assumption) ?resta9
        case hia9 => (simp only [List.getElem?_toArray, List.getElem?_cons_succ, List.getElem?_cons_zero]; rfl)
        case hwa9 => rfl
        case hya9 => (intro w hSw; (try dsimp only at hSw); go_simp; try with_reducible rfl)
        (try simp only [Act.put, List.setIfInBounds_toArray, List.set_cons_zero, List.set_cons_succ])
        refine Held.take2 (i := 10) (oi := ?oa10) (v := ?va10) ?hia10 (by kernel_rfl) (by kernel_rfl) (by kernel_rfl) (by kernel_rfl) (fun _ _ _ h => h) (Or.inl ⟨?hwa10, ?hya10⟩) (by assumption) ?resta10
        case hia10 => (simp only [List.getElem?_toArray, List.getElem?_cons_succ, List.getElem?_cons_zero]; rfl)
        case hwa10 => rfl
        case hya10 => (intro w hSw; (try dsimp only at hSw); go_simp; try with_reducible rfl)
        (try simp only [Act.put, List.setIfInBounds_toArray, List.set_cons_zero, List.set_cons_succ])
        refine Held.take2 (i := 11) (oi := ?oa11) (v := ?va11) ?hia11 (by kernel_rfl) (by kernel_rfl) (by kernel_rfl) (by kernel_rfl) (fun _ _ _ h => h) (Or.inl ⟨?hwa11, ?hya11⟩) (by assumption) ?resta11
        case hia11 => (simp only [List.getElem?_toArray, List.getElem?_cons_succ, List.getElem?_cons_zero]; rfl)
        case hwa11 => rfl
        case hya11 => (intro w hSw; (try dsimp only at hSw); go_simp; try with_reducible rfl)
        (try simp only [Act.put, List.setIfInBounds_toArray, List.set_cons_zero, List.set_cons_succ])
        refine Held.take2 (i := 12) (oi := ?oa12) (v := ?va12) ?hia12 (by kernel_rfl) (by kernel_rfl) (by kernel_rfl) (by kernel_rfl) (fun _ _ _ h => h) (Or.inl ⟨?hwa12, ?hya12⟩) (by assumption) ?resta12
        case hia12 => (simp only [List.getElem?_toArray, List.getElem?_cons_succ, List.getElem?_cons_zero]; rfl)
        case hwa12 => rfl
        case hya12 => (intro w hSw; (try dsimp only at hSw); go_simp; try with_reducible rfl)
        (try simp only [Act.put, List.setIfInBounds_toArray, List.set_cons_zero, List.set_cons_succ])
        refine Held.take2 (i := 13) (oi := ?oa13) (v := ?va13) ?hia13 (by kernel_rfl) (by kernel_rfl) (by kernel_rfl) (by kernel_rfl) (fun _ _ _ h => h) (Or.inl ⟨?hwa13, ?hya13⟩) (by assumption) ?resta13
        case hia13 => (simp only [List.getElem?_toArray, List.getElem?_cons_succ, List.getElem?_cons_zero]; rfl)
        case hwa13 => rfl
        case hya13 => (intro w hSw; (try dsimp only at hSw); go_simp; try with_reducible rfl)
        (try simp only [Act.put, List.setIfInBounds_toArray, List.set_cons_zero, List.set_cons_succ])
        refine Held.take2 (i := 14) (oi := ?oa14) (v := ?va14) ?hia14 (by kernel_rfl) (by kernel_rfl) (by kernel_rfl) (by kernel_rfl) (fun _ _ _ h => h) (Or.inl ⟨?hwa14, ?hya14⟩) (by assumption) ?resta14
        case hia14 => (simp only [List.getElem?_toArray, List.getElem?_cons_succ, List.getElem?_cons_zero]; rfl)
        case hwa14 => rfl
        case hya14 => (intro w hSw; (try dsimp only at hSw); go_simp; try with_reducible rfl)
        (try simp only [Act.put, List.setIfInBounds_toArray, List.set_cons_zero, List.set_cons_succ])
        refine Held.next (i := 15) (o := ?oa15) (by kernel_rfl) ?hia15 (fun K hK => ?sta15)
        case hia15 => (simp only [List.getElem?_toArray, List.getElem?_cons_succ, List.getElem?_cons_zero]; rfl)
        go_simp
        refine hK.out _ _ (fun _ => by exact ⟨(World.cell?_alloc_lt _ _ _ (World.block_lt_of_cell? _ _ hHeld.1)).trans hHeld.1, (World.cell?_alloc_lt _ _ _ (World.block_lt_of_cell? _ _ hHeld.2.1)).trans hHeld.2.1, (World.cell?_alloc_lt _ _ _ (World.block_lt_of_cell? _ _ hHeld.2.2.1)).trans hHeld.2.2.1, (World.cell?_alloc_lt _ _ _ (World.block_lt_of_cell? _ _ hHeld.2.2.2)).trans hHeld.2.2.2⟩) ?_
        clear hK K
        (try simp only [Act.put, List.setIfInBounds_toArray, List.set_cons_zero, List.set_cons_succ])
        refine Held.next (i := 16) (o := ?oa16) (by kernel_rfl) ?hia16 (fun K hK => ?sta16)
        case hia16 => (simp only [List.getElem?_toArray, List.getElem?_cons_succ, List.getElem?_cons_zero]; rfl)
        (refine wp_append_own _ (.tmp 30) (.tmp 45) 22 rfl (w.heap.size + 1) 3 i0 (.int .i64 0) 1 8 Tryd.underlying22 hi0 hz0 hz1 hz2 rfl (by decide) _ _ _ rfl ((own_frm hown hal (fun _ _ => id)).alloc (.cells #[.int .i64 (1 + M)] 3)) ⟨wr.heap.size + 1, 0, none⟩ 1 1 [.int .i64 (1 + M)] rfl rfl (cell_one_new' _ _ _ _ (by simp)) (by intro u hu; simp at hu; subst hu; rfl) (by unfold maxLen; omega) (by omega) (by have := hb.lt; simp; omega) ?_; intro v' w4 hown4 hgrow _)
        refine hK.out _ _ (fun h => absurd h (by decide)) ?_
        clear hK K
        (try simp only [Act.put, List.setIfInBounds_toArray, List.set_cons_zero, List.set_cons_succ])
        have hgr : Frm (fun g => w.heap.size + 1 ≤ g) wr w4 := ((hal.any).alloc (.cells #[.int .i64 (1 + M)] 3)).drew.grown hgrow (fun g hg hlt => (hown.lt g hg).1)
        have hm2 : D.map (Value.int .i64) ++ [.int .i64 (1 + M)] = (dmore (List.replicate (n + 1) 0) (L.take (j + 1))).map (.int .i64) := by rw [HDT.out]; simp
        rw [hm2] at hown4
        obtain ⟨A4, c4, rfl, _⟩ := (Sl.of_own hown4).form
        have hb4 := hb.frm hgr (by omega)
        have hf4 := hfk.then' hgr (fun g hg h => by omega)
        clear hgrow hm2 hown hHeld hH0 hbp hal
        refine Held.next (i := 17) (o := ?oa17) (by kernel_rfl) ?hia17 (fun K hK => ?sta17)
        case hia17 => (simp only [List.getElem?_toArray, List.getElem?_cons_succ, List.getElem?_cons_zero]; rfl)
        go_simp
        refine hK.out _ _ (fun h => absurd h (by decide)) ?_
        clear hK K
        (try simp only [Act.put, List.setIfInBounds_toArray, List.set_cons_zero, List.set_cons_succ])
        refine Held.done (by kernel_rfl) ?_ _
        refine NoPanic.normal ?_
        go_wp2_with fail
        go_roundw
        case rel => exact ⟨j + 1, A4, c4, by omega, by go_num, rfl, hb4, hown4, hf4⟩
        case measure => simp [intOf]; omega
      · obtain rfl : M = D1 := by omega
        have hif : (if M < D2 then D2 else M) = M := if_neg hcc
        clear hM
        go_wp2_with fail
        have hHeld := hH0
        refine Held.begin (fun w' => w'.cell? ⟨wr.heap.size, 0, none⟩ = some (.int .i64 y1) ∧ w'.cell? ⟨wr.heap.size, 1, none⟩ = some (.int .i64 y2) ∧ w'.cell? ⟨gg, a1, none⟩ = some (.int .i64 M) ∧ w'.cell? ⟨gg, a2, none⟩ = some (.int .i64 D2)) 16 (by kernel_rfl) ?_
        refine Held.take2 (i := 0) (oi := ?ob0) (v := ?vb0) ?hib0 (by kernel_rfl) (by kernel_rfl) (by kernel_rfl) (by kernel_rfl) (fun _ _ _ h => h) (Or.inl ⟨?hwb0, ?hyb0⟩) (by assumption) ?restb0
        case hib0 => (simp only [List.getElem?_toArray, List.getElem?_cons_zero]; rfl)
        case hwb0 => rfl
        case hyb0 => (intro w hSw; (try dsimp only at hSw); go_simp; try with_reducible rfl)
        (try simp only [Act.put, List.setIfInBounds_toArray, List.set_cons_zero, List.set_cons_succ])
        refine Held.take2 (i := 1) (oi := ?ob1) (v := ?vb1) ?hib1 (by kernel_rfl) (by kernel_rfl) (by kernel_rfl) (by kernel_rfl) (fun _ _ _ h => h) (Or.inl ⟨?hwb1, ?hyb1⟩) (by assumption) ?restb1
        case hib1 => (simp only [List.getElem?_toArray, List.getElem?_cons_succ, List.getElem?_cons_zero]; rfl)
        case hwb1 => rfl
        case hyb1 => (intro w hSw; (try dsimp only at hSw); go_simp; try with_reducible rfl)
        (try simp only [Act.put, List.setIfInBounds_toArray, List.set_cons_zero, List.set_cons_succ])
        refine Held.take2 (i := 2) (oi := ?ob2) (v := ?vb2) ?hib2 (by kernel_rfl) (by kernel_rfl) (by kernel_rfl) (by kernel_rfl) (fun _ _ _ h => h) (Or.inl ⟨?hwb2, ?hyb2⟩) (by assumption) ?restb2
        case hib2 => (simp only [List.getElem?_toArray, List.getElem?_cons_succ, List.getElem?_cons_zero]; rfl)
        case hwb2 => rfl
        case hyb2 => (intro w hSw; (try dsimp only at hSw); go_simp; try with_reducible rfl)
        (try simp only [Act.put, List.setIfInBounds_toArray, List.set_cons_zero, List.set_cons_succ])
        refine Held.take2 (i := 3) (oi := ?ob3) (v := ?vb3) ?hib3 (by kernel_rfl) (by kernel_rfl) (by kernel_rfl) (by kernel_rfl) (fun _ _ _ h => h) (Or.inl ⟨?hwb3, ?hyb3⟩) (by assumption) ?restb3
        case hib3 => (simp only [List.getElem?_toArray, List.getElem?_cons_succ, List.getElem?_cons_zero]; rfl)
        case hwb3 => rfl
        case hyb3 => (intro w hSw; (try dsimp only at hSw); go_simp; try with_reducible rfl)
        (try simp only [Act.put, List.setIfInBounds_toArray, List.set_cons_zero, List.set_cons_succ])
        refine Held.take2 (i := 4) (oi := ?ob4) (v := ?vb4) ?hib4 (by kernel_rfl) (by kernel_rfl) (by kernel_rfl) (by kernel_rfl) (fun _ _ _ h => h) (Or.inl ⟨?hwb4, ?hyb4⟩) (by assumption) ?restb4
        case hib4 => (simp only [List.getElem?_toArray, List.getElem?_cons_succ, List.getElem?_cons_zero]; rfl)
        case hwb4 => rfl
        case hyb4 => (intro w hSw; (try dsimp only at hSw); go_simp; try with_reducible rfl)
        (try simp only [Act.put, List.setIfInBounds_toArray, List.set_cons_zero, List.set_cons_succ])
        refine Held.take2 (i := 5) (oi := ?ob5) (v := ?vb5) ?hib5 (by kernel_rfl) (by kernel_rfl) (by kernel_rfl) (by kernel_rfl) (fun _ _ _ h => h) (Or.inl ⟨?hwb5, ?hyb5⟩) (by assumption) ?restb5
        case hib5 => (simp only [List.getElem?_toArray, List.getElem?_cons_succ, List.getElem?_cons_zero]; rfl)
        case hwb5 => rfl
        case hyb5 => (intro w hSw; (try dsimp only at hSw); go_simp; try with_reducible rfl)
        (try simp only [Act.put, List.setIfInBounds_toArray, List.set_cons_zero, List.set_cons_succ])
        refine Held.take2 (i := 6) (oi := ?ob6) (v := ?vb6) ?hib6 (by kernel_rfl) (by kernel_rfl) (by kernel_rfl) (by kernel_rfl) (fun _ _ _ h => h) (Or.inl ⟨?hwb6, ?hyb6⟩) (by assumption) ?restb6
        case hib6 => (simp only [List.getElem?_toArray, List.getElem?_cons_succ, List.getElem?_cons_zero]; rfl)
        case hwb6 => rfl
        case hyb6 => (intro w hSw; (try dsimp only at hSw); go_simp; try with_reducible rfl)
        (try simp only [Act.put, List.setIfInBounds_toArray, List.set_cons_zero, List.set_cons_succ])
        refine Held.take2 (i := 7) (oi := ?ob7) (v := ?vb7) ?hib7 (by kernel_rfl) (by kernel_rfl) (by kernel_rfl) (by kernel_rfl) (fun _ _ _ h => h) (Or.inl ⟨?hwb7, ?hyb7⟩) (by assumption) ?restb7
        case hib7 => (simp only [List.getElem?_toArray, List.getElem?_cons_succ, List.getElem?_cons_zero]; rfl)
        case hwb7 => rfl
        case hyb7 => (intro w hSw; (try dsimp only at hSw); go_simp; try with_reducible rfl)
        (try simp only [Act.put, List.setIfInBounds_toArray, List.set_cons_zero, List.set_cons_succ])
        refine Held.take2 (i := 8) (oi := ?ob8) (v := ?vb8) ?hib8 (by kernel_rfl) (by kernel_rfl) (by kernel_rfl) (by kernel_rfl) (fun _ _ _ h => h) (Or.inl ⟨?hwb8, ?hyb8⟩) (by assumption) ?restb8
        case hib8 => (simp only [List.getElem?_toArray, List.getElem?_cons_succ, List.getElem?_cons_zero]; rfl)
        case hwb8 => rfl
        case hyb8 => (intro w hSw; (try dsimp only at hSw); go_simp; try with_reducible rfl)
        (try simp only [Act.put, List.setIfInBounds_toArray, List.set_cons_zero, List.set_cons_succ])
        refine Held.take2 (i := 9) (oi := ?ob9) (v := ?vb9) ?hib9 (by kernel_rfl) (by kernel_rfl) (by kernel_rfl) (by kernel_rfl) (fun _ _ _ h => h) (Or.inl ⟨?hwb9, ?hyb9⟩) (by assumption) ?restb9
        case hib9 => (simp only [List.getElem?_toArray, List.getElem?_cons_succ, List.getElem?_cons_zero]; rfl)
        case hwb9 => rfl
        case hyb9 => (intro w hSw; (try dsimp only at hSw); go_simp; try with_reducible rfl)
        (try simp only [Act.put, List.setIfInBounds_toArray, List.set_cons_zero, List.set_cons_succ])
        refine Held.take2 (i := 10) (oi := ?ob10) (v := ?vb10) ?hib10 (by kernel_rfl) (by kernel_rfl) (by kernel_rfl) (by kernel_rfl) (fun _ _ _ h => h) (Or.inl ⟨?hwb10, ?hyb10⟩) (by assumption) ?restb10
        case hib10 => (simp only [List.getElem?_toArray, List.getElem?_cons_succ, List.getElem?_cons_zero]; rfl)
        case hwb10 => rfl
        case hyb10 => (intro w hSw; (try dsimp only at hSw); go_simp; try with_reducible rfl)
        (try simp only [Act.put, List.setIfInBounds_toArray, List.set_cons_zero, List.set_cons_succ])
        refine Held.take2 (i := 11) (oi := ?ob11) (v := ?vb11) ?hib11 (by kernel_rfl) (by kernel_rfl) (by kernel_rfl) (by kernel_rfl) (fun _ _ _ h => h) (Or.inl ⟨?hwb11, ?hyb11⟩) (by assumption) ?restb11
        case hib11 => (simp only [List.getElem?_toArray, List.getElem?_cons_succ, List.getElem?_cons_zero]; rfl)
        case hwb11 => rfl
        case hyb11 => (intro w hSw; (try dsimp only at hSw); go_simp; try with_reducible rfl)
        (try simp only [Act.put, List.setIfInBounds_toArray, List.set_cons_zero, List.set_cons_succ])
        refine Held.take2 (i := 12) (oi := ?ob12) (v := ?vb12) ?hib12 (by kernel_rfl) (by kernel_rfl) (by kernel_rfl) (by kernel_rfl) (fun _ _ _ h => h) (Or.inl ⟨?hwb12, ?hyb12⟩) (by assumption) ?restb12
        case hib12 => (simp only [List.getElem?_toArray, List.getElem?_cons_succ, List.getElem?_cons_zero]; rfl)
        case hwb12 => rfl
        case hyb12 => (intro w hSw; (try dsimp only at hSw); go_simp; try with_reducible rfl)
        (try simp only [Act.put, List.setIfInBounds_toArray, List.set_cons_zero, List.set_cons_succ])
        refine Held.take2 (i := 13) (oi := ?ob13) (v := ?vb13) ?hib13 (by kernel_rfl) (by kernel_rfl) (by kernel_rfl) (by kernel_rfl) (fun _ _ _ h => h) (Or.inl ⟨?hwb13, ?hyb13⟩) (by assumption) ?restb13
        case hib13 => (simp only [List.getElem?_toArray, List.getElem?_cons_succ, List.getElem?_cons_zero]; rfl)
        case hwb13 => rfl
        case hyb13 => (intro w hSw; (try dsimp only at hSw); go_simp; try with_reducible rfl)
        (try simp only [Act.put, List.setIfInBounds_toArray, List.set_cons_zero, List.set_cons_succ])
        refine Held.take2 (i := 14) (oi := ?ob14) (v := ?vb14) ?hib14 (by kernel_rfl) (by kernel_rfl) (by kernel_rfl) (by kernel_rfl) (fun _ _ _ h => h) (Or.inl ⟨?hwb14, ?hyb14⟩) (by assumption) ?restb14
        case hib14 => (simp only [List.getElem?_toArray, List.getElem?_cons_succ, List.getElem?_cons_zero]; rfl)
        case hwb14 => rfl
        case hyb14 => (intro w hSw; (try dsimp only at hSw); go_simp; try with_reducible rfl)
        (try simp only [Act.put, List.setIfInBounds_toArray, List.set_cons_zero, List.set_cons_succ])
        refine Held.next (i := 15) (o := ?ob15) (by kernel_rfl) ?hib15 (fun K hK => ?stb15)
        case hib15 => (simp only [List.getElem?_toArray, List.getElem?_cons_succ, List.getElem?_cons_zero]; rfl)
        go_simp
        refine hK.out _ _ (fun _ => by exact ⟨(World.cell?_alloc_lt _ _ _ (World.block_lt_of_cell? _ _ hHeld.1)).trans hHeld.1, (World.cell?_alloc_lt _ _ _ (World.block_lt_of_cell? _ _ hHeld.2.1)).trans hHeld.2.1, (World.cell?_alloc_lt _ _ _ (World.block_lt_of_cell? _ _ hHeld.2.2.1)).trans hHeld.2.2.1, (World.cell?_alloc_lt _ _ _ (World.block_lt_of_cell? _ _ hHeld.2.2.2)).trans hHeld.2.2.2⟩) ?_
        clear hK K
        (try simp only [Act.put, List.setIfInBounds_toArray, List.set_cons_zero, List.set_cons_succ])
        refine Held.next (i := 16) (o := ?ob16) (by kernel_rfl) ?hib16 (fun K hK => ?stb16)
        case hib16 => (simp only [List.getElem?_toArray, List.getElem?_cons_succ, List.getElem?_cons_zero]; rfl)
        (refine wp_append_own _ (.tmp 30) (.tmp 45) 22 rfl (w.heap.size + 1) 3 i0 (.int .i64 0) 1 8 Tryd.underlying22 hi0 hz0 hz1 hz2 rfl (by decide) _ _ _ rfl ((own_frm hown hal (fun _ _ => id)).alloc (.cells #[.int .i64 (1 + M)] 3)) ⟨wr.heap.size + 1, 0, none⟩ 1 1 [.int .i64 (1 + M)] rfl rfl (cell_one_new' _ _ _ _ (by simp)) (by intro u hu; simp at hu; subst hu; rfl) (by unfold maxLen; omega) (by omega) (by have := hb.lt; simp; omega) ?_; intro v' w4 hown4 hgrow _)
        refine hK.out _ _ (fun h => absurd h (by decide)) ?_
        clear hK K
        (try simp only [Act.put, List.setIfInBounds_toArray, List.set_cons_zero, List.set_cons_succ])
        have hgr : Frm (fun g => w.heap.size + 1 ≤ g) wr w4 := ((hal.any).alloc (.cells #[.int .i64 (1 + M)] 3)).drew.grown hgrow (fun g hg hlt => (hown.lt g hg).1)
        have hm2 : D.map (Value.int .i64) ++ [.int .i64 (1 + M)] = (dmore (List.replicate (n + 1) 0) (L.take (j + 1))).map (.int .i64) := by rw [HDT.out]; simp
        rw [hm2] at hown4
        obtain ⟨A4, c4, rfl, _⟩ := (Sl.of_own hown4).form
        have hb4 := hb.frm hgr (by omega)
        have hf4 := hfk.then' hgr (fun g hg h => by omega)
        clear hgrow hm2 hown hHeld hH0 hbp hal
        refine Held.next (i := 17) (o := ?ob17) (by kernel_rfl) ?hib17 (fun K hK => ?stb17)
        case hib17 => (simp only [List.getElem?_toArray, List.getElem?_cons_succ, List.getElem?_cons_zero]; rfl)
        go_simp
        refine hK.out _ _ (fun h => absurd h (by decide)) ?_
        clear hK K
        (try simp only [Act.put, List.setIfInBounds_toArray, List.set_cons_zero, List.set_cons_succ])
        refine Held.done (by kernel_rfl) ?_ _
        refine NoPanic.normal ?_
        go_wp2_with fail
        go_roundw
        case rel => exact ⟨j + 1, A4, c4, by omega, by go_num, rfl, hb4, hown4, hf4⟩
        case measure => simp [intOf]; omega
    · have hjm : m = j := by omega
      subst hjm
      have ht : L.take m = L := List.take_of_length_le (by rw [HM.out]; exact Nat.le_refl _)
      rw [ht] at hown hdl
      have hdep : depthL n L l = mostL (dmore (List.replicate (n + 1) 0) L) l := rfl
      have HDE := Lib.hid hdep
      have hdg := dmore_get n L
      clear ht hlt hj hdep
      have b2 := hb.at_ 2 rfl
      obtain ⟨gg, rfl, hge⟩ := own_ptr hown (by omega)
      have hD := own_sl hown
      clear hown
      generalize dmore (List.replicate (n + 1) (0 : Int)) L = D at *
      have HDG := Lib.hid hdg
      have HDL := Lib.hid hdl
      clear hdg hdl
      obtain ⟨W4, rfl⟩ : ∃ W4, W4 = wr := ⟨_, rfl⟩
      go_wp2_with fail
      go_loopw [6, 51] (fun t iv wr => ∃ (j : Nat), j ≤ k ∧ iv = .int .i64 j ∧ t = .int .i64 (mostL D (l.take j)) ∧ Frm (fun _ => False) W4 wr) (fun _ iv _ => k - (intOf iv).toNat)
      case atStart => exact ⟨0, by omega, rfl, rfl, Frm.refl _ _⟩
      case round =>
        clear b2
        obtain ⟨j, hj, rfl, rfl, hfj⟩ := hrel
        by_cases hlt : j < k
        · have hlt2 : j < l.length := by rw [HK.out]; exact hlt
          obtain ⟨b, o, u, rfl, _, hu, hcell⟩ := (ho.frm (hfk.trans hfj) (fun _ _ => id)).at_ hlt
          obtain rfl := at_getD hu
          have hx := isL_iff.1 (HL.out (l.getD j 0) (by simp [List.getD, hlt2]))
          have hmt := mostL_take (d := D) hlt2
          clear hu
          generalize l.getD j 0 = x at *
          obtain ⟨a1, ha1⟩ : ∃ a1 : Nat, x / 2 = (a1 : Int) := ⟨(x / 2).toNat, by omega⟩
          have hd1 := tdiv2 (show 0 ≤ x by omega)
          rw [ha1] at hd1 hmt
          simp only [Int.toNat_natCast] at hmt
          obtain ⟨bd, od, ud, e1, _, hud, hcd⟩ := (hD.frm hfj (fun _ _ => id)).at_ (k := a1) (by omega)
          cases e1
          obtain rfl := at_getD hud
          rw [Nat.zero_add] at hcd
          have HMT := Lib.hid hmt
          clear hmt hud
          generalize D.getD a1 0 = D1 at *
          generalize mostL D (l.take j) = M at *
          have j0 : (0 : Int) ≤ j := by omega
          have j1 : (j : Int) < k := by omega
          have k1 : (a1 : Int) < (n : Int) + 1 + m := by omega
          have k3 : (0 : Int) ≤ a1 := by omega
          have k5 : IntKind.i64.wrap (a1 : Int) = a1 := IntWalk.i64_in _ (by omega)
          by_cases hcc : M < D1
          · go_wp2_with fail
            go_roundw
            case rel => exact ⟨j + 1, by omega, by go_num, by rw [HMT.out, show max M D1 = D1 from by omega], hfj⟩
            case measure => simp [intOf]; omega
          · have hif : (if M < D1 then D1 else M) = M := if_neg hcc
            go_wp2_with fail
            go_roundw
            case rel => exact ⟨j + 1, by omega, by go_num, by rw [HMT.out, show max M D1 = M from by omega], hfj⟩
            case measure => simp [intOf]; omega
        · have hjk : k = j := by omega
          subst hjk
          rw [List.take_of_length_le (by rw [HK.out]; exact Nat.le_refl _), ← HDE.out]
          go_wp2_with fail
          go_ret
          exact ⟨rfl, hfk.trans hfj⟩

end Go.Proofs.YtkjlgamggkencaaDoor
