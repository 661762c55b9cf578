/-
  The contract of look.marks.
-/
import Derived.Test.YtkjlgamggkencaaDoorMLookN
import Derived.Test.YtkjlgamggkencaaDoorMPure
namespace Go.Proofs.YtkjlgamggkencaaDoor
open Go.RowKit

theorem own_ptr {w : World} {base n c : Nat} {e : TypeId} {A : Option Addr} {xs : List Value} (h : w.ownsRow base e 1 (.slice A n c) n xs) (hn : 0 < n) : ∃ g, A = some ⟨g, 0, none⟩ ∧ base ≤ g := by
  rcases h.2 with ⟨_, h⟩ | ⟨g, cap, cur, he, hb, _⟩
  · omega
  · cases he; exact ⟨g, rfl, hb⟩
theorem tdiv2 {x : Int} (h : 0 ≤ x) : x.tdiv 2 = x / 2 := by rw [Int.tdiv_eq_ediv_of_nonneg h]
theorem bools_at {l : List Bool} {k : Nat} (h : k < l.length) : (l.map Value.bool)[k]? = some (.bool (l.getD k false)) := by simp [List.getD, h]

set_option maxRecDepth 100000 in
set_option maxHeartbeats 4000000 in
theorem marks_any (n : Nat) (L : List (Int × Int)) (A : Option Addr) (m c : Nat) (B : Option Addr) (k d : Nat) (l : List Int) (x : Int) (F F2 : Nat → Prop) (w : World) (hm : L.length = m) (hk : l.length = k) (hr : Right n L)
    (hn : n ≤ 2000) (hm4 : m ≤ 2000) (hk4 : k ≤ 2000) (hl : ∀ x ∈ l, isL x (n + m) = true) (hx : isL x (n + m) = true) (hs : Sl w F 2 (.slice A m c) m (pairs L)) (ho : Sl w F2 1 (.slice B k d) k (l.map (.int .i64))) :
    Calls Tryd.prog 118 #[cv n A m c B k d, .int .i64 x] w fun e w' => ∃ g, e = .returned (.slice (some ⟨g, 0, none⟩) (n + 1 + m) (n + 1 + m)) ∧ w'.ownsRow w.heap.size 4 1 (.slice (some ⟨g, 0, none⟩) (n + 1 + m) (n + 1 + m)) (n + 1 + m) ((marksL n L x).map .bool) ∧ Frm (fun _ => False) w w' := by
  obtain ⟨i0, hi0, hz0, hz1, hz2⟩ := info_parts infoBoolG
  have hck : ckCode n L l = 0 := ckCode_right hr (by omega) (by rw [hm]; exact hl)
  have hf0 := (Frm.refl (fun _ => False) w).alloc (.cells #[.int .i64 n, .slice A m c, .slice B k d] 40)
  have hb0 : Blk (w.alloc (.cells #[.int .i64 n, .slice A m c, .slice B k d] 40)) w.heap.size 40 [.int .i64 n, .slice A m c, .slice B k d] := Blk.new _ _ _
  have HCK := Lib.hid (check_any [102, 104] (fun _ => ⟨0, 0, none⟩) (by simp) (by simp) n A m c B k d L l F F2 (w.alloc (.cells #[.int .i64 n, .slice A m c, .slice B k d] 40)) hm hk (by omega) (by omega) (hs.frm hf0 (fun _ _ => id)) (ho.frm hf0 (fun _ _ => id)) (fun h => absurd hck h))
  rw [hck, PE_zero] at HCK
  have hx2 := isL_iff.1 hx
  have b00 := hb0.at_ 0 rfl
  have b01 := hb0.at_ 1 rfl
  have b02 := hb0.at_ 2 rfl
  have HM := Lib.hid hm
  have HR := Lib.hid hr
  clear hm hk hr hl hck ho hx
  have wa : IntKind.i64.wrap (1 + (n : Int)) = 1 + (n : Int) := IntWalk.i64_in _ (by omega)
  have wb : IntKind.i64.wrap (1 + (n : Int) + m) = 1 + (n : Int) + m := IntWalk.i64_in _ (by omega)
  have wc : IntKind.i64.wrap (2 * (1 + (n : Int) + m)) = 2 * (1 + (n : Int) + m) := IntWalk.i64_in _ (by omega)
  have wd : IntKind.i64.wrap (1 + (n : Int) + m - 1) = (n : Int) + m := by rw [IntWalk.i64_in _ (by omega)]; omega
  have c0 : decide (x < 0) = false := by simp; omega
  have c1 : decide (2 * (1 + (n : Int) + m) ≤ x) = false := by simp; omega
  go_enter Tryd.func118, Tryd.ntmps118
  go_wp2_with fail
  refine HCK.out.mono ?_
  rintro e w1 ⟨rfl, hf1⟩
  have hb1 := hb0.frm hf1 id
  have hfw1 := hf0.trans hf1
  clear HCK hb0 hf0 hf1 b00 b01 b02
  go_wp2_with (refine wpList_make_z _ rfl _ _ 54 rfl 4 i0 (.bool false) Tryd.underlying54 hi0 hz0 hz1 rfl .i64 .i64 (n + 1 + m) (n + 1 + m) ?ca ?cb (by omega) (by rw [hz2]; omega) (by omega) ?_)
  case ca => go_simp; omega
  case cb => go_simp; omega
  intro w2 hb2 hf2
  have hown0 := own_of_blk (base := w.heap.size + 1) hb2 (n + 1 + m) (n + 1 + m) (by omega) (by simp) (by unfold maxLen; omega) (by have := hb1.lt; omega)
  have hrep : (List.replicate (n + 1 + m) (Value.bool false)).take (n + 1 + m) = (List.replicate (n + 1 + m) false).map .bool := by simp
  rw [hrep] at hown0
  clear hrep
  have hd := tdiv2 (show 0 ≤ x by omega)
  obtain ⟨q, hq⟩ : ∃ q : Nat, x / 2 = (q : Int) := ⟨(x / 2).toNat, by omega⟩
  have hql : q < n + 1 + m := by omega
  have hqn : (x / 2).toNat = q := by omega
  rw [hq] at hd
  have hlen0 : (List.replicate (n + 1 + m) false).length = n + 1 + m := by simp
  have hcell := own_at hown0 (bools_at (l := List.replicate (n + 1 + m) false) (k := q) (by simpa using hql))
  have hfree := own_free hown0 q
  have hown1 := own_set hown0 (i := q) (.bool true)
  rw [← List.map_set] at hown1
  have hmk : mdown n L ((List.replicate (n + 1 + m) false).set q true) m = marksL n L x := by unfold marksL; rw [hqn, HM.out]
  have hset : Frm (fun k => k = w1.heap.size) w2 (w2.setCell ⟨w1.heap.size, q, none⟩ (.bool true)) := (Frm.refl (fun k => k = w1.heap.size) w2).setCell (p := ⟨w1.heap.size, q, none⟩) (fun _ => rfl) _
  have hlt1 := hb1.lt
  have hb3 := (hb1.frm hf2 id).frm hset (by omega)
  have hfw3 := (hfw1.trans hf2).then' hset (fun g hg e => by have := hfw1.size; omega)
  have hln1 : ((List.replicate (n + 1 + m) false).set q true).length = n + 1 + m := by simp
  have HMK := Lib.hid hmk
  have hq1 : (q : Int) < (n : Int) + 1 + m := by omega
  have hq0 : (0 : Int) ≤ q := by omega
  clear hown0 hb2 hf2 hset hmk hlen0 hq hqn hfw1 hb1 wa wb
  generalize (List.replicate (n + 1 + m) false).set q true = v0 at *
  have HLN := Lib.hid hln1
  clear hln1
  generalize hRe : marksL n L x = R at *
  have HRE := Lib.hid hRe
  clear hRe
  generalize w1.heap.size = g at *
  go_wp2_with fail
  go_loopw [7] (fun iv wr => ∃ (j : Nat) (cur : List Bool), j ≤ m ∧ iv = .int .i64 ((n : Int) + j) ∧ Blk wr w.heap.size 40 [.int .i64 n, .slice A m c, .slice B k d] ∧ wr.ownsRow (w.heap.size + 1) 4 1 (.slice (some ⟨g, 0, none⟩) (n + 1 + m) (n + 1 + m)) (n + 1 + m) (cur.map .bool) ∧ cur.length = n + 1 + m ∧ mdown n L cur j = R ∧ Frm (fun _ => False) w wr) (fun iv _ => (intOf iv).toNat)
  case atStart => exact ⟨m, v0, by omega, rfl, hb3, hown1, HLN.out, HMK.out, hfw3⟩
  case round =>
    clear hb3 hown1 HLN HMK hfw3 hfree hcell
    obtain ⟨j, cur, hj, rfl, hb, hown, hln, hmk, hfk⟩ := hrel
    have HLN := Lib.hid hln
    have HMK := Lib.hid hmk
    clear hln hmk
    have b0 := hb.at_ 0 rfl
    have b1 := hb.at_ 1 rfl
    by_cases hlt : 0 < j
    · obtain ⟨i, rfl⟩ : ∃ i, j = i + 1 := ⟨j - 1, by omega⟩
      have hil : i < L.length := by rw [HM.out]; omega
      obtain ⟨b, o, rfl, _, q1, q2⟩ := sl_pair (hs.frm hfk (fun _ _ => id)) (k := i) (by omega)
      rw [← Nat.add_assoc] at q2
      have hrp := HR.out i (L.getD i (0, 0)) (by simp [List.getD, hil])
      have hst : mdown n L cur (i + 1) = mdown n L (mstep n L cur i) i := rfl
      have hms : mstep n L cur i = if cur.getD (n + 1 + i) false = true then (cur.set ((L.getD i (0, 0)).1 / 2).toNat true).set ((L.getD i (0, 0)).2 / 2).toNat true else cur := rfl
      rw [hms] at hst
      clear hms
      obtain ⟨p, hp⟩ : ∃ p, L.getD i (0, 0) = p := ⟨_, rfl⟩
      rw [hp] at q1 q2 hrp hst
      clear hp
      obtain ⟨y1, y2⟩ := p
      simp only at q1 q2 hrp hst
      have HST := Lib.hid (HMK.out.symm.trans hst)
      clear hst HMK
      have hat := own_at hown (bools_at (l := cur) (k := n + 1 + i) (by rw [HLN.out]; omega))
      obtain ⟨z, hz⟩ : ∃ z, z = cur.getD (n + 1 + i) false := ⟨_, rfl⟩
      rw [← hz] at hat HST
      clear hz
      have j0 : (n : Int) < (n : Int) + ((i : Int) + 1) := by omega
      have j1 : (0 : Int) ≤ (n : Int) + ((i : Int) + 1) := by omega
      have j2 : (n : Int) + ((i : Int) + 1) < (n : Int) + 1 + m := by omega
      have j3 : ((n : Int) + ((i : Int) + 1)).toNat = n + 1 + i := by omega
      have i0 : (0 : Int) ≤ i := by omega
      have i1 : (i : Int) < m := by omega
      have wa : IntKind.i64.wrap ((n : Int) + ((i : Int) + 1) - 1) = (n : Int) + i := by rw [IntWalk.i64_in _ (by omega)]; omega
      have wb : IntKind.i64.wrap ((n : Int) + i - n) = i := by rw [IntWalk.i64_in _ (by omega)]; omega
      cases z
      · have hst := HST.out
        simp only [Bool.false_eq_true, if_false] at hst
        have HS2 := Lib.hid hst
        clear hst HST
        go_wp2_with fail
        go_roundw
        case rel => exact ⟨i, cur, by omega, by go_num, hb, hown, HLN.out, HS2.out.symm, hfk⟩
        case measure => simp [intOf]; omega
      · have hst := HST.out
        simp only [if_true] at hst
        obtain ⟨a1, ha1⟩ : ∃ a1 : Nat, y1 / 2 = (a1 : Int) := ⟨(y1 / 2).toNat, by omega⟩
        obtain ⟨a2, ha2⟩ : ∃ a2 : Nat, y2 / 2 = (a2 : Int) := ⟨(y2 / 2).toNat, by omega⟩
        have hd1 := tdiv2 (show 0 ≤ y1 by omega)
        have hd2 := tdiv2 (show 0 ≤ y2 by omega)
        rw [ha1] at hd1 hst
        rw [ha2] at hd2 hst
        simp only [Int.toNat_natCast] at hst
        have l1 : a1 < n + 1 + m := by omega
        have l2 : a2 < n + 1 + m := by omega
        clear ha1 ha2
        have HS2 := Lib.hid hst
        clear hst HST
        have hal := (Frm.refl (fun _ => False) wr).alloc (.cells #[.int .i64 y1, .int .i64 y2] 73)
        have hbp : Blk (wr.alloc (.cells #[.int .i64 y1, .int .i64 y2] 73)) wr.heap.size 73 [.int .i64 y1, .int .i64 y2] := Blk.new _ _ _
        obtain ⟨W1, hW1⟩ : ∃ W1, W1 = wr.alloc (.cells #[.int .i64 y1, .int .i64 y2] 73) := ⟨_, rfl⟩
        have hownA := own_frm hown hal (fun _ _ => id)
        have hbA := hb.frm hal id
        have hglt := (hown.lt g rfl).2
        have hge := (hown.lt g rfl).1
        have k1 : (a1 : Int) < (n : Int) + 1 + m := by omega
        have k2 : (a2 : Int) < (n : Int) + 1 + m := by omega
        have k3 : (0 : Int) ≤ a1 := by omega
        have k4 : (0 : Int) ≤ a2 := by omega
        have k5 : IntKind.i64.wrap (a1 : Int) = a1 := IntWalk.i64_in _ (by omega)
        have k6 : IntKind.i64.wrap (a2 : Int) = a2 := IntWalk.i64_in _ (by omega)
        go_wp2_with fail
        rw [← hW1] at hal hbp hownA hbA ⊢
        clear hW1
        have hf4 := hfk.trans hal
        have hc1 : W1.drew.cell? ⟨g, a1, none⟩ = some (.bool (cur.getD a1 false)) := own_at hownA (bools_at (l := cur) (k := a1) (by rw [HLN.out]; exact l1))
        have hz1 : W1.drew.frozen? ⟨g, a1, none⟩ = false := own_free hownA a1
        have hown5 := own_set hownA (i := a1) (.bool true)
        rw [← List.map_set] at hown5
        have hln5 : (cur.set a1 true).length = n + 1 + m := by rw [List.length_set]; exact HLN.out
        have hc2 : (W1.setCell ⟨g, a1, none⟩ (.bool true)).drew.cell? ⟨g, a2, none⟩ = some (.bool ((cur.set a1 true).getD a2 false)) := own_at hown5 (bools_at (l := cur.set a1 true) (k := a2) (by omega))
        have hz2 : (W1.setCell ⟨g, a1, none⟩ (.bool true)).drew.frozen? ⟨g, a2, none⟩ = false := own_free hown5 a2
        have hown6 := own_set hown5 (i := a2) (.bool true)
        rw [← List.map_set] at hown6
        have hln6 : ((cur.set a1 true).set a2 true).length = n + 1 + m := by rw [List.length_set]; exact hln5
        have hs5 : Frm (fun k => k = g) W1 (W1.setCell ⟨g, a1, none⟩ (.bool true)).drew := ((Frm.refl (fun k => k = g) _).setCell (p := ⟨g, a1, none⟩) (fun _ => rfl) _).drew
        have hs6 : Frm (fun k => k = g) W1 ((W1.setCell ⟨g, a1, none⟩ (.bool true)).setCell ⟨g, a2, none⟩ (.bool true)) := ((Frm.refl (fun k => k = g) _).setCell (p := ⟨g, a1, none⟩) (fun _ => rfl) _).setCell (p := ⟨g, a2, none⟩) (fun _ => rfl) (.bool true)
        have hb6 := hbA.frm hs6 (by omega)
        have hf6 := hf4.then' hs6 (fun k hk e => by omega)
        have HO6 := Lib.hid hown6
        have HL6 := Lib.hid hln6
        clear hown5 hown6 hln5 hln6 hownA hown
        generalize (cur.set a1 true).set a2 true = cur2 at *
        generalize (cur.set a1 true).getD a2 false = u2 at *
        generalize cur.getD a1 false = u1 at *
        have hH0 : W1.drew.cell? ⟨wr.heap.size, 0, none⟩ = some (.int .i64 y1) ∧ W1.drew.cell? ⟨wr.heap.size, 1, none⟩ = some (.int .i64 y2) := ⟨hbp.at_ 0 rfl, hbp.at_ 1 rfl⟩
        have hHeld := hH0
        refine Held.begin (fun w' => w'.cell? ⟨wr.heap.size, 0, none⟩ = some (.int .i64 y1) ∧ w'.cell? ⟨wr.heap.size, 1, none⟩ = some (.int .i64 y2)) 11 (by kernel_rfl) ?_
        refine Held.take (i := 0) (oi := ?oa0) (v := ?va0) ?hia0 (by kernel_rfl) (by kernel_rfl) (by kernel_rfl) (by kernel_rfl) (fun _ _ _ h => h) (Or.inl ⟨?hwa0, ?hya0⟩) (by assumption) ?resta0
        case hia0 => (simp only [List.getElem?_toArray, List.getElem?_cons_zero]; rfl)
        case hwa0 => rfl
        case hya0 => (intro w hSw; (try dsimp only at hSw); go_simp; try with_reducible rfl)
        (try simp only [Act.put, List.setIfInBounds_toArray, List.set_cons_zero, List.set_cons_succ])
        refine Held.take (i := 1) (oi := ?oa1) (v := ?va1) ?hia1 (by kernel_rfl) (by kernel_rfl) (by kernel_rfl) (by kernel_rfl) (fun _ _ _ h => h) (Or.inl ⟨?hwa1, ?hya1⟩) (by assumption) ?resta1
        case hia1 => (simp only [List.getElem?_toArray, List.getElem?_cons_succ, List.getElem?_cons_zero]; rfl)
        case hwa1 => rfl
        case hya1 => (intro w hSw; (try dsimp only at hSw); go_simp; try with_reducible rfl)
        (try simp only [Act.put, List.setIfInBounds_toArray, List.set_cons_zero, List.set_cons_succ])
        refine Held.take (i := 2) (oi := ?oa2) (v := ?va2) ?hia2 (by kernel_rfl) (by kernel_rfl) (by kernel_rfl) (by kernel_rfl) (fun _ _ _ h => h) (Or.inl ⟨?hwa2, ?hya2⟩) (by assumption) ?resta2
        case hia2 => (simp only [List.getElem?_toArray, List.getElem?_cons_succ, List.getElem?_cons_zero]; rfl)
        case hwa2 => rfl
        case hya2 => (intro w hSw; (try dsimp only at hSw); go_simp; try with_reducible rfl)
        (try simp only [Act.put, List.setIfInBounds_toArray, List.set_cons_zero, List.set_cons_succ])
        refine Held.take (i := 3) (oi := ?oa3) (v := ?va3) ?hia3 (by kernel_rfl) (by kernel_rfl) (by kernel_rfl) (by kernel_rfl) (fun _ _ _ h => h) (Or.inl ⟨?hwa3, ?hya3⟩) (by assumption) ?resta3
        case hia3 => (simp only [List.getElem?_toArray, List.getElem?_cons_succ, List.getElem?_cons_zero]; rfl)
        case hwa3 => rfl
        case hya3 => (intro w hSw; (try dsimp only at hSw); go_simp; try with_reducible rfl)
        (try simp only [Act.put, List.setIfInBounds_toArray, List.set_cons_zero, List.set_cons_succ])
        refine Held.take (i := 4) (oi := ?oa4) (v := ?va4) ?hia4 (by kernel_rfl) (by kernel_rfl) (by kernel_rfl) (by kernel_rfl) (fun _ _ _ h => h) (Or.inl ⟨?hwa4, ?hya4⟩) (by assumption) ?resta4
        case hia4 => (simp only [List.getElem?_toArray, List.getElem?_cons_succ, List.getElem?_cons_zero]; rfl)
        case hwa4 => rfl
        case hya4 => (intro w hSw; (try dsimp only at hSw); go_simp; try with_reducible rfl)
        (try simp only [Act.put, List.setIfInBounds_toArray, List.set_cons_zero, List.set_cons_succ])
        refine Held.take (i := 5) (oi := ?oa5) (v := ?va5) ?hia5 (by kernel_rfl) (by kernel_rfl) (by kernel_rfl) (by kernel_rfl) (fun _ _ _ h => h) (Or.inl ⟨?hwa5, ?hya5⟩) (by assumption) ?resta5
        case hia5 => (simp only [List.getElem?_toArray, List.getElem?_cons_succ, List.getElem?_cons_zero]; rfl)
        case hwa5 => rfl
        case hya5 => (intro w hSw; (try dsimp only at hSw); go_simp; try with_reducible rfl)
        (try simp only [Act.put, List.setIfInBounds_toArray, List.set_cons_zero, List.set_cons_succ])
        refine Held.take (i := 6) (oi := ?oa6) (v := ?va6) ?hia6 (by kernel_rfl) (by kernel_rfl) (by kernel_rfl) (by kernel_rfl) (fun _ _ _ h => h) (Or.inl ⟨?hwa6, ?hya6⟩) (by assumption) ?resta6
        case hia6 => (simp only [List.getElem?_toArray, List.getElem?_cons_succ, List.getElem?_cons_zero]; rfl)
        case hwa6 => rfl
        case hya6 => (intro w hSw; (try dsimp only at hSw); go_simp; try with_reducible rfl)
        (try simp only [Act.put, List.setIfInBounds_toArray, List.set_cons_zero, List.set_cons_succ])
        refine Held.take (i := 7) (oi := ?oa7) (v := ?va7) ?hia7 (by kernel_rfl) (by kernel_rfl) (by kernel_rfl) (by kernel_rfl) (fun _ _ _ h => h) (Or.inl ⟨?hwa7, ?hya7⟩) (by assumption) ?resta7
        case hia7 => (simp only [List.getElem?_toArray, List.getElem?_cons_succ, List.getElem?_cons_zero]; rfl)
        case hwa7 => rfl
        case hya7 => (intro w hSw; (try dsimp only at hSw); go_simp; try with_reducible rfl)
        (try simp only [Act.put, List.setIfInBounds_toArray, List.set_cons_zero, List.set_cons_succ])
        refine Held.take (i := 8) (oi := ?oa8) (v := ?va8) ?hia8 (by kernel_rfl) (by kernel_rfl) (by kernel_rfl) (by kernel_rfl) (fun _ _ _ h => h) (Or.inl ⟨?hwa8, ?hya8⟩) (by assumption) ?resta8
        case hia8 => (simp only [List.getElem?_toArray, List.getElem?_cons_succ, List.getElem?_cons_zero]; rfl)
        case hwa8 => rfl
        case hya8 => (intro w hSw; (try dsimp only at hSw); go_simp; try with_reducible rfl)
        (try simp only [Act.put, List.setIfInBounds_toArray, List.set_cons_zero, List.set_cons_succ])
        have hH2 : (W1.setCell ⟨g, a1, none⟩ (.bool true)).drew.cell? ⟨wr.heap.size, 0, none⟩ = some (.int .i64 y1) ∧ (W1.setCell ⟨g, a1, none⟩ (.bool true)).drew.cell? ⟨wr.heap.size, 1, none⟩ = some (.int .i64 y2) := ⟨hs5.cell hH0.1 (by show ¬ wr.heap.size = g; omega), hs5.cell hH0.2 (by show ¬ wr.heap.size = g; omega)⟩
        refine Held.next (i := 9) (o := ?oa9) (by kernel_rfl) ?hia9 (fun K hK => ?sta9)
        case hia9 => (simp only [List.getElem?_toArray, List.getElem?_cons_succ, List.getElem?_cons_zero]; rfl)
        go_simp
        refine hK.out _ _ (fun _ => by exact hH2) ?_
        clear hK K
        (try simp only [Act.put, List.setIfInBounds_toArray, List.set_cons_zero, List.set_cons_succ])
        refine Held.take (i := 10) (oi := ?oa10) (v := ?va10) ?hia10 (by kernel_rfl) (by kernel_rfl) (by kernel_rfl) (by kernel_rfl) (fun _ _ _ h => h) (Or.inl ⟨?hwa10, ?hya10⟩) (by assumption) ?resta10
        case hia10 => (simp only [List.getElem?_toArray, List.getElem?_cons_succ, List.getElem?_cons_zero]; rfl)
        case hwa10 => rfl
        case hya10 => (intro w hSw; (try dsimp only at hSw); go_simp; try with_reducible rfl)
        (try simp only [Act.put, List.setIfInBounds_toArray, List.set_cons_zero, List.set_cons_succ])
        refine Held.next (i := 11) (o := ?oa11) (by kernel_rfl) ?hia11 (fun K hK => ?sta11)
        case hia11 => (simp only [List.getElem?_toArray, List.getElem?_cons_succ, List.getElem?_cons_zero]; rfl)
        go_simp
        refine hK.out _ _ (fun h => absurd h (by decide)) ?_
        clear hK K
        (try simp only [Act.put, List.setIfInBounds_toArray, List.set_cons_zero, List.set_cons_succ])
        refine Held.done (by kernel_rfl) ?_ _
        refine NoPanic.normal ?_
        go_wp2_with fail
        go_roundw
        case rel => exact ⟨i, cur2, by omega, by go_num, hb6, HO6.out, HL6.out, HS2.out.symm, hf6.drew⟩
        case measure => simp [intOf]; omega
    · have hj0 : j = 0 := by omega
      subst hj0
      have hmk := HMK.out
      rw [mdown] at hmk
      rw [hmk, ← HRE.out] at hown
      have hown2 := own_mono hown (show w.heap.size ≤ w.heap.size + 1 by omega)
      clear hown hlt
      go_wp2_with fail
      go_ret
      exact ⟨g, rfl, hown2, hfk⟩

end Go.Proofs.YtkjlgamggkencaaDoor
