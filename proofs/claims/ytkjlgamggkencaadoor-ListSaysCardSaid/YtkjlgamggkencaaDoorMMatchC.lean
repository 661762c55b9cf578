/-
  The contracts of skolemmake's Match, Moves.
-/
import Derived.Test.YtkjlgamggkencaaDoorMPure
import Derived.Test.YtkjlgamggkencaaDoorMRowsB
import Derived.Test.YtkjlgamggkencaaDoorMMakeC
import Derived.Test.YtkjlgamggkencaaDoorMEvalC
import Derived.Deep.Cut
import Derived.Deep.CutRange
namespace Go.Proofs.YtkjlgamggkencaaDoor
open Go.RowKit
set_option linter.unusedVariables false

/-- a match's value -/
abbrev mtv (ex : Bool) (ou n : Int) (A : Option Addr) (m c : Nat) (B : Option Addr) (d : Nat) : Value := .agg #[.bool ex, .int .i64 ou, .int .i64 n, .slice A m c, .slice B 1 d]
/-- v: the match M, its rows in blocks of F -/
def IsM (w : World) (F : Nat → Prop) (v : Value) (M : Mt) : Prop :=
  ∃ (n : Nat) (A : Option Addr) (c : Nat) (B : Option Addr) (d : Nat), n = M.ou + M.inn ∧ v = mtv M.ex M.ou n A M.L.length c B d ∧ Sl w F 2 (.slice A M.L.length c) M.L.length (pairs M.L) ∧ Sl w F 1 (.slice B 1 d) 1 ([M.o].map (.int .i64))
theorem IsM.frm {S F : Nat → Prop} {w w' : World} {v : Value} {M : Mt} (h : IsM w F v M) (hf : Frm S w w') (hd : ∀ k, F k → ¬ S k) : IsM w' F v M := by
  obtain ⟨n, A, c, B, d, h0, e, h1, h2⟩ := h; exact ⟨n, A, c, B, d, h0, e, h1.frm hf hd, h2.frm hf hd⟩
theorem IsM.mono {F G : Nat → Prop} {w : World} {v : Value} {M : Mt} (h : IsM w F v M) (hd : ∀ k, k < w.heap.size → F k → G k) : IsM w G v M := by
  obtain ⟨n, A, c, B, d, h0, e, h1, h2⟩ := h; exact ⟨n, A, c, B, d, h0, e, h1.mono hd, h2.mono hd⟩

theorem bits_and_1 (x : Int) : 0 ≤ bits .and .i64 x 1 ∧ bits .and .i64 x 1 ≤ 1 := by
  unfold bits
  simp only [BitVec.toNat_and]
  rw [show (BitVec.ofInt IntKind.i64.bits 1).toNat = 1 from by decide, Nat.and_one_is_mod]
  have h := Nat.mod_lt (BitVec.ofInt IntKind.i64.bits x).toNat (show 0 < 2 by omega)
  have hp : (2 : Int) ^ 62 = 4611686018427387904 := by decide
  rw [wrap_i64_small _ (by omega) (by omega)]
  omega

def mkMoves (l : List Int) (many : Nat) : List (List Bool) := l.map fun x => mkVals x many
theorem infoBools : (Tryd.prog.info? 54).map (fun i => (i.zero, i.size, i.bytes)) = some (some (.slice none 0 0), 1, 24) := by kernel_rfl

set_option maxRecDepth 100000 in
set_option maxHeartbeats 4000000 in
theorem moves_any (A : Option Addr) (n c : Nat) (F : Nat → Prop) (l : List Int) (many : Nat) (w : World) (hn : l.length = n) (hn4 : n ≤ 1000) (hm : many ≤ 1000) (hs : Sl w F 1 (.slice A n c) n (l.map (.int .i64))) :
    Calls Tryd.prog 95 #[.slice A n c, .int .i64 many] w fun e w' => ∃ v, e = .returned v ∧ RwBO w' w.heap.size 54 v n (mkMoves l many) ∧ Frm (fun _ => False) w w' := by
  obtain ⟨i0, hi, hz0, hz1, hz2⟩ := info_parts infoBools
  obtain ⟨D, hD⟩ : ∃ D, D = mkMoves l many := ⟨_, rfl⟩
  have hDl : D.length = n := by rw [hD, mkMoves, List.length_map]; exact hn
  have hDk : ∀ j, j < n → D[j]? = some (mkVals (l.getD j 0) many) := by intro j hj; rw [hD, mkMoves, List.getElem?_map]; simp [List.getD, show j < l.length by omega]
  have HDL := Lib.hid hDl
  have HDK := Lib.hid hDk
  rw [← hD]
  clear hD hDl hDk hn
  go_enter Tryd.func95, Tryd.ntmps95
  go_wp2_with fail
  go_loopw [5, 6] (fun t iv wr => ∃ (k : Nat) (A' : Option Addr) (c' : Nat), k ≤ n ∧ iv = .int .i64 k ∧ t = .slice A' k c' ∧ RwBO wr w.heap.size 54 (.slice A' k c') k (D.take k) ∧ Frm (fun _ => False) w wr) (fun _ iv _ => n - (intOf iv).toNat)
  case atStart => exact ⟨0, none, 0, by omega, rfl, rfl, by simpa using RwBO.nil_ _ _ _, Frm.refl _ _⟩
  case round =>
    obtain ⟨k, A', c', hk, rfl, rfl, hO, hfk⟩ := hrel
    by_cases hlt : k < n
    · obtain ⟨b, o, u, rfl, _, hu, hcell⟩ := (hs.frm hfk (fun _ _ => id)).at_ hlt
      obtain rfl := at_getD hu
      have hdk := HDK.out k hlt
      have hvl := mkVals_length (l.getD k 0) many
      have HDD := Lib.hid hdk
      clear hu hdk
      generalize l.getD k 0 = x at *
      have k0 : (0 : Int) ≤ k := by omega
      have k1 : (k : Int) < n := by omega
      go_wp2_with fail
      refine (values_any x many (by omega) wr).mono ?_
      generalize mkVals x many = mv at *
      rintro e w2 ⟨B, d, rfl, hown2, hf2⟩
      have hrow := own_sl hown2
      have hO2 := hO.frm hf2 (fun _ _ => id)
      obtain ⟨h0, vs, hown, hea⟩ := hO2
      have hOl : ∀ g, (Value.slice A' k c').ownBlock = some g → w.heap.size ≤ g ∧ g < wr.heap.size := by intro g hg; obtain ⟨_, vs', hown', _⟩ := hO; exact hown'.lt g hg
      have hsz2 := hf2.size
      have hszk := hfk.size
      clear hO hown2
      go_wp2_with (at_builtin; refine wpList_append_own_at _ rfl (.tmp 13) (.tmp 20) 109 rfl w.heap.size 54 i0 (.slice none 0 0) 1 24 Tryd.underlying109 hi hz0 hz1 hz2 rfl (by decide) _ _ _ rfl (hown.alloc _) ⟨w2.heap.size, 0, none⟩ 1 1 [.slice B many d] rfl rfl (cell_one_new _ _ _) ?c2 ?c3 ?c4 ?c5 ?_)
      case c2 => intro x hx; simp at hx; subst hx; rfl
      case c3 => unfold maxLen; omega
      case c4 => omega
      case c5 => simp; omega
      intro v' w3 hown3 hgrow _ h5
      have hal := (Frm.refl (fun _ => False) w2).alloc (.cells #[.slice B many d] 54)
      subst hvl
      have hmore := RwBO.more h0 (hea.frm hal (fun _ _ => id)) (rfl : [mv].length = 1) ((EachB.one hrow).frm hal (fun _ _ => id)) (fun g _ hg => ⟨by omega, fun e => by have := hOl g e; omega⟩) hown3 hgrow (h5.imp id fun h => h.trans (by simp))
      have hts : D.take k ++ [mv] = D.take (k + 1) := by rw [List.take_add_one, HDD.out]; rfl
      rw [hts] at hmore
      have hf3 : Frm (fun _ => False) w w3 := ((hfk.trans hf2).trans hal).grown hgrow (fun g hg hlt => by have := (hOl g hg).1; omega)
      obtain ⟨A3, c3, rfl, _⟩ := hmore.form
      clear hgrow hown hown3 hea hal hOl hts
      go_wp2_with fail
      go_roundw
      case rel => exact ⟨k + 1, A3, c3, by omega, by go_num, rfl, hmore, hf3⟩
      case measure => simp [intOf]; omega
    · obtain rfl : n = k := by omega
      rw [List.take_of_length_le (by rw [HDL.out]; omega)] at hO
      go_wp2_with fail
      go_ret
      exact ⟨_, rfl, hO, hfk⟩

set_option maxRecDepth 100000 in
set_option maxHeartbeats 1000000 in
theorem match_any (ou inn : Nat) (A : Option Addr) (len cap : Nat) (l : List Int) (hl : l.length = len) (x : Int) (ex : Bool) (F : Nat → Prop) (w : World) (hs : Sl w F 1 (.slice A len cap) len (l.map (.int .i64))) (h1 : ou ≤ 20) (h2 : inn ≤ 20) (h3 : len ≤ 100) :
    Calls Tryd.prog 93 #[.int .i64 ou, .int .i64 inn, .slice A len cap, .int .i64 x, .bool ex] w fun e w' => ∃ (M : Mt) (v : Value), e = .returned v ∧ M.ex = ex ∧ M.ou = ou ∧ M.inn = inn ∧ M.L.length ≤ len / 2 ∧ M.Ok ∧ IsM w' (fun k => w.heap.size ≤ k) v M ∧ Frm (fun _ => False) w w' := by
  obtain ⟨n, hn⟩ : ∃ n, n = ou + inn := ⟨_, rfl⟩
  have hf0 := (Frm.refl (fun _ => False) w).alloc (.cells #[.bool false, .int .i64 0, .int .i64 0, .slice none 0 0, .slice none 0 0] 104)
  have hb0 : Blk (w.alloc (.cells #[.bool false, .int .i64 0, .int .i64 0, .slice none 0 0, .slice none 0 0] 104)) w.heap.size 104 [.bool false, .int .i64 0, .int .i64 0, .slice none 0 0, .slice none 0 0] := Blk.new _ _ _
  have HMK := Lib.hid (make_any n A len cap l hl none 0 0 [] rfl _ (fun _ => False) _ (hs.frm hf0 (fun _ _ => id)) (Sl.nil_ _ _ _) (by omega) (by omega) (by omega))
  have hmo : mkOuts n l [] = [] := rfl
  rw [hmo] at HMK
  have hlm : (mkAnds n l).length = len / 2 := by rw [mkAnds_length]; omega
  have hr := mkAnds_right n l
  have HR := Lib.hid hr
  have HNE := Lib.hid hn
  have wn : IntKind.i64.wrap ((ou : Int) + inn) = (n : Int) := by rw [IntWalk.i64_in _ (by omega)]; omega
  have hn40 : n ≤ 40 := by omega
  have hls : (mkAnds n l).length ≤ 50 := by omega
  have HLM := Lib.hid hlm
  clear hmo hr hl hs hn hlm
  generalize mkAnds n l = L at *
  go_enter Tryd.func93, Tryd.ntmps93
  go_wp2_with fail
  refine HMK.out.mono ?_
  rintro e w1 ⟨v, rfl, ⟨A1, c1, B1, d1, rfl, hA, hB⟩, hf1⟩
  clear HMK
  have hf01 := hf0.trans hf1
  have hb1 := hb0.frm hf1 id
  have hfa := (Frm.refl (fun _ => False) w1).alloc (.cells #[.int .i64 n, .slice A1 L.length c1, .slice B1 0 d1] 40)
  have hba : Blk (w1.alloc (.cells #[.int .i64 n, .slice A1 L.length c1, .slice B1 0 d1] 40)) w1.heap.size 40 [.int .i64 n, .slice A1 L.length c1, .slice B1 0 d1] := Blk.new _ _ _
  have hA2 := (hA.mono (G := fun k => w.heap.size < k ∧ k < w1.heap.size) (fun k hk h => ⟨by simp at h; omega, hk⟩)).frm hfa (fun _ _ => id)
  have hb2 := hb1.frm hfa id
  have hf02 := hf01.trans hfa
  have q1 := hba.at_ 1 rfl
  have hs0 := hf01.size
  have hlt1 := hb1.lt
  obtain ⟨N, hN⟩ : ∃ N : Nat, N = n + L.length := ⟨_, rfl⟩
  have wN : IntKind.i64.wrap ((n : Int) + L.length) = (N : Int) := by rw [IntWalk.i64_in _ (by omega)]; omega
  have hNr : N ≤ 90 := by omega
  have wN2 : IntKind.i64.wrap (2 * (N : Int)) = 2 * (N : Int) := IntWalk.i64_in _ (by omega)
  have HNN := Lib.hid hN
  have hb1' := bits_and_1 x
  obtain ⟨bt, hbt⟩ : ∃ bt, bits .and .i64 x 1 = bt := ⟨_, rfl⟩
  rw [hbt] at hb1'
  have wN3 : IntKind.i64.wrap (2 * (N : Int) + bt) = 2 * (N : Int) + bt := IntWalk.i64_in _ (by omega)
  have wN4 : IntKind.i64.wrap (2 * (N : Int) + 2) = 2 * (N : Int) + 2 := IntWalk.i64_in _ (by omega)
  clear hA hB hf0 hb0 hb1 hfa hf01 hf1 hN
  simp only [List.length_nil]
  have hl1 : isL (2 * (N : Int) + bt) N = true := by rw [isL_iff]; omega
  have hl2 := isL_emod x N
  obtain ⟨W2, hW2⟩ : ∃ W2, W2 = w1.alloc (.cells #[.int .i64 n, .slice A1 L.length c1, .slice B1 0 d1] 40) := ⟨_, rfl⟩
  go_upto_region 4 with (fail)
  simp only [← hW2]
  rw [← hW2] at hba hA2 hb2 hf02 q1
  have hs2 : w1.heap.size < W2.heap.size := hba.lt
  clear hW2
  go_cut [33] from 31 to 33 (fun t33 wr => ∃ z : Bool, t33 = .bool z ∧ wr = W2)
  case first =>
    go_wp2_with fail
    go_meet
    exact ⟨_, rfl, rfl⟩
  case rest =>
  obtain ⟨z, rfl, rfl⟩ := hcut
  go_upto_if 33 with (fail)
  go_cut [13] from 34 to 38 (fun t13 wr => ∃ o : Int, t13 = .int .i64 o ∧ isL o N = true ∧ wr = wc)
  case first =>
    cases z
    · go_wp2_with fail
      go_meet
      exact ⟨_, rfl, hl1, rfl⟩
    · go_wp2_with fail
      refine (number_any x (2 * (N : Int) + 2) _ (by omega) (by omega)).mono ?_
      rintro e w' ⟨rfl, rfl⟩
      go_wp2_with fail
      go_meet
      exact ⟨_, rfl, hl2, rfl⟩
  case rest =>
  obtain ⟨o, rfl, ho, rfl⟩ := hcut
  obtain ⟨W2, rfl⟩ : ∃ W2, W2 = wc := ⟨_, rfl⟩
  have c2 := hba.at_ 2 rfl
  have z2 := hba.frozen 2
  have hset : Frm (fun k => k = w1.heap.size) W2 (W2.setCell ⟨w1.heap.size, 2, none⟩ (.slice (some ⟨W2.heap.size, 0, none⟩) 1 1)) := (Frm.refl (fun k => k = w1.heap.size) _).setCell (p := ⟨w1.heap.size, 2, none⟩) (fun _ => rfl) _
  have hba4 := (hba.set_ 2 (.slice (some ⟨W2.heap.size, 0, none⟩) 1 1)).alloc (.cells #[.int .i64 o] 3)
  have hb4 := (hb2.frm hset (by omega)).alloc (.cells #[.int .i64 o] 3)
  have hal := (Frm.refl (fun _ => False) (W2.setCell ⟨w1.heap.size, 2, none⟩ (.slice (some ⟨W2.heap.size, 0, none⟩) 1 1))).alloc (.cells #[.int .i64 o] 3)
  have hA4 := (hA2.frm hset (fun k h e => by omega)).frm hal (fun _ _ => id)
  have hbo4 : Blk ((W2.setCell ⟨w1.heap.size, 2, none⟩ (.slice (some ⟨W2.heap.size, 0, none⟩) 1 1)).alloc (.cells #[.int .i64 o] 3)) W2.heap.size 3 [.int .i64 o] := Blk.new_at _ _ _ _ (by simp [World.setCell])
  have hf04 := (hf02.then' hset (fun k hk e => by omega)).trans hal
  go_upto_region 7 with (fail)
  obtain ⟨W3, hW3⟩ : ∃ W3, W3 = (W2.setCell ⟨w1.heap.size, 2, none⟩ (.slice (some ⟨W2.heap.size, 0, none⟩) 1 1)).alloc (.cells #[.int .i64 o] 3) := ⟨_, rfl⟩
  rw [← hW3] at hba4 hb4 hA4 hbo4 hf04 ⊢
  clear hW3 hal hset c2 z2 hba hb2 hA2 hf02 q1
  have hW23 : w.heap.size < W2.heap.size := by omega
  generalize W2.heap.size = ob at *
  have p0 := hb4.at_ 0 rfl
  have p1 := hb4.at_ 1 rfl
  have p2 := hb4.at_ 2 rfl
  have p3 := hb4.at_ 3 rfl
  have p4 := hb4.at_ 4 rfl
  have z0 := hb4.frozen 0
  have z1 := hb4.frozen 1
  have z2' := hb4.frozen 2
  have z3 := hb4.frozen 3
  have z4 := hb4.frozen 4
  have q0 := hba4.at_ 0 rfl
  have q1' := hba4.at_ 1 rfl
  have q2' := hba4.at_ 2 rfl
  have hbs := ((((hb4.set_ 0 (.bool ex)).set_ 1 (.int .i64 (ou : Int))).set_ 2 (.int .i64 (n : Int))).set_ 3 (.slice A1 L.length c1)).set_ 4 (.slice (some ⟨ob, 0, none⟩) 1 1)
  have hset2 : Frm (fun k => k = w.heap.size) W3 (((((W3.setCell ⟨w.heap.size, 0, none⟩ (.bool ex)).setCell ⟨w.heap.size, 1, none⟩ (.int .i64 (ou : Int))).setCell ⟨w.heap.size, 2, none⟩ (.int .i64 (n : Int))).setCell ⟨w.heap.size, 3, none⟩ (.slice A1 L.length c1)).setCell ⟨w.heap.size, 4, none⟩ (.slice (some ⟨ob, 0, none⟩) 1 1)) :=
    (((((Frm.refl (fun k => k = w.heap.size) _).setCell (p := ⟨w.heap.size, 0, none⟩) (fun _ => rfl) _).setCell (p := ⟨w.heap.size, 1, none⟩) (fun _ => rfl) _).setCell (p := ⟨w.heap.size, 2, none⟩) (fun _ => rfl) _).setCell (p := ⟨w.heap.size, 3, none⟩) (fun _ => rfl) _).setCell (p := ⟨w.heap.size, 4, none⟩) (fun _ => rfl) _
  have hA5 := (hA4.frm hset2 (fun k h e => by omega)).mono (G := fun k => w.heap.size ≤ k) (fun k _ h => by omega)
  have hbo5 := ((hbo4.frm hset2 (by omega)).sl 1 1 rfl).mono (G := fun k => w.heap.size ≤ k) (fun k _ h => by omega)
  have hf05 := hf04.then' hset2 (fun k hk e => by omega)
  have d0 := hbs.at_ 0 rfl
  have d1 := hbs.at_ 1 rfl
  have d2 := hbs.at_ 2 rfl
  have d3 := hbs.at_ 3 rfl
  have d4 := hbs.at_ 4 rfl
  have HOO := Lib.hid ho
  clear hba4 hb4 hbo4 hA4 hf04 hset2 hbs ho hbt hb1' wN wN2 wN3 wN4 hl1 hl2 wn
  go_wp2_with fail
  refine bodyPost_ret (v := mtv ex ou n A1 L.length c1 (some ⟨ob, 0, none⟩) 1) (by simp [results, Tryd.results93, go_sem, d0, d1, d2, d3, d4]) rfl ⟨⟨ex, ou, inn, L, o⟩, _, rfl, rfl, rfl, rfl, by have := HLM.out; show L.length ≤ _; omega, ⟨?_, ?_⟩, ⟨n, A1, c1, _, 1, HNE.out, rfl, hA5, hbo5⟩, hf05⟩
  · have h := HR.out
    rw [HNE.out] at h
    exact h
  · have h1 := HNN.out
    have h2 := HNE.out
    show isL o (ou + inn + L.length) = true
    rw [← h2, ← h1]
    exact HOO.out

end Go.Proofs.YtkjlgamggkencaaDoor
