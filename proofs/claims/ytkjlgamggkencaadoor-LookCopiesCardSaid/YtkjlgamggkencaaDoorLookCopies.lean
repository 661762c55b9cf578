/-
  The walk of LookCopies.
-/
import Derived.Test.YtkjlgamggkencaaDoorCopyC
import Derived.Test.YtkjlgamggkencaaDoorLaw9
import Derived.Test.YtkjlgamggkencaaDoorLookDepths
namespace Go.Proofs.YtkjlgamggkencaaDoor
open Go.RowKit

theorem own_next {w' : World} {base : Nat} {e : TypeId} {v' : Value} {k : Nat} {xs : List Value} {u : Value} (hu : xs[k]? = some u)
    (h : w'.ownsRow base e 1 v' (k + 1) (xs.take k ++ [u])) : ∃ A c, v' = .slice A (k + 1) c ∧ w'.ownsRow base e 1 (.slice A (k + 1) c) (k + 1) (xs.take (k + 1)) := by
  have e1 : xs.take k ++ [u] = xs.take (k + 1) := by
    rw [List.take_add_one, hu]; rfl
  rw [e1] at h
  obtain ⟨A, c, rfl, _⟩ := (Sl.of_own h).form
  exact ⟨A, c, rfl, h⟩
/-- two owned rows of two types share no block -/
theorem own_ne {w : World} {b1 b2 : Nat} {e1 e2 : TypeId} {s1 s2 n1 n2 : Nat} {v1 v2 : Value} {x1 x2 : List Value} (h1 : w.ownsRow b1 e1 s1 v1 n1 x1) (h2 : w.ownsRow b2 e2 s2 v2 n2 x2) (he : e1 ≠ e2) (g : Nat) (hg : v1.ownBlock = some g) : v2.ownBlock ≠ some g := by
  intro hg2
  rcases h1.2 with ⟨h, _⟩ | ⟨g1, c1, cur1, rfl, _, hb1, _⟩
  · subst h; simp [Value.ownBlock] at hg
  rcases h2.2 with ⟨h, _⟩ | ⟨g2, c2, cur2, rfl, _, hb2, _⟩
  · subst h; simp [Value.ownBlock] at hg2
  simp [Value.ownBlock] at hg hg2
  subst hg hg2
  rw [hb1] at hb2
  simp at hb2
  exact he hb2.2
theorem On.frmK {E : Nat → Value} {K S : Nat → Prop} {w w' : World} {gb : Nat} {g : Gr} (h : On E K w gb g) (hf : Frm S w w') (hS : ∀ k, S k → K k) : On E K w' gb g := by
  obtain ⟨fp, h1, h2, h3⟩ := h
  have hs := hf.size
  exact ⟨fp, h1.frm hf (fun k hk e => (h2 k hk).1 (hS k e)), fun k hk => ⟨(h2 k hk).1, by have := (h2 k hk).2; omega⟩, fun k hk => by have := h3 k hk; omega⟩
theorem on_copy {E : Nat → Value} {K : Nat → Prop} {w : World} {gb : Nat} {g : Gr} (h : On E K w gb g) (n : Nat) (L : List (Int × Int)) (A : Option Addr) (m c : Nat) (B : Option Addr) (k d : Nat) (l : List Int) (x : Int) (Ab : Option Addr) (lb cb : Nat) (bys : List Int) (F F2 F3 : Nat → Prop) (hmade : Made g.n g.ands) (hgl : g.len + L.length < 8000)
    (hm : L.length = m) (hk : l.length = k) (hlb : bys.length = lb) (hr : Right n L) (hn : n ≤ 2000) (hm4 : m ≤ 2000) (hk4 : k ≤ 2000) (hb4 : lb ≤ 1000000) (hl : ∀ x ∈ l, isL x (n + m) = true) (hx : isL x (n + m) = true) (hby : ∀ x ∈ bys, isL x g.len = true)
    (hs : Sl w F 2 (.slice A m c) m (pairs L)) (ho : Sl w F2 1 (.slice B k d) k (l.map (.int .i64))) (hbs : Sl w F3 1 (.slice Ab lb cb) lb (bys.map (.int .i64))) (hF : ∀ k, F k → K k) (hcap : ¬ n + 1 + m = 1) :
    Calls Tryd.prog 86 #[.pointer (some ⟨gb, 0, none⟩), cv n A m c B k d, .int .i64 x, .slice Ab lb cb] w fun e w' => e = .returned (.int .i64 (copyG g n L x bys).1) ∧ On E K w' gb (copyG g n L x bys).2 ∧ Frm (fun k => ¬ K k) w w' := by
  obtain ⟨fp, h1, h2, h3⟩ := h
  refine (copy_many E fp gb g n L A m c B k d l x Ab lb cb bys F F2 F3 w h1 (fun k hk => (h2 k hk).2) hmade hgl hm hk hlb hr hn hm4 hk4 hb4 hl hx hby hs ho hbs (fun k hk hf => (h2 k hf).1 (hF k hk)) hcap).mono ?_
  rintro e w' ⟨rfl, fp', q1, q2, q3⟩
  have hs := q3.size
  refine ⟨rfl, ⟨fp', q1, fun k hk => ?_, fun k hk => by have := h3 k hk; omega⟩, q3.mono fun k _ hk => (h2 k hk).1⟩
  rcases q2 k hk with h | h
  · exact ⟨(h2 k h).1, by have := (h2 k h).2; omega⟩
  · exact ⟨fun hK => by have := h3 k hK; omega, h.2⟩
theorem emod12 (x : Int) : 0 ≤ x % 12 ∧ x % 12 ≤ 11 := by omega
theorem own_one {w : World} {F : Nat → Prop} {A : Option Addr} {c : Nat} {b : Bool} (h : Sl w F 1 (.slice A 1 c) 1 ([b].map .bool)) : ∃ g o, A = some ⟨g, o, none⟩ ∧ w.cell? ⟨g, o, none⟩ = some (.bool b) := by
  obtain ⟨b', o, u, e, _, hu, hc⟩ := h.at_ (k := 0) (by omega)
  simp at hu
  subst hu
  exact ⟨b', o, e, by simpa using hc⟩

set_option maxRecDepth 100000 in
set_option maxHeartbeats 16000000 in
theorem lcl_any (a0 : Option Addr) (len0 cap0 : Nat) (z0 : List Int) (hz0 : z0.length = len0) (lit nv : Int) (a1 : Option Addr) (len1 cap1 : Nat) (z1 : List Int) (hz1 : z1.length = len1) (w : World)
    (s0 : Sl w (fun k => k < w.heap.size) 1 (.slice a0 len0 cap0) len0 (z0.map (.int .i64))) (s1 : Sl w (fun k => k < w.heap.size) 1 (.slice a1 len1 cap1) len1 (z1.map (.int .i64))) (h0 : len0 ≤ 80) (h1 : 8 ≤ len1) :
    Calls Tryd.prog 18 #[.slice a0 len0 cap0, .int .i64 lit, .int .i64 nv, .slice a1 len1 cap1] w fun e w' => e = .returned (.bool true) ∧ Frm (fun _ => False) w w' := by
  have t0 : decide ((80 : Int) < (len0 : Int)) = false := by simp; omega
  have t1 : decide ((len1 : Int) < 8) = false := by simp; omega
  have hlm : (mkAnds 8 z0).length ≤ 40 := by rw [mkAnds_length]; omega
  have hr := mkAnds_right 8 z0
  have HMK := Lib.hid (fun W (hf : Frm (fun _ => False) w W) => make_any 8 a0 len0 cap0 z0 hz0 none 0 0 [] rfl _ (fun _ => False) W (s0.frm hf (fun _ _ => id)) (Sl.nil_ _ _ _) (by omega) (by omega) (by omega))
  have HR := Lib.hid hr
  have HZ := Lib.hid hz1
  clear hz0 hz1 s0 hr
  generalize mkAnds 8 z0 = L at *
  have hmo : mkOuts 8 z0 [] = [] := rfl
  rw [hmo] at HMK
  clear hmo
  obtain ⟨j0, hj0, hq0, hq1, hq2⟩ := info_parts infoIntG
  obtain ⟨j1, hj1, hp0, hp1, hp2⟩ := info_parts infoBoolG
  go_enter Tryd.func18, Tryd.ntmps18
  go_wp2_with fail
  refine (first10_any w).mono ?_
  rintro e w1 ⟨rfl, hf1⟩
  go_wp2_with fail
  refine (HMK.out w1 hf1).mono ?_
  rintro e w5 ⟨v, rfl, ⟨A, c, B, d, rfl, hA, hB⟩, hf5⟩
  clear HMK
  have hf05 := hf1.trans hf5
  have hfa := (Frm.refl (fun _ => False) w5).alloc (.cells #[.int .i64 8, .slice A L.length c, .slice B 0 d] 40)
  have hba : Blk (w5.alloc (.cells #[.int .i64 8, .slice A L.length c, .slice B 0 d] 40)) w5.heap.size 40 [.int .i64 8, .slice A L.length c, .slice B 0 d] := Blk.new _ _ _
  have hA1 := (hA.mono (G := fun k => k < w5.heap.size) (fun k hk _ => hk)).frm hfa (fun _ _ => id)
  have hB1 : Sl (w5.alloc (.cells #[.int .i64 8, .slice A L.length c, .slice B 0 d] 40)) (fun _ => True) 1 (.slice B 0 d) 0 (([] : List Int).map (.int .i64)) := (hB.mono (G := fun _ => True) (fun k _ _ => trivial)).frm hfa (fun _ _ => id)
  have hf06 := hf05.trans hfa
  have b1 := hba.at_ 1 rfl
  have hs5 := hf05.size
  have wa : IntKind.i64.wrap (8 + (L.length : Int)) = 8 + (L.length : Int) := IntWalk.i64_in _ (by omega)
  have wb : IntKind.i64.wrap (2 * (8 + (L.length : Int))) = 2 * (8 + (L.length : Int)) := IntWalk.i64_in _ (by omega)
  have wc : IntKind.i64.wrap (2 * (8 + (L.length : Int)) + 2) = 2 * (8 + (L.length : Int)) + 2 := IntWalk.i64_in _ (by omega)
  simp only [List.length_nil]
  clear hf1 hf5 hf05 hA hB
  go_wp2_with fail
  refine (number_any lit (2 * (8 + (L.length : Int)) + 2) _ (by omega) (by omega)).mono ?_
  rintro e w' ⟨rfl, rfl⟩
  have hx : isL (lit % (2 * (8 + (L.length : Int)) + 2)) (8 + L.length) = true := by
    have := isL_emod lit (8 + L.length)
    rwa [show 2 * ((8 + L.length : Nat) : Int) + 2 = 2 * (8 + (L.length : Int)) + 2 from by omega] at this
  generalize lit % (2 * (8 + (L.length : Int)) + 2) = x at *
  obtain ⟨W5, hW5⟩ : ∃ W5, W5 = w5.alloc (.cells #[.int .i64 8, .slice A L.length c, .slice B 0 d] 40) := ⟨_, rfl⟩
  have hlt5 : w5.heap.size < W5.heap.size := by rw [hW5]; simp
  rw [← hW5] at hba hA1 hB1 hf06 b1
  simp only [← hW5]
  clear hW5 hfa wa wb wc
  have HX := Lib.hid hx
  clear hx b1
  go_wp2_with fail
  refine (on_new E0 rfl 5 W5).mono ?_
  rintro e w6 ⟨gb, rfl, hO6, hf6⟩
  rw [show clamp 5 = 5 from by decide +kernel] at hO6
  have hs6 := hf6.size
  go_wp2_with fail
  refine (values_any nv 5 (by omega) w6).mono ?_
  rintro e w7 ⟨Ai, ci, rfl, hown7, hf7⟩
  have hin7 := own_sl hown7
  have hinl := mkVals_length nv 5
  generalize mkVals nv 5 = inp at *
  have hf07 := (hf06.trans hf6).trans hf7
  have hf57 := hf6.trans hf7
  have hs7 := hf7.size
  have hs06 := hf06.size
  obtain ⟨P, hP⟩ : ∃ P : List Int, P = (List.range 8).map (fun i => z1.getD i 0 % 12) := ⟨_, rfl⟩
  have hPl : P.length = 8 := by rw [hP]; simp
  have hPx : ∀ x ∈ P, 0 ≤ x ∧ x ≤ 11 := by intro x hx; rw [hP] at hx; obtain ⟨y, _, rfl⟩ := List.mem_map.1 hx; exact emod12 _
  have hPk : ∀ k, k < 8 → P[k]? = some (z1.getD k 0 % 12) := by intro k hk; rw [hP, List.getElem?_map, List.getElem?_range hk]; rfl
  obtain ⟨Q, hQ⟩ : ∃ Q : List Bool, Q = P.map (worth (valsN 5 inp)) := ⟨_, rfl⟩
  have hQl : Q.length = 8 := by rw [hQ]; simpa using hPl
  have hQk : ∀ k, k < 8 → Q[k]? = some (worth (valsN 5 inp) (z1.getD k 0 % 12)) := by intro k hk; rw [hQ, List.getElem?_map, hPk k hk]; rfl
  have HQQ := Lib.hid hQ
  have HPL := Lib.hid hPl
  have HPX := Lib.hid hPx
  have HPK := Lib.hid hPk
  have HQL := Lib.hid hQl
  have HQK := Lib.hid hQk
  clear hP hPl hPx hPk hQ hQl hQk hown7
  go_wp2_with fail
  go_loopw [13, 14, 15] (fun tv vv iv wr => ∃ (k : Nat) (A1 : Option Addr) (c1 : Nat) (A2 : Option Addr) (c2 : Nat), k ≤ 8 ∧ iv = .int .i64 k ∧ tv = .slice A1 k c1 ∧ vv = .slice A2 k c2 ∧
    wr.ownsRow w7.heap.size 3 1 (.slice A1 k c1) k ((P.map (.int .i64)).take k) ∧ wr.ownsRow w7.heap.size 4 1 (.slice A2 k c2) k ((Q.map .bool).take k) ∧ Frm (fun _ => False) w7 wr) (fun _ _ iv _ => 8 - (intOf iv).toNat)
  case atStart => exact ⟨0, _, 0, _, 0, by omega, rfl, rfl, rfl, by simpa using World.ownsRow_nil _ _ _ _, by simpa using World.ownsRow_nil _ _ _ _, Frm.refl _ _⟩
  case round =>
    obtain ⟨k, A1, c1, A2, c2, hk, rfl, rfl, rfl, hownP, hownQ, hfk⟩ := hrel
    by_cases hlt : k < 8
    · have hlt2 : k < z1.length := by rw [HZ.out]; omega
      obtain ⟨bk, o, u, rfl, _, hu, hcell⟩ := (s1.frm (hf07.trans hfk) (fun _ _ => id)).at_ (k := k) (by omega)
      obtain rfl := at_getD hu
      have hx := emod12 (z1.getD k 0)
      have hgx := HPK.out k hlt
      have hgq := HQK.out k hlt
      have hk0 : (0 : Int) ≤ k := by omega
      have hk1 : (k : Int) < len1 := by omega
      have hink := hin7.frm hfk (fun _ _ => id)
      have HG := Lib.hid hgx
      have HGQ := Lib.hid hgq
      clear hu hgx hgq
      generalize z1.getD k 0 = y at *
      go_wp2_with fail
      refine (number_any y 12 _ (by omega) (by omega)).mono ?_
      rintro e w' ⟨rfl, rfl⟩
      generalize y % 12 = X at *
      have hsk := hfk.size
      go_wp2_with (at_builtin; refine wpList_append_own _ rfl (.tmp 57) (.tmp 59) 22 rfl w7.heap.size 3 j0 (.int .i64 0) 1 8 Tryd.underlying22 hj0 hq0 hq1 hq2 rfl (by decide) _ _ _ rfl (hownP.alloc (.cells #[.int .i64 X] 3)) ⟨wr.heap.size, 0, none⟩ 1 1 [.int .i64 X] rfl rfl (cell_one_new _ _ _) ?c2 ?c3 ?c4 ?c5 ?_)
      case c2 => intro u hu; simp at hu; subst hu; rfl
      case c3 => unfold maxLen; omega
      case c4 => omega
      case c5 => simp; omega
      intro v' w8 hown8 hgrow _
      have hgr : Frm (fun g => (Value.slice A1 k c1).ownBlock = some g) wr w8 := (((Frm.refl (fun g => (Value.slice A1 k c1).ownBlock = some g) wr).alloc (.cells #[.int .i64 X] 3)).grown hgrow (fun g hg hlt => hg))
      have hfk8 : Frm (fun _ => False) w7 w8 := hfk.then' hgr (fun g hg h => by have := (hownP.lt g h).1; omega)
      have hownQ8 := own_frm hownQ hgr (fun g hg h => own_ne hownP hownQ (by decide) g h hg)
      obtain ⟨A3, c3, rfl, hownP8⟩ := own_next (by rw [List.getElem?_map, HG.out]; rfl) hown8
      have hink8 := hin7.frm hfk8 (fun _ _ => id)
      have hs8 := hfk8.size
      clear hownP hownQ hown8 hgrow hcell hink hgr hfk
      have hand := bits_and_one X hx.1 (by omega)
      have hval : worth (valsN 5 inp) X = ((valsN 5 inp).getD (X / 2).toNat false != decide (X % 2 = 1)) := rfl
      have hgo : ∀ (z : Bool) (W : World) (v' : Value) (w9 : World), z = worth (valsN 5 inp) X → W = w8.alloc (.cells #[.bool z] 4) → w9.ownsRow w7.heap.size 4 1 v' (k + 1) ((Q.map .bool).take k ++ [.bool z]) → W.grownBy w9 (Value.slice A2 k c2).ownBlock →
          ∃ A4 c4, v' = .slice A4 (k + 1) c4 ∧ w9.ownsRow w7.heap.size 3 1 (.slice A3 (k + 1) c3) (k + 1) ((P.map (.int .i64)).take (k + 1)) ∧ w9.ownsRow w7.heap.size 4 1 (.slice A4 (k + 1) c4) (k + 1) ((Q.map .bool).take (k + 1)) ∧ Frm (fun _ => False) w7 w9 := by
        intro z W v' w9 hz hW hown9 hgrow
        subst hz hW
        have hgr : Frm (fun g => (Value.slice A2 k c2).ownBlock = some g) w8 w9 := (((Frm.refl (fun g => (Value.slice A2 k c2).ownBlock = some g) w8).alloc (.cells #[.bool (worth (valsN 5 inp) X)] 4)).grown hgrow (fun g hg hlt => hg))
        obtain ⟨A4, c4, rfl, hownQ9⟩ := own_next (by rw [List.getElem?_map, HGQ.out]; rfl) hown9
        exact ⟨A4, c4, rfl, own_frm hownP8 hgr (fun g hg h => own_ne hownQ8 hownP8 (by decide) g h hg), hownQ9, hfk8.then' hgr (fun g hg h => by have := (hownQ8.lt g h).1; omega)⟩
      have HGO := Lib.hid hgo
      clear hgo
      by_cases hz : 0 < X / 2
      · obtain ⟨b, o, u, rfl, _, hu, hcell⟩ := hink8.at_ (k := (X / 2 - 1).toNat) (by omega)
        obtain rfl := at_bool hu
        have hg : (valsN 5 inp).getD (X / 2).toNat false = inp.getD (X / 2 - 1).toNat false := by
          obtain ⟨k, hk⟩ : ∃ k, (X / 2).toNat = k + 1 := ⟨(X / 2).toNat - 1, by omega⟩
          have hk' : (X / 2 - 1).toNat = k := by omega
          rw [hk, hk']
          simp [valsN, List.getD, show k < 5 by omega]
        rw [hg] at hval
        have i0 : (0 : Int) ≤ X / 2 - 1 := by omega
        have i1 : X / 2 - 1 < 5 := by omega
        have wk : IntKind.i64.wrap (X / 2 - 1) = X / 2 - 1 := IntWalk.i64_in _ (by omega)
        rw [show (X / 2 - 1).toNat = (X / 2).toNat - 1 from by omega] at hcell hval
        clear hu hg
        generalize inp.getD ((X / 2).toNat - 1) false = q at *
        obtain ⟨z, hzz⟩ : ∃ z, z = (q != decide (X % 2 = 1)) := ⟨_, rfl⟩
        have HW := Lib.hid (hzz.trans hval.symm)
        clear hval
        have HP : ∀ (b : Bool), X % 2 = (if b then 1 else 0) → z = (q != b) := fun b hb => by rw [hzz]; cases b <;> simp at hb <;> rw [hb] <;> rfl
        have HPH := Lib.hid HP
        clear HP hzz
        rcases (show X % 2 = 0 ∨ X % 2 = 1 from by omega) with h | h
        · have hzq := HPH.out false (by simpa using h)
          rw [h] at hand
          cases q <;> simp at hzq <;> subst hzq
          · go_wp2_with (at_builtin; refine wpList_append_own _ rfl (.tmp 72) (.tmp 78) 54 rfl w7.heap.size 4 j1 (.bool false) 1 1 Tryd.underlying54 hj1 hp0 hp1 hp2 rfl (by decide) _ _ _ rfl (hownQ8.alloc (.cells #[.bool false] 4)) ⟨w8.heap.size, 0, none⟩ 1 1 [.bool false] rfl rfl (cell_one_new _ _ _) ?az2 ?az3 ?az4 ?az5 ?_)
            case az2 => first | (intro u hu; simp at hu; subst hu; rfl) | rfl
            case az3 => unfold maxLen; omega
            case az4 => omega
            case az5 => first | omega | (simp; omega)
            intro v' w9 hown9 hgrow _
            obtain ⟨A4, c4, rfl, o1, o2, hfk9⟩ := HGO.out _ _ v' w9 HW.out rfl hown9 hgrow
            go_wp2_with fail
            go_roundw
            case rel => exact ⟨k + 1, A3, c3, A4, c4, by omega, by go_num, rfl, rfl, o1, o2, hfk9⟩
            case measure => simp [intOf]; omega
          · go_wp2_with (at_builtin; refine wpList_append_own _ rfl (.tmp 72) (.tmp 78) 54 rfl w7.heap.size 4 j1 (.bool false) 1 1 Tryd.underlying54 hj1 hp0 hp1 hp2 rfl (by decide) _ _ _ rfl (hownQ8.alloc (.cells #[.bool true] 4)) ⟨w8.heap.size, 0, none⟩ 1 1 [.bool true] rfl rfl (cell_one_new _ _ _) ?bz2 ?bz3 ?bz4 ?bz5 ?_)
            case bz2 => first | (intro u hu; simp at hu; subst hu; rfl) | rfl
            case bz3 => unfold maxLen; omega
            case bz4 => omega
            case bz5 => first | omega | (simp; omega)
            intro v' w9 hown9 hgrow _
            obtain ⟨A4, c4, rfl, o1, o2, hfk9⟩ := HGO.out _ _ v' w9 HW.out rfl hown9 hgrow
            go_wp2_with fail
            go_roundw
            case rel => exact ⟨k + 1, A3, c3, A4, c4, by omega, by go_num, rfl, rfl, o1, o2, hfk9⟩
            case measure => simp [intOf]; omega
        · have hzq := HPH.out true (by simpa using h)
          rw [h] at hand
          cases q <;> simp at hzq <;> subst hzq
          · go_wp2_with (at_builtin; refine wpList_append_own _ rfl (.tmp 72) (.tmp 78) 54 rfl w7.heap.size 4 j1 (.bool false) 1 1 Tryd.underlying54 hj1 hp0 hp1 hp2 rfl (by decide) _ _ _ rfl (hownQ8.alloc (.cells #[.bool true] 4)) ⟨w8.heap.size, 0, none⟩ 1 1 [.bool true] rfl rfl (cell_one_new _ _ _) ?cz2 ?cz3 ?cz4 ?cz5 ?_)
            case cz2 => first | (intro u hu; simp at hu; subst hu; rfl) | rfl
            case cz3 => unfold maxLen; omega
            case cz4 => omega
            case cz5 => first | omega | (simp; omega)
            intro v' w9 hown9 hgrow _
            obtain ⟨A4, c4, rfl, o1, o2, hfk9⟩ := HGO.out _ _ v' w9 HW.out rfl hown9 hgrow
            go_wp2_with fail
            go_roundw
            case rel => exact ⟨k + 1, A3, c3, A4, c4, by omega, by go_num, rfl, rfl, o1, o2, hfk9⟩
            case measure => simp [intOf]; omega
          · go_wp2_with (at_builtin; refine wpList_append_own _ rfl (.tmp 72) (.tmp 78) 54 rfl w7.heap.size 4 j1 (.bool false) 1 1 Tryd.underlying54 hj1 hp0 hp1 hp2 rfl (by decide) _ _ _ rfl (hownQ8.alloc (.cells #[.bool false] 4)) ⟨w8.heap.size, 0, none⟩ 1 1 [.bool false] rfl rfl (cell_one_new _ _ _) ?dz2 ?dz3 ?dz4 ?dz5 ?_)
            case dz2 => first | (intro u hu; simp at hu; subst hu; rfl) | rfl
            case dz3 => unfold maxLen; omega
            case dz4 => omega
            case dz5 => first | omega | (simp; omega)
            intro v' w9 hown9 hgrow _
            obtain ⟨A4, c4, rfl, o1, o2, hfk9⟩ := HGO.out _ _ v' w9 HW.out rfl hown9 hgrow
            go_wp2_with fail
            go_roundw
            case rel => exact ⟨k + 1, A3, c3, A4, c4, by omega, by go_num, rfl, rfl, o1, o2, hfk9⟩
            case measure => simp [intOf]; omega
      · have hz0 : (X / 2).toNat = 0 := by omega
        rw [hz0, show (valsN 5 inp).getD 0 false = false from rfl] at hval
        obtain ⟨z, hzz⟩ : ∃ z, z = (false != decide (X % 2 = 1)) := ⟨_, rfl⟩
        have HW := Lib.hid (hzz.trans hval.symm)
        clear hval
        have HP : ∀ (b : Bool), X % 2 = (if b then 1 else 0) → z = b := fun b hb => by rw [hzz]; cases b <;> simp at hb <;> rw [hb] <;> rfl
        have HPH := Lib.hid HP
        clear HP hzz
        rcases (show X % 2 = 0 ∨ X % 2 = 1 from by omega) with h | h
        · have hzq := HPH.out false (by simpa using h)
          rw [h] at hand
          subst hzq
          go_wp2_with (at_builtin; refine wpList_append_own _ rfl (.tmp 72) (.tmp 78) 54 rfl w7.heap.size 4 j1 (.bool false) 1 1 Tryd.underlying54 hj1 hp0 hp1 hp2 rfl (by decide) _ _ _ rfl (hownQ8.alloc (.cells #[.bool false] 4)) ⟨w8.heap.size, 0, none⟩ 1 1 [.bool false] rfl rfl (cell_one_new _ _ _) ?ez2 ?ez3 ?ez4 ?ez5 ?_)
          case ez2 => first | (intro u hu; simp at hu; subst hu; rfl) | rfl
          case ez3 => unfold maxLen; omega
          case ez4 => omega
          case ez5 => first | omega | (simp; omega)
          intro v' w9 hown9 hgrow _
          obtain ⟨A4, c4, rfl, o1, o2, hfk9⟩ := HGO.out _ _ v' w9 HW.out rfl hown9 hgrow
          go_wp2_with fail
          go_roundw
          case rel => exact ⟨k + 1, A3, c3, A4, c4, by omega, by go_num, rfl, rfl, o1, o2, hfk9⟩
          case measure => simp [intOf]; omega
        · have hzq := HPH.out true (by simpa using h)
          rw [h] at hand
          subst hzq
          go_wp2_with (at_builtin; refine wpList_append_own _ rfl (.tmp 72) (.tmp 78) 54 rfl w7.heap.size 4 j1 (.bool false) 1 1 Tryd.underlying54 hj1 hp0 hp1 hp2 rfl (by decide) _ _ _ rfl (hownQ8.alloc (.cells #[.bool true] 4)) ⟨w8.heap.size, 0, none⟩ 1 1 [.bool true] rfl rfl (cell_one_new _ _ _) ?fz2 ?fz3 ?fz4 ?fz5 ?_)
          case fz2 => first | (intro u hu; simp at hu; subst hu; rfl) | rfl
          case fz3 => unfold maxLen; omega
          case fz4 => omega
          case fz5 => first | omega | (simp; omega)
          intro v' w9 hown9 hgrow _
          obtain ⟨A4, c4, rfl, o1, o2, hfk9⟩ := HGO.out _ _ v' w9 HW.out rfl hown9 hgrow
          go_wp2_with fail
          go_roundw
          case rel => exact ⟨k + 1, A3, c3, A4, c4, by omega, by go_num, rfl, rfl, o1, o2, hfk9⟩
          case measure => simp [intOf]; omega
    · have hk8 : k = 8 := by omega
      subst hk8
      rw [List.take_of_length_le (by rw [List.length_map, HPL.out]; omega)] at hownP
      rw [List.take_of_length_le (by rw [List.length_map, HQL.out]; omega)] at hownQ
      have hO8 := On.wide (K' := fun k => k < W5.heap.size ∨ (w6.heap.size ≤ k ∧ k < wr.heap.size)) hO6 (hf7.trans hfk) (fun k hk => hk)
      have hb8 := hba.frm (hf57.trans hfk) id
      have hA8 := hA1.frm (hf57.trans hfk) (fun _ _ => id)
      have hB8 := hB1.frm (hf57.trans hfk) (fun _ _ => id)
      have hin8 := (hin7.frm hfk (fun _ _ => id))
      have hsk := hfk.size
      have hQ8 : Sl wr (fun g => w6.heap.size ≤ g ∧ g < wr.heap.size) 1 (.slice A2 8 c2) 8 (Q.map .bool) := (own_sl hownQ).mono (fun g _ hg => by omega)
      have hP8 := own_sl hownP
      have hf08 := hf07.trans hfk
      have hpl : ∀ x ∈ P, isL x (⟨5, [], 0⟩ : Gr).len = true := fun x hx => by have := HPX.out x hx; rw [isL_iff]; show 0 ≤ x ∧ x ≤ 2 * ((5 : Nat) : Int) + 1; omega
      have hup := copy_up (Made.nil 5 : Made (⟨5, [], 0⟩ : Gr).n (⟨5, [], 0⟩ : Gr).ands) (n := 8) (L := L) (l := x) hpl (by show 5 + 0 + L.length < 8000; omega)
      have hwo := copy_worth (Made.nil 5 : Made (⟨5, [], 0⟩ : Gr).n (⟨5, [], 0⟩ : Gr).ands) (n := 8) HR.out HX.out hpl (by show 5 + 0 + L.length < 8000; omega) inp Q (fun i hi => by
        have h1 := HQK.out i hi
        have h2 := HPK.out i hi
        rw [show Q.getD i false = worth (valsN 5 inp) (z1.getD i 0 % 12) by simp [List.getD, h1], show P.getD i 0 = z1.getD i 0 % 12 by simp [List.getD, h2]]
        rfl)
      have HC := Lib.hid (on_copy hO8 8 L A L.length c B 0 d [] x A1 8 c1 P _ _ _ (Made.nil 5) (by show 5 + 0 + L.length < 8000; omega) rfl rfl HPL.out HR.out (by omega) (by omega) (by omega) (by omega) (by simp) HX.out hpl hA8 hB8 hP8 (fun k hk => .inl (by omega)) (by omega))
      have HUP := Lib.hid hup
      have HWO := Lib.hid hwo
      have d0 := hb8.at_ 0 rfl
      have d1 := hb8.at_ 1 rfl
      have d2 := hb8.at_ 2 rfl
      clear hup hwo hO6 hO8 hba hA1 hB1 hin7 hf57 hf07 hownP hownQ hfk hP8 hpl hB8 s1 hf06 hf6 hf7
      generalize copyG ⟨5, [], 0⟩ 8 L x P = rr at *
      obtain ⟨r, gr⟩ := rr
      simp only at HC HUP HWO
      go_wp2_with fail
      refine HC.out.mono ?_
      rintro e w9 ⟨rfl, hO9, hf9⟩
      have hs9 := hf9.size
      have hf09 : Frm (fun _ => False) w w9 := frm_kept hf08 hf9 (fun k hk => .inl (by omega))
      have hb9 := hb8.frm hf9 (fun h => h (.inl (by omega)))
      have hA9 := hA8.frm hf9 (fun k hk h => h (.inl (by omega)))
      have hin9 := hin8.frm hf9 (fun k hk h => h (.inr (by omega)))
      have hQ9 := hQ8.frm hf9 (fun k hk h => h (.inr (by omega)))
      obtain ⟨hbA, hbx, hset⟩ := out_set hb9 [.int .i64 x] 1
      obtain ⟨y2, z2⟩ := out_cell hb9 (.cells #[.int .i64 x] 3)
      have hAA := hA9.frm hset (fun g hg e => by omega)
      have hOA := hO9.frmK hset (fun k e => by subst e; exact .inl hlt5)
      have hinA := hin9.frm hset (fun g hg e => by omega)
      have hQA := hQ9.frm hset (fun g hg e => by omega)
      have hfA := hf09.then' hset (fun g hg e => by omega)
      have hxs := hbx.sl 1 1 rfl
      have hlx := hbx.lt
      have hlb := hb9.lt
      have d0 := hbA.at_ 0 rfl
      have d1 := hbA.at_ 1 rfl
      have d2 := hbA.at_ 2 rfl
      have HEV := Lib.hid (leval_any 8 L A L.length c (some ⟨w9.heap.size, 0, none⟩) 1 1 [x] A2 8 c2 Q _ _ _ _ rfl rfl HQL.out HR.out (by omega) (by omega) (by omega) (by omega) (by intro y hy; simp at hy; subst hy; exact HX.out) hAA hxs hQA)
      rw [show evalOuts (nodes 8 L Q) [x] = [worth (nodes 8 L Q) x] from rfl] at HEV
      clear hO9 hf9 hf08 hf09 hb8 hA8 hin8 hQ8 hset hA9 hin9 hQ9 HC hb9
      go_wp2_with fail
      refine HEV.out.mono ?_
      rintro e w10 ⟨Aa, ca, rfl, hown10, hf10⟩
      obtain ⟨ga, oa, rfl, hca⟩ := own_one (own_sl hown10)
      have hfr := (Frm.refl (fun _ => False) w10).alloc (.cells #[.int .i64 r] 3)
      have hsl := (Blk.new w10 3 [.int .i64 r]).sl 1 1 rfl
      have HCI := Lib.hid (on_circuit ((hOA.frm hf10).frm hfr) (some ⟨w10.heap.size, 0, none⟩) 1 1 _ [r] rfl (by omega) hsl)
      have hinR := (hinA.frm hf10 (fun _ _ => id)).frm hfr (fun _ _ => id)
      have hOR := (hOA.frm hf10).frm hfr
      have hfR := (hfA.trans hf10).trans hfr
      have hcR := hfr.cell hca id
      clear HEV hown10 hca hfr hsl hinA hOA hfA hf10 hAA hxs hQA hbA hbx d0 d1 d2 y2 z2
      go_wp2_with fail
      refine HCI.out.mono ?_
      rintro e w11 ⟨v, rfl, ⟨Ac, cc, Bc, dc, rfl, hAc, hBc⟩, hf11⟩
      have hin11 := hinR.frm hf11 (fun _ _ => id)
      have hO11 := hOR.frm hf11
      have hf011 := hfR.trans hf11
      have hc11 := hf11.cell hcR id
      have hn5 : gr.n = 5 := HUP.out.1.num
      have hbad : gr.bad = 0 := HUP.out.1.bad
      have hhi : gr.n + gr.ands.length ≤ 5 + L.length := HUP.out.1.high
      have HEV := Lib.hid (leval_any gr.n gr.ands Ac gr.ands.length cc Bc 1 dc [r] Ai 5 ci inp _ _ _ w11 rfl rfl hinl HUP.out.1.made.1 (by omega) (by omega) (by omega) (by omega) (by intro y hy; simp at hy; subst hy; exact HUP.out.2) hAc hBc hin11)
      rw [show evalOuts (nodes gr.n gr.ands inp) [r] = [worth (gr.nod inp) r] from rfl, HWO.out] at HEV
      have HBD := Lib.hid hbad
      clear HCI hinR hOR hfR hcR hf11 hAc hBc hin11 hn5 hbad hhi
      go_wp2_with fail
      refine HEV.out.mono ?_
      rintro e w12 ⟨Ab, cb, rfl, hown12, hf12⟩
      obtain ⟨gbb, ob, rfl, hcb⟩ := own_one (own_sl hown12)
      have hca := hf12.cell hc11 id
      have hO12 := hO11.frm hf12
      have hf012 := hf011.trans hf12
      obtain ⟨fp, hG12, _⟩ := hO12
      have HER := Lib.hid (fun (W : World) (hf : Frm (fun _ => False) w12 W) => err_any E0 fp gb gr W (hG12.frm hf (fun _ _ => id)) .nilIface (by rw [HBD.out]; rfl))
      have hH0 : w12.drew.cell? ⟨ga, oa, none⟩ = some (.bool (worth (nodes 8 L Q) x)) ∧ w12.drew.cell? ⟨gbb, ob, none⟩ = some (.bool (worth (nodes 8 L Q) x)) := ⟨hca, hcb⟩
      generalize worth (nodes 8 L Q) x = vb at *
      clear HEV hown12 hf12 hc11 hO11 hf011 hG12
      go_wp2_with fail
      have hHeld := hH0
      refine Held.begin (fun w' => w'.cell? ⟨ga, oa, none⟩ = some (.bool vb) ∧ w'.cell? ⟨gbb, ob, none⟩ = some (.bool vb)) 26 (by kernel_rfl) ?_
      refine Held.take (i := 0) (oi := ?oa0) (v := ?va0) ?hia0 (by kernel_rfl) (by kernel_rfl) (by kernel_rfl) (by kernel_rfl) (fun _ _ _ h => h) (Or.inl ⟨?hwa0, ?hya0⟩) (by assumption) ?resta0
      case hia0 => (simp only [List.getElem?_toArray, List.getElem?_cons_zero]; rfl)
      case hwa0 => rfl
      case hya0 => (intro w hSw; (try dsimp only at hSw); go_simp; try with_reducible rfl)
      (try simp only [Act.put, List.setIfInBounds_toArray, List.set_cons_zero, List.set_cons_succ])
      refine Held.take (i := 1) (oi := ?oa1) (v := ?va1) ?hia1 (by kernel_rfl) (by kernel_rfl) (by kernel_rfl) (by kernel_rfl) (fun _ _ _ h => h) (Or.inl ⟨?hwa1, ?hya1⟩) (by assumption) ?resta1
      case hia1 => (simp only [List.getElem?_toArray, List.getElem?_cons_succ, List.getElem?_cons_zero]; rfl)
      case hwa1 => rfl
      case hya1 => (intro w hSw; (try dsimp only at hSw); go_simp; try with_reducible rfl)
      (try simp only [Act.put, List.setIfInBounds_toArray, List.set_cons_zero, List.set_cons_succ])
      refine Held.take (i := 2) (oi := ?oa2) (v := ?va2) ?hia2 (by kernel_rfl) (by kernel_rfl) (by kernel_rfl) (by kernel_rfl) (fun _ _ _ h => h) (Or.inl ⟨?hwa2, ?hya2⟩) (by assumption) ?resta2
      case hia2 => (simp only [List.getElem?_toArray, List.getElem?_cons_succ, List.getElem?_cons_zero]; rfl)
      case hwa2 => rfl
      case hya2 => (intro w hSw; (try dsimp only at hSw); go_simp; try with_reducible rfl)
      (try simp only [Act.put, List.setIfInBounds_toArray, List.set_cons_zero, List.set_cons_succ])
      refine Held.take (i := 3) (oi := ?oa3) (v := ?va3) ?hia3 (by kernel_rfl) (by kernel_rfl) (by kernel_rfl) (by kernel_rfl) (fun _ _ _ h => h) (Or.inl ⟨?hwa3, ?hya3⟩) (by assumption) ?resta3
      case hia3 => (simp only [List.getElem?_toArray, List.getElem?_cons_succ, List.getElem?_cons_zero]; rfl)
      case hwa3 => rfl
      case hya3 => (intro w hSw; (try dsimp only at hSw); go_simp; try with_reducible rfl)
      (try simp only [Act.put, List.setIfInBounds_toArray, List.set_cons_zero, List.set_cons_succ])
      refine Held.take (i := 4) (oi := ?oa4) (v := ?va4) ?hia4 (by kernel_rfl) (by kernel_rfl) (by kernel_rfl) (by kernel_rfl) (fun _ _ _ h => h) (Or.inl ⟨?hwa4, ?hya4⟩) (by assumption) ?resta4
      case hia4 => (simp only [List.getElem?_toArray, List.getElem?_cons_succ, List.getElem?_cons_zero]; rfl)
      case hwa4 => rfl
      case hya4 => (intro w hSw; (try dsimp only at hSw); go_simp; try with_reducible rfl)
      (try simp only [Act.put, List.setIfInBounds_toArray, List.set_cons_zero, List.set_cons_succ])
      refine Held.take (i := 5) (oi := ?oa5) (v := ?va5) ?hia5 (by kernel_rfl) (by kernel_rfl) (by kernel_rfl) (by kernel_rfl) (fun _ _ _ h => h) (Or.inl ⟨?hwa5, ?hya5⟩) (by assumption) ?resta5
      case hia5 => (simp only [List.getElem?_toArray, List.getElem?_cons_succ, List.getElem?_cons_zero]; rfl)
      case hwa5 => rfl
      case hya5 => (intro w hSw; (try dsimp only at hSw); go_simp; try with_reducible rfl)
      (try simp only [Act.put, List.setIfInBounds_toArray, List.set_cons_zero, List.set_cons_succ])
      refine Held.take (i := 6) (oi := ?oa6) (v := ?va6) ?hia6 (by kernel_rfl) (by kernel_rfl) (by kernel_rfl) (by kernel_rfl) (fun _ _ _ h => h) (Or.inl ⟨?hwa6, ?hya6⟩) (by assumption) ?resta6
      case hia6 => (simp only [List.getElem?_toArray, List.getElem?_cons_succ, List.getElem?_cons_zero]; rfl)
      case hwa6 => rfl
      case hya6 => (intro w hSw; (try dsimp only at hSw); go_simp; try with_reducible rfl)
      (try simp only [Act.put, List.setIfInBounds_toArray, List.set_cons_zero, List.set_cons_succ])
      refine Held.take (i := 7) (oi := ?oa7) (v := ?va7) ?hia7 (by kernel_rfl) (by kernel_rfl) (by kernel_rfl) (by kernel_rfl) (fun _ _ _ h => h) (Or.inl ⟨?hwa7, ?hya7⟩) (by assumption) ?resta7
      case hia7 => (simp only [List.getElem?_toArray, List.getElem?_cons_succ, List.getElem?_cons_zero]; rfl)
      case hwa7 => rfl
      case hya7 => (intro w hSw; (try dsimp only at hSw); go_simp; try with_reducible rfl)
      (try simp only [Act.put, List.setIfInBounds_toArray, List.set_cons_zero, List.set_cons_succ])
      refine Held.take (i := 8) (oi := ?oa8) (v := ?va8) ?hia8 (by kernel_rfl) (by kernel_rfl) (by kernel_rfl) (by kernel_rfl) (fun _ _ _ h => h) (Or.inl ⟨?hwa8, ?hya8⟩) (by assumption) ?resta8
      case hia8 => (simp only [List.getElem?_toArray, List.getElem?_cons_succ, List.getElem?_cons_zero]; rfl)
      case hwa8 => rfl
      case hya8 => (intro w hSw; (try dsimp only at hSw); go_simp; try with_reducible rfl)
      (try simp only [Act.put, List.setIfInBounds_toArray, List.set_cons_zero, List.set_cons_succ])
      refine Held.take (i := 9) (oi := ?oa9) (v := ?va9) ?hia9 (by kernel_rfl) (by kernel_rfl) (by kernel_rfl) (by kernel_rfl) (fun _ _ _ h => h) (Or.inl ⟨?hwa9, ?hya9⟩) (by assumption) ?resta9
      case hia9 => (simp only [List.getElem?_toArray, List.getElem?_cons_succ, List.getElem?_cons_zero]; rfl)
      case hwa9 => rfl
      case hya9 => (intro w hSw; (try dsimp only at hSw); go_simp; try with_reducible rfl)
      (try simp only [Act.put, List.setIfInBounds_toArray, List.set_cons_zero, List.set_cons_succ])
      refine Held.take (i := 10) (oi := ?oa10) (v := ?va10) ?hia10 (by kernel_rfl) (by kernel_rfl) (by kernel_rfl) (by kernel_rfl) (fun _ _ _ h => h) (Or.inl ⟨?hwa10, ?hya10⟩) (by assumption) ?resta10
      case hia10 => (simp only [List.getElem?_toArray, List.getElem?_cons_succ, List.getElem?_cons_zero]; rfl)
      case hwa10 => rfl
      case hya10 => (intro w hSw; (try dsimp only at hSw); go_simp; try with_reducible rfl)
      (try simp only [Act.put, List.setIfInBounds_toArray, List.set_cons_zero, List.set_cons_succ])
      refine Held.take (i := 11) (oi := ?oa11) (v := ?va11) ?hia11 (by kernel_rfl) (by kernel_rfl) (by kernel_rfl) (by kernel_rfl) (fun _ _ _ h => h) (Or.inl ⟨?hwa11, ?hya11⟩) (by assumption) ?resta11
      case hia11 => (simp only [List.getElem?_toArray, List.getElem?_cons_succ, List.getElem?_cons_zero]; rfl)
      case hwa11 => rfl
      case hya11 => (intro w hSw; (try dsimp only at hSw); go_simp; try with_reducible rfl)
      (try simp only [Act.put, List.setIfInBounds_toArray, List.set_cons_zero, List.set_cons_succ])
      refine Held.take (i := 12) (oi := ?oa12) (v := ?va12) ?hia12 (by kernel_rfl) (by kernel_rfl) (by kernel_rfl) (by kernel_rfl) (fun _ _ _ h => h) (Or.inl ⟨?hwa12, ?hya12⟩) (by assumption) ?resta12
      case hia12 => (simp only [List.getElem?_toArray, List.getElem?_cons_succ, List.getElem?_cons_zero]; rfl)
      case hwa12 => rfl
      case hya12 => (intro w hSw; (try dsimp only at hSw); go_simp; try with_reducible rfl)
      (try simp only [Act.put, List.setIfInBounds_toArray, List.set_cons_zero, List.set_cons_succ])
      refine Held.take (i := 13) (oi := ?oa13) (v := ?va13) ?hia13 (by kernel_rfl) (by kernel_rfl) (by kernel_rfl) (by kernel_rfl) (fun _ _ _ h => h) (Or.inl ⟨?hwa13, ?hya13⟩) (by assumption) ?resta13
      case hia13 => (simp only [List.getElem?_toArray, List.getElem?_cons_succ, List.getElem?_cons_zero]; rfl)
      case hwa13 => rfl
      case hya13 => (intro w hSw; (try dsimp only at hSw); go_simp; try with_reducible rfl)
      (try simp only [Act.put, List.setIfInBounds_toArray, List.set_cons_zero, List.set_cons_succ])
      refine Held.take (i := 14) (oi := ?oa14) (v := ?va14) ?hia14 (by kernel_rfl) (by kernel_rfl) (by kernel_rfl) (by kernel_rfl) (fun _ _ _ h => h) (Or.inl ⟨?hwa14, ?hya14⟩) (by assumption) ?resta14
      case hia14 => (simp only [List.getElem?_toArray, List.getElem?_cons_succ, List.getElem?_cons_zero]; rfl)
      case hwa14 => rfl
      case hya14 => (intro w hSw; (try dsimp only at hSw); go_simp; try with_reducible rfl)
      (try simp only [Act.put, List.setIfInBounds_toArray, List.set_cons_zero, List.set_cons_succ])
      refine Held.take (i := 15) (oi := ?oa15) (v := ?va15) ?hia15 (by kernel_rfl) (by kernel_rfl) (by kernel_rfl) (by kernel_rfl) (fun _ _ _ h => h) (Or.inl ⟨?hwa15, ?hya15⟩) (by assumption) ?resta15
      case hia15 => (simp only [List.getElem?_toArray, List.getElem?_cons_succ, List.getElem?_cons_zero]; rfl)
      case hwa15 => rfl
      case hya15 => (intro w hSw; (try dsimp only at hSw); go_simp; try with_reducible rfl)
      (try simp only [Act.put, List.setIfInBounds_toArray, List.set_cons_zero, List.set_cons_succ])
      refine Held.take (i := 16) (oi := ?oa16) (v := ?va16) ?hia16 (by kernel_rfl) (by kernel_rfl) (by kernel_rfl) (by kernel_rfl) (fun _ _ _ h => h) (Or.inl ⟨?hwa16, ?hya16⟩) (by assumption) ?resta16
      case hia16 => (simp only [List.getElem?_toArray, List.getElem?_cons_succ, List.getElem?_cons_zero]; rfl)
      case hwa16 => rfl
      case hya16 => (intro w hSw; (try dsimp only at hSw); go_simp; try with_reducible rfl)
      (try simp only [Act.put, List.setIfInBounds_toArray, List.set_cons_zero, List.set_cons_succ])
      refine Held.take (i := 17) (oi := ?oa17) (v := ?va17) ?hia17 (by kernel_rfl) (by kernel_rfl) (by kernel_rfl) (by kernel_rfl) (fun _ _ _ h => h) (Or.inl ⟨?hwa17, ?hya17⟩) (by assumption) ?resta17
      case hia17 => (simp only [List.getElem?_toArray, List.getElem?_cons_succ, List.getElem?_cons_zero]; rfl)
      case hwa17 => rfl
      case hya17 => (intro w hSw; (try dsimp only at hSw); go_simp; try with_reducible rfl)
      (try simp only [Act.put, List.setIfInBounds_toArray, List.set_cons_zero, List.set_cons_succ])
      refine Held.take (i := 18) (oi := ?oa18) (v := ?va18) ?hia18 (by kernel_rfl) (by kernel_rfl) (by kernel_rfl) (by kernel_rfl) (fun _ _ _ h => h) (Or.inl ⟨?hwa18, ?hya18⟩) (by assumption) ?resta18
      case hia18 => (simp only [List.getElem?_toArray, List.getElem?_cons_succ, List.getElem?_cons_zero]; rfl)
      case hwa18 => rfl
      case hya18 => (intro w hSw; (try dsimp only at hSw); go_simp; try with_reducible rfl)
      (try simp only [Act.put, List.setIfInBounds_toArray, List.set_cons_zero, List.set_cons_succ])
      refine Held.take (i := 19) (oi := ?oa19) (v := ?va19) ?hia19 (by kernel_rfl) (by kernel_rfl) (by kernel_rfl) (by kernel_rfl) (fun _ _ _ h => h) (Or.inl ⟨?hwa19, ?hya19⟩) (by assumption) ?resta19
      case hia19 => (simp only [List.getElem?_toArray, List.getElem?_cons_succ, List.getElem?_cons_zero]; rfl)
      case hwa19 => rfl
      case hya19 => (intro w hSw; (try dsimp only at hSw); go_simp; try with_reducible rfl)
      (try simp only [Act.put, List.setIfInBounds_toArray, List.set_cons_zero, List.set_cons_succ])
      refine Held.take (i := 20) (oi := ?oa20) (v := ?va20) ?hia20 (by kernel_rfl) (by kernel_rfl) (by kernel_rfl) (by kernel_rfl) (fun _ _ _ h => h) (Or.inl ⟨?hwa20, ?hya20⟩) (by assumption) ?resta20
      case hia20 => (simp only [List.getElem?_toArray, List.getElem?_cons_succ, List.getElem?_cons_zero]; rfl)
      case hwa20 => rfl
      case hya20 => (intro w hSw; (try dsimp only at hSw); go_simp; try with_reducible rfl)
      (try simp only [Act.put, List.setIfInBounds_toArray, List.set_cons_zero, List.set_cons_succ])
      refine Held.take (i := 21) (oi := ?oa21) (v := ?va21) ?hia21 (by kernel_rfl) (by kernel_rfl) (by kernel_rfl) (by kernel_rfl) (fun _ _ _ h => h) (Or.inl ⟨?hwa21, ?hya21⟩) (by assumption) ?resta21
      case hia21 => (simp only [List.getElem?_toArray, List.getElem?_cons_succ, List.getElem?_cons_zero]; rfl)
      case hwa21 => rfl
      case hya21 => (intro w hSw; (try dsimp only at hSw); go_simp; try with_reducible rfl)
      (try simp only [Act.put, List.setIfInBounds_toArray, List.set_cons_zero, List.set_cons_succ])
      refine Held.next (i := 22) (o := ?oa22) (by kernel_rfl) ?hia22 (fun K hK => ?sta22)
      case hia22 => (simp only [List.getElem?_toArray, List.getElem?_cons_succ, List.getElem?_cons_zero]; rfl)
      go_simp
      (go_at_call 29; refine (HER.out _ ((Frm.refl _ _).drewN 1)).mono ?_; rintro e w' ⟨rfl, rfl⟩)
      (try go_wp2_with fail)
      refine hK.out _ _ (fun _ => by assumption) ?_
      clear hK K
      (try simp only [Act.put, List.setIfInBounds_toArray, List.set_cons_zero, List.set_cons_succ])
      refine Held.take (i := 23) (oi := ?oa23) (v := ?va23) ?hia23 (by kernel_rfl) (by kernel_rfl) (by kernel_rfl) (by kernel_rfl) (fun _ _ _ h => h) (Or.inl ⟨?hwa23, ?hya23⟩) (by assumption) ?resta23
      case hia23 => (simp only [List.getElem?_toArray, List.getElem?_cons_succ, List.getElem?_cons_zero]; rfl)
      case hwa23 => rfl
      case hya23 => (intro w hSw; (try dsimp only at hSw); go_simp; try with_reducible rfl)
      (try simp only [Act.put, List.setIfInBounds_toArray, List.set_cons_zero, List.set_cons_succ])
      refine Held.take (i := 24) (oi := ?oa24) (v := ?va24) ?hia24 (by kernel_rfl) (by kernel_rfl) (by kernel_rfl) (by kernel_rfl) (fun _ _ _ h => h) (Or.inl ⟨?hwa24, ?hya24⟩) (by assumption) ?resta24
      case hia24 => (simp only [List.getElem?_toArray, List.getElem?_cons_succ, List.getElem?_cons_zero]; rfl)
      case hwa24 => rfl
      case hya24 => (intro w hSw; (try dsimp only at hSw); go_simp; try with_reducible rfl)
      (try simp only [Act.put, List.setIfInBounds_toArray, List.set_cons_zero, List.set_cons_succ])
      refine Held.take (i := 25) (oi := ?oa25) (v := ?va25) ?hia25 (by kernel_rfl) (by kernel_rfl) (by kernel_rfl) (by kernel_rfl) (fun _ _ _ h => h) (Or.inl ⟨?hwa25, ?hya25⟩) (by assumption) ?resta25
      case hia25 => (simp only [List.getElem?_toArray, List.getElem?_cons_succ, List.getElem?_cons_zero]; rfl)
      case hwa25 => rfl
      case hya25 => (intro w hSw; (try dsimp only at hSw); go_simp; try with_reducible rfl)
      (try simp only [Act.put, List.setIfInBounds_toArray, List.set_cons_zero, List.set_cons_succ])
      refine Held.done (by kernel_rfl) ?_ _
      refine NoPanic.normal ?_
      go_wp2_with fail
      go_ret
      exact ⟨ret_bool (by simp), hf012.drewN 1⟩

set_option maxRecDepth 100000 in
set_option maxHeartbeats 2000000 in
theorem lcl_law (a0 : Option Addr) (len0 cap0 : Nat) (z0 : List Int) (hz0 : z0.length = len0) {w0 : World} (s0 : Sl w0 (fun k => k < w0.heap.size) 1 (.slice a0 len0 cap0) len0 (z0.map (.int .i64))) (_ : ∀ n ∈ z0, (Lit.int .i64 n).wf = true)
    (lit : Int) (_ : (Lit.int .i64 lit).wf = true) (n : Int) (_ : (Lit.int .i64 n).wf = true)
    (a1 : Option Addr) (len1 cap1 : Nat) (z1 : List Int) (hz1 : z1.length = len1) (s1 : Sl w0 (fun k => k < w0.heap.size) 1 (.slice a1 len1 cap1) len1 (z1.map (.int .i64))) (_ : ∀ n ∈ z1, (Lit.int .i64 n).wf = true) (w : World) (e : w = w0) :
    Calls Tryd.prog 18 #[.slice a0 len0 cap0, .int .i64 lit, .int .i64 n, .slice a1 len1 cap1] w fun e w' => e = .returned (.bool true) ∧ Frm (fun _ => False) w w' := by
  subst e
  by_cases h : len0 ≤ 80
  · by_cases h2 : 8 ≤ len1
    · exact lcl_any a0 len0 cap0 z0 hz0 lit n a1 len1 cap1 z1 hz1 w s0 s1 h h2
    · have t0 : decide ((80 : Int) < (len0 : Int)) = false := by simp; omega
      have t1 : decide ((len1 : Int) < 8) = true := by simp; omega
      go_enter Tryd.func18, Tryd.ntmps18
      go_wp2_with fail
      refine (first10_any w).mono ?_
      rintro e w1 ⟨rfl, hf1⟩
      go_wp2_with fail
      go_ret
      exact ⟨rfl, hf1⟩
  · have t0 : decide ((80 : Int) < (len0 : Int)) = true := by simp; omega
    go_enter Tryd.func18, Tryd.ntmps18
    go_wp2_with fail
    refine (first10_any w).mono ?_
    rintro e w1 ⟨rfl, hf1⟩
    go_wp2_with fail
    go_ret
    exact ⟨rfl, hf1⟩

end Go.Proofs.YtkjlgamggkencaaDoor
