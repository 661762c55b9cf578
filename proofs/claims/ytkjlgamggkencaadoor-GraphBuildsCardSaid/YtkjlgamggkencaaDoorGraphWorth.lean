/-
  The walk of GraphWorth.
-/
import Derived.Test.YtkjlgamggkencaaDoorMade
import Derived.Test.YtkjlgamggkencaaDoorMakeC
import Derived.Test.YtkjlgamggkencaaDoorGraphFolds
namespace Go.Proofs.YtkjlgamggkencaaDoor
open Go.RowKit

/-- a circuit built anew: what it is, what it is worth -/
structure Anew (n : Nat) (L : List (Int × Int)) (l : List Int) (g : Gr) (l' : List Int) : Prop where
  num : g.n = n
  bad : g.bad = 0
  made : Made n g.ands
  few : g.ands.length ≤ L.length
  many : l'.length = l.length
  lits : ∀ x ∈ l', isL x (n + g.ands.length) = true
  eval : ∀ inp, evalOuts (nodes n g.ands inp) l' = evalOuts (nodes n L inp) l
theorem anew {n : Nat} {L : List (Int × Int)} {l : List Int} (hr : Right n L) (hn : n + L.length ≤ 8000) (hl : ∀ x ∈ l, isL x (n + L.length) = true) : Anew n L l (bld n L).1 (l.map (asL (bld n L).2)) := by
  have hi := bld_inv hr hn
  refine ⟨hi.num, hi.bad, by have := hi.made; rwa [hi.num] at this, hi.len, by simp, ?_, ?_⟩
  · intro x hx
    obtain ⟨y, _, rfl⟩ := List.mem_map.1 hx
    have := asL_isL (l := y) hi.lits
    have e : (bld n L).1.len = n + (bld n L).1.ands.length := by show (bld n L).1.n + _ = _; rw [hi.num]
    rwa [e] at this
  · intro inp
    unfold evalOuts
    rw [List.map_map]
    apply List.map_congr_left
    intro x hx
    have h0 := isL_iff.1 (hl x hx)
    have := asL_worth hi inp (x := x) (by omega)
    rw [hi.num] at this
    exact this

theorem sameBools_any2 (A B : Option Addr) (n m c d : Nat) (F G : Nat → Prop) (l : List Bool) (w : World) (hnm : n = m) (hn : l.length = n) (hb : n ≤ 1000000) (h1 : Sl w F 1 (.slice A n c) n (l.map .bool)) (h2 : Sl w G 1 (.slice B m d) m (l.map .bool)) :
    Calls Tryd.prog 68 #[.slice A n c, .slice B m d] w fun e w' => e = .returned (.bool true) ∧ Frm (fun _ => False) w w' := by
  subst hnm
  refine (sameBools_eq A B n c d F G l w hn hb h1 h2).mono ?_
  rintro e w' ⟨rfl, k, rfl⟩
  exact ⟨rfl, (Frm.refl _ _).drewN k⟩
theorem held6 {w1 w2 : World} {a0 a1 a2 a3 a4 a5 : Addr} {v0 v1 v2 v3 v4 v5 : Value} (hf : Frm (fun _ => False) w1 w2)
    (h : w1.cell? a0 = some v0 ∧ w1.cell? a1 = some v1 ∧ w1.cell? a2 = some v2 ∧ w1.cell? a3 = some v3 ∧ w1.cell? a4 = some v4 ∧ w1.cell? a5 = some v5) :
    w2.cell? a0 = some v0 ∧ w2.cell? a1 = some v1 ∧ w2.cell? a2 = some v2 ∧ w2.cell? a3 = some v3 ∧ w2.cell? a4 = some v4 ∧ w2.cell? a5 = some v5 :=
  ⟨hf.cell h.1 id, hf.cell h.2.1 id, hf.cell h.2.2.1 id, hf.cell h.2.2.2.1 id, hf.cell h.2.2.2.2.1 id, hf.cell h.2.2.2.2.2 id⟩

set_option maxRecDepth 100000 in
set_option maxHeartbeats 8000000 in
theorem gwl_any (a0 : Option Addr) (len0 cap0 : Nat) (z0 : List Int) (hz0 : z0.length = len0) (a1 : Option Addr) (len1 cap1 : Nat) (z1 : List Int) (hz1 : z1.length = len1) (n : Int) (w : World)
    (s0 : Sl w (fun k => k < w.heap.size) 1 (.slice a0 len0 cap0) len0 (z0.map (.int .i64))) (s1 : Sl w (fun k => k < w.heap.size) 1 (.slice a1 len1 cap1) len1 (z1.map (.int .i64))) (h0 : len0 ≤ 120) (h1 : len1 ≤ 20) :
    Calls Tryd.prog 12 #[.slice a0 len0 cap0, .slice a1 len1 cap1, .int .i64 n] w fun e w' => e = .returned (.bool true) ∧ Frm (fun _ => False) w w' := by
  have t0 : decide ((120 : Int) < (len0 : Int)) = false := by simp; omega
  have t1 : decide ((20 : Int) < (len1 : Int)) = false := by simp; omega
  have hlm : (mkAnds 12 z0).length ≤ 60 := by rw [mkAnds_length]; omega
  have hlo : (mkOuts 12 z0 z1).length ≤ 20 := by simp [mkOuts]; omega
  have hr := mkAnds_right 12 z0
  have hl : ∀ x ∈ mkOuts 12 z0 z1, isL x (12 + (mkAnds 12 z0).length) = true := by rw [mkAnds_length]; exact mkOuts_isL 12 z0 z1
  have HMK := Lib.hid (fun W (hf : Frm (fun _ => False) w W) => make_any 12 a0 len0 cap0 z0 hz0 a1 len1 cap1 z1 hz1 _ _ W (s0.frm hf (fun _ _ => id)) (s1.frm hf (fun _ _ => id)) (by omega) (by omega) (by omega))
  have HAN := Lib.hid (anew hr (by omega) hl)
  have HR := Lib.hid hr
  have HL := Lib.hid hl
  clear hz0 hz1 s0 s1 hr hl
  generalize mkAnds 12 z0 = L at *
  generalize mkOuts 12 z0 z1 = l at *
  have HBLD := Lib.hid (fun A c B d F G W hs ho => build_any E0 rfl 12 A L.length c B l.length d L l F G W rfl rfl (by omega) (by omega) HR.out HL.out hs ho)
  go_enter Tryd.func12, Tryd.ntmps12
  go_wp2_with fail
  refine (first8_any w).mono ?_
  rintro e w1 ⟨rfl, hf1⟩
  go_wp2_with fail
  refine (HMK.out w1 hf1).mono ?_
  rintro e w2 ⟨v, rfl, ⟨A, c, B, d, rfl, hA, hB⟩, hf2⟩
  clear HMK
  go_wp2_with fail
  have hfa := (Frm.refl (fun _ => False) w2).alloc (.cells #[.int .i64 12, .slice A L.length c, .slice B l.length d] 40)
  have hba : Blk (w2.alloc (.cells #[.int .i64 12, .slice A L.length c, .slice B l.length d] 40)) w2.heap.size 40 [.int .i64 12, .slice A L.length c, .slice B l.length d] := Blk.new _ _ _
  have hA3 := hA.frm hfa (fun _ _ => id)
  have hB3 := hB.frm hfa (fun _ _ => id)
  refine (HBLD.out A c B d _ _ _ hA3 hB3).mono ?_
  rintro e w3 ⟨gb, fp, O, q, rfl, hG, hfp, hO, hf3⟩
  have hb3 := hba.frm hf3 id
  have hA4 := hA3.frm hf3 (fun _ _ => id)
  have hB4 := hB3.frm hf3 (fun _ _ => id)
  have hf03 := ((hf1.trans hf2).trans hfa).trans hf3
  have han := HAN.out
  have hgn := han.num
  have hgf := han.few
  have hgm := han.many
  clear hA hB hA3 hB3 hba HBLD han
  generalize (bld 12 L).1 = g at *
  generalize hl' : l.map (asL (bld 12 L).2) = l' at *
  clear hl'
  have hgl : g.len = 12 + g.ands.length := by show g.n + _ = _; rw [hgn]
  have hO3 : IsGr E0 w3 fp gb g := hG
  clear hG
  have hLEN := Lib.hid (fun n => len_any E0 fp gb g _ (hO3.drewN n))
  have c1 := hb3.at_ 1 rfl
  have c2 := hb3.at_ 2 rfl
  have c0 := hb3.at_ 0 rfl
  have wm : IntKind.i64.wrap (12 + (L.length : Int)) = 12 + (L.length : Int) := IntWalk.i64_in _ (by omega)
  have td : decide (12 + (L.length : Int) < (g.len : Int)) = false := by simp; omega
  have HN := Lib.hid (And.intro hgn (And.intro hgf (And.intro hgm hgl)))
  clear hgn hgf hgm hgl
  have hH0 : w3.drew.cell? ⟨w2.heap.size, 1, none⟩ = some (.slice A L.length c) ∧ w3.drew.cell? ⟨w2.heap.size, 2, none⟩ = some (.slice B l.length d) := ⟨c1, c2⟩
  go_wp2_with fail
  have hHeld := hH0
  refine Held.begin (fun w' => w'.cell? ⟨w2.heap.size, 1, none⟩ = some (.slice A L.length c) ∧ w'.cell? ⟨w2.heap.size, 2, none⟩ = some (.slice B l.length d)) 23 (by kernel_rfl) ?_
  refine Held.take (i := 0) (oi := ?oa0) (v := ?va0) ?hia0 (by kernel_rfl) (by kernel_rfl) (by kernel_rfl) (by kernel_rfl) (fun _ _ _ h => h) (Or.inl ⟨?hwa0, ?hya0⟩) (by assumption) ?resta0
  case hia0 => (simp only [List.getElem?_toArray, List.getElem?_cons_zero]; rfl)
  case hwa0 => rfl
  case hya0 => (intro w hSw; (try dsimp only at hSw); go_simp; try with_reducible rfl)
  (try simp only [Act.put, List.setIfInBounds_toArray, List.set_cons_zero, List.set_cons_succ])
  refine Held.take (i := 1) (oi := ?oa1) (v := ?va1) ?hia1 (by kernel_rfl) (by kernel_rfl) (by kernel_rfl) (by kernel_rfl) (fun _ _ _ h => h) (Or.inl ⟨?hwa1, ?hya1⟩) (by assumption) ?resta1
  case hia1 => (simp only [List.getElem?_toArray, List.getElem?_cons_succ, List.getElem?_cons_zero]; rfl)
  case hwa1 => rfl
  case hya1 => (intro w hSw; (try dsimp only at hSw); go_simp; try with_reducible rfl)
  (try simp only [Act.put, List.setIfInBounds_toArray, List.set_cons_zero, List.set_cons_succ])
  refine Held.take (i := 2) (oi := ?oa2) (v := ?va2) ?hia2 (by kernel_rfl) (by kernel_rfl) (by kernel_rfl) (by kernel_rfl) (fun _ _ _ h => h) (Or.inl ⟨?hwa2, ?hya2⟩) (by assumption) ?resta2
  case hia2 => (simp only [List.getElem?_toArray, List.getElem?_cons_succ, List.getElem?_cons_zero]; rfl)
  case hwa2 => rfl
  case hya2 => (intro w hSw; (try dsimp only at hSw); go_simp; try with_reducible rfl)
  (try simp only [Act.put, List.setIfInBounds_toArray, List.set_cons_zero, List.set_cons_succ])
  refine Held.take (i := 3) (oi := ?oa3) (v := ?va3) ?hia3 (by kernel_rfl) (by kernel_rfl) (by kernel_rfl) (by kernel_rfl) (fun _ _ _ h => h) (Or.inl ⟨?hwa3, ?hya3⟩) (by assumption) ?resta3
  case hia3 => (simp only [List.getElem?_toArray, List.getElem?_cons_succ, List.getElem?_cons_zero]; rfl)
  case hwa3 => rfl
  case hya3 => (intro w hSw; (try dsimp only at hSw); go_simp; try with_reducible rfl)
  (try simp only [Act.put, List.setIfInBounds_toArray, List.set_cons_zero, List.set_cons_succ])
  refine Held.take (i := 4) (oi := ?oa4) (v := ?va4) ?hia4 (by kernel_rfl) (by kernel_rfl) (by kernel_rfl) (by kernel_rfl) (fun _ _ _ h => h) (Or.inl ⟨?hwa4, ?hya4⟩) (by assumption) ?resta4
  case hia4 => (simp only [List.getElem?_toArray, List.getElem?_cons_succ, List.getElem?_cons_zero]; rfl)
  case hwa4 => rfl
  case hya4 => (intro w hSw; (try dsimp only at hSw); go_simp; try with_reducible rfl)
  (try simp only [Act.put, List.setIfInBounds_toArray, List.set_cons_zero, List.set_cons_succ])
  refine Held.take (i := 5) (oi := ?oa5) (v := ?va5) ?hia5 (by kernel_rfl) (by kernel_rfl) (by kernel_rfl) (by kernel_rfl) (fun _ _ _ h => h) (Or.inl ⟨?hwa5, ?hya5⟩) (by assumption) ?resta5
  case hia5 => (simp only [List.getElem?_toArray, List.getElem?_cons_succ, List.getElem?_cons_zero]; rfl)
  case hwa5 => rfl
  case hya5 => (intro w hSw; (try dsimp only at hSw); go_simp; try with_reducible rfl)
  (try simp only [Act.put, List.setIfInBounds_toArray, List.set_cons_zero, List.set_cons_succ])
  refine Held.take (i := 6) (oi := ?oa6) (v := ?va6) ?hia6 (by kernel_rfl) (by kernel_rfl) (by kernel_rfl) (by kernel_rfl) (fun _ _ _ h => h) (Or.inl ⟨?hwa6, ?hya6⟩) (by assumption) ?resta6
  case hia6 => (simp only [List.getElem?_toArray, List.getElem?_cons_succ, List.getElem?_cons_zero]; rfl)
  case hwa6 => rfl
  case hya6 => (intro w hSw; (try dsimp only at hSw); go_simp; try with_reducible rfl)
  (try simp only [Act.put, List.setIfInBounds_toArray, List.set_cons_zero, List.set_cons_succ])
  refine Held.take (i := 7) (oi := ?oa7) (v := ?va7) ?hia7 (by kernel_rfl) (by kernel_rfl) (by kernel_rfl) (by kernel_rfl) (fun _ _ _ h => h) (Or.inl ⟨?hwa7, ?hya7⟩) (by assumption) ?resta7
  case hia7 => (simp only [List.getElem?_toArray, List.getElem?_cons_succ, List.getElem?_cons_zero]; rfl)
  case hwa7 => rfl
  case hya7 => (intro w hSw; (try dsimp only at hSw); go_simp; try with_reducible rfl)
  (try simp only [Act.put, List.setIfInBounds_toArray, List.set_cons_zero, List.set_cons_succ])
  refine Held.take (i := 8) (oi := ?oa8) (v := ?va8) ?hia8 (by kernel_rfl) (by kernel_rfl) (by kernel_rfl) (by kernel_rfl) (fun _ _ _ h => h) (Or.inl ⟨?hwa8, ?hya8⟩) (by assumption) ?resta8
  case hia8 => (simp only [List.getElem?_toArray, List.getElem?_cons_succ, List.getElem?_cons_zero]; rfl)
  case hwa8 => rfl
  case hya8 => (intro w hSw; (try dsimp only at hSw); go_simp; try with_reducible rfl)
  (try simp only [Act.put, List.setIfInBounds_toArray, List.set_cons_zero, List.set_cons_succ])
  refine Held.take (i := 9) (oi := ?oa9) (v := ?va9) ?hia9 (by kernel_rfl) (by kernel_rfl) (by kernel_rfl) (by kernel_rfl) (fun _ _ _ h => h) (Or.inl ⟨?hwa9, ?hya9⟩) (by assumption) ?resta9
  case hia9 => (simp only [List.getElem?_toArray, List.getElem?_cons_succ, List.getElem?_cons_zero]; rfl)
  case hwa9 => rfl
  case hya9 => (intro w hSw; (try dsimp only at hSw); go_simp; try with_reducible rfl)
  (try simp only [Act.put, List.setIfInBounds_toArray, List.set_cons_zero, List.set_cons_succ])
  refine Held.take (i := 10) (oi := ?oa10) (v := ?va10) ?hia10 (by kernel_rfl) (by kernel_rfl) (by kernel_rfl) (by kernel_rfl) (fun _ _ _ h => h) (Or.inl ⟨?hwa10, ?hya10⟩) (by assumption) ?resta10
  case hia10 => (simp only [List.getElem?_toArray, List.getElem?_cons_succ, List.getElem?_cons_zero]; rfl)
  case hwa10 => rfl
  case hya10 => (intro w hSw; (try dsimp only at hSw); go_simp; try with_reducible rfl)
  (try simp only [Act.put, List.setIfInBounds_toArray, List.set_cons_zero, List.set_cons_succ])
  refine Held.take (i := 11) (oi := ?oa11) (v := ?va11) ?hia11 (by kernel_rfl) (by kernel_rfl) (by kernel_rfl) (by kernel_rfl) (fun _ _ _ h => h) (Or.inl ⟨?hwa11, ?hya11⟩) (by assumption) ?resta11
  case hia11 => (simp only [List.getElem?_toArray, List.getElem?_cons_succ, List.getElem?_cons_zero]; rfl)
  case hwa11 => rfl
  case hya11 => (intro w hSw; (try dsimp only at hSw); go_simp; try with_reducible rfl)
  (try simp only [Act.put, List.setIfInBounds_toArray, List.set_cons_zero, List.set_cons_succ])
  refine Held.take (i := 12) (oi := ?oa12) (v := ?va12) ?hia12 (by kernel_rfl) (by kernel_rfl) (by kernel_rfl) (by kernel_rfl) (fun _ _ _ h => h) (Or.inl ⟨?hwa12, ?hya12⟩) (by assumption) ?resta12
  case hia12 => (simp only [List.getElem?_toArray, List.getElem?_cons_succ, List.getElem?_cons_zero]; rfl)
  case hwa12 => rfl
  case hya12 => (intro w hSw; (try dsimp only at hSw); go_simp; try with_reducible rfl)
  (try simp only [Act.put, List.setIfInBounds_toArray, List.set_cons_zero, List.set_cons_succ])
  refine Held.take (i := 13) (oi := ?oa13) (v := ?va13) ?hia13 (by kernel_rfl) (by kernel_rfl) (by kernel_rfl) (by kernel_rfl) (fun _ _ _ h => h) (Or.inl ⟨?hwa13, ?hya13⟩) (by assumption) ?resta13
  case hia13 => (simp only [List.getElem?_toArray, List.getElem?_cons_succ, List.getElem?_cons_zero]; rfl)
  case hwa13 => rfl
  case hya13 => (intro w hSw; (try dsimp only at hSw); go_simp; try with_reducible rfl)
  (try simp only [Act.put, List.setIfInBounds_toArray, List.set_cons_zero, List.set_cons_succ])
  refine Held.take (i := 14) (oi := ?oa14) (v := ?va14) ?hia14 (by kernel_rfl) (by kernel_rfl) (by kernel_rfl) (by kernel_rfl) (fun _ _ _ h => h) (Or.inl ⟨?hwa14, ?hya14⟩) (by assumption) ?resta14
  case hia14 => (simp only [List.getElem?_toArray, List.getElem?_cons_succ, List.getElem?_cons_zero]; rfl)
  case hwa14 => rfl
  case hya14 => (intro w hSw; (try dsimp only at hSw); go_simp; try with_reducible rfl)
  (try simp only [Act.put, List.setIfInBounds_toArray, List.set_cons_zero, List.set_cons_succ])
  refine Held.take (i := 15) (oi := ?oa15) (v := ?va15) ?hia15 (by kernel_rfl) (by kernel_rfl) (by kernel_rfl) (by kernel_rfl) (fun _ _ _ h => h) (Or.inl ⟨?hwa15, ?hya15⟩) (by assumption) ?resta15
  case hia15 => (simp only [List.getElem?_toArray, List.getElem?_cons_succ, List.getElem?_cons_zero]; rfl)
  case hwa15 => rfl
  case hya15 => (intro w hSw; (try dsimp only at hSw); go_simp; try with_reducible rfl)
  (try simp only [Act.put, List.setIfInBounds_toArray, List.set_cons_zero, List.set_cons_succ])
  refine Held.take (i := 17) (oi := ?oa17) (v := ?va17) ?hia17 (by kernel_rfl) (by kernel_rfl) (by kernel_rfl) (by kernel_rfl) (fun _ _ _ h => h) (Or.inl ⟨?hwa17, ?hya17⟩) (by assumption) ?resta17
  case hia17 => (simp only [List.getElem?_toArray, List.getElem?_cons_succ, List.getElem?_cons_zero]; rfl)
  case hwa17 => rfl
  case hya17 => (intro w hSw; (try dsimp only at hSw); go_simp; try with_reducible rfl)
  (try simp only [Act.put, List.setIfInBounds_toArray, List.set_cons_zero, List.set_cons_succ])
  refine Held.take (i := 18) (oi := ?oa18) (v := ?va18) ?hia18 (by kernel_rfl) (by kernel_rfl) (by kernel_rfl) (by kernel_rfl) (fun _ _ _ h => h) (Or.inl ⟨?hwa18, ?hya18⟩) (by assumption) ?resta18
  case hia18 => (simp only [List.getElem?_toArray, List.getElem?_cons_succ, List.getElem?_cons_zero]; rfl)
  case hwa18 => rfl
  case hya18 => (intro w hSw; (try dsimp only at hSw); go_simp; try with_reducible rfl)
  (try simp only [Act.put, List.setIfInBounds_toArray, List.set_cons_zero, List.set_cons_succ])
  refine Held.take (i := 19) (oi := ?oa19) (v := ?va19) ?hia19 (by kernel_rfl) (by kernel_rfl) (by kernel_rfl) (by kernel_rfl) (fun _ _ _ h => h) (Or.inl ⟨?hwa19, ?hya19⟩) (by assumption) ?resta19
  case hia19 => (simp only [List.getElem?_toArray, List.getElem?_cons_succ, List.getElem?_cons_zero]; rfl)
  case hwa19 => rfl
  case hya19 => (intro w hSw; (try dsimp only at hSw); go_simp; try with_reducible rfl)
  (try simp only [Act.put, List.setIfInBounds_toArray, List.set_cons_zero, List.set_cons_succ])
  refine Held.take (i := 20) (oi := ?oa20) (v := ?va20) ?hia20 (by kernel_rfl) (by kernel_rfl) (by kernel_rfl) (by kernel_rfl) (fun _ _ _ h => h) (Or.inl ⟨?hwa20, ?hya20⟩) (by assumption) ?resta20
  case hia20 => (simp only [List.getElem?_toArray, List.getElem?_cons_succ, List.getElem?_cons_zero]; rfl)
  case hwa20 => rfl
  case hya20 => (intro w hSw; (try dsimp only at hSw); go_simp; try with_reducible rfl)
  (try simp only [Act.put, List.setIfInBounds_toArray, List.set_cons_zero, List.set_cons_succ])
  refine Held.next (i := 16) (o := ?oa16) (by kernel_rfl) ?hia16 (fun K hK => ?sta16)
  case hia16 => (simp only [List.getElem?_toArray, List.getElem?_cons_succ, List.getElem?_cons_zero]; rfl)
  go_simp
  (go_at_call 26; refine (hLEN.out 1).mono ?_; rintro e w' ⟨rfl, n1, rfl⟩)
  (try go_wp2_with fail)
  refine hK.out _ _ (fun _ => by exact hHeld) ?_
  clear hK K
  (try simp only [Act.put, List.setIfInBounds_toArray, List.set_cons_zero, List.set_cons_succ])
  have hH2 : (w3.drewN (1 + n1)).cell? ⟨w2.heap.size, 1, none⟩ = some (.slice A L.length c) ∧ (w3.drewN (1 + n1)).cell? ⟨w2.heap.size, 2, none⟩ = some (.slice B l.length d) := hHeld
  refine Held.take (i := 21) (oi := ?oa21) (v := ?va21) ?hia21 (by kernel_rfl) (by kernel_rfl) (by kernel_rfl) (by kernel_rfl) (fun _ _ _ h => h) (Or.inl ⟨?hwa21, ?hya21⟩) (by assumption) ?resta21
  case hia21 => (simp only [List.getElem?_toArray, List.getElem?_cons_succ, List.getElem?_cons_zero]; rfl)
  case hwa21 => rfl
  case hya21 => (intro w hSw; (try dsimp only at hSw); go_simp; try with_reducible rfl)
  (try simp only [Act.put, List.setIfInBounds_toArray, List.set_cons_zero, List.set_cons_succ])
  refine Held.take (i := 22) (oi := ?oa22) (v := ?va22) ?hia22 (by kernel_rfl) (by kernel_rfl) (by kernel_rfl) (by kernel_rfl) (fun _ _ _ h => h) (Or.inl ⟨?hwa22, ?hya22⟩) (by assumption) ?resta22
  case hia22 => (simp only [List.getElem?_toArray, List.getElem?_cons_succ, List.getElem?_cons_zero]; rfl)
  case hwa22 => rfl
  case hya22 => (intro w hSw; (try dsimp only at hSw); go_simp; try with_reducible rfl)
  (try simp only [Act.put, List.setIfInBounds_toArray, List.set_cons_zero, List.set_cons_succ])
  refine Held.done (by kernel_rfl) ?_ _
  refine NoPanic.normal ?_
  go_wp2_with fail
  refine (circuit_any E0 fp gb g _ (hO3.drewN (1 + n1)) O l.length q _ l' HN.out.2.2.1 (by omega) (hO.drewN (1 + n1))).mono ?_
  rw [HN.out.1]
  rintro e w4 ⟨v4, rfl, ⟨A2, c2', B2, d2, rfl, hA2, hB2⟩, hf4⟩
  have hfb := (Frm.refl (fun _ => False) w4).alloc (.cells #[.int .i64 12, .slice A2 g.ands.length c2', .slice B2 l'.length d2] 40)
  have hbd : Blk (w4.alloc (.cells #[.int .i64 12, .slice A2 g.ands.length c2', .slice B2 l'.length d2] 40)) w4.heap.size 40 [.int .i64 12, .slice A2 g.ands.length c2', .slice B2 l'.length d2] := Blk.new _ _ _
  have hfc := ((Frm.refl (fun _ => False) w3).drewN (1 + n1)).trans (hf4.trans hfb)
  have hbc := hb3.frm hfc id
  have hA5 := hA4.frm hfc (fun _ _ => id)
  have hB5 := hB4.frm hfc (fun _ _ => id)
  have hA6 := hA2.frm hfb (fun _ _ => id)
  have hB6 := hB2.frm hfb (fun _ _ => id)
  have hf05 := hf03.trans hfc
  clear hf4 hfb hfc hb3 hA4 hB4 hA2 hB2 hO hO3 hLEN hf03 hH0 c0 c1 c2 hf3 hfa hf2 hf1 hH2 hfp
  go_wp2_with fail
  refine (values_any n 12 (by omega) _).mono ?_
  rintro e w5 ⟨Ai, ci, rfl, hown, hf5⟩
  have hin := own_sl hown
  have hinl := mkVals_length n 12
  have hbd5 := hbd.frm hf5 id
  have hbc5 := hbc.frm hf5 id
  have hf06 := hf05.trans hf5
  have hA7 := hA5.frm hf5 (fun _ _ => id)
  have hB7 := hB5.frm hf5 (fun _ _ => id)
  have hA8 := hA6.frm hf5 (fun _ _ => id)
  have hB8 := hB6.frm hf5 (fun _ _ => id)
  clear hown hbd hbc hf05 hf5 hA5 hB5 hA6 hB6
  generalize mkVals n 12 = inp at *
  have hev := HAN.out.eval inp
  have hcode : ckCode ((12 : Nat) : Int) g.ands l' = 0 := ckCode_right HAN.out.made.right (by have := HN.out.2.1; omega) HAN.out.lits
  have hll : l'.length = l.length := HN.out.2.2.1
  have hga : g.ands.length ≤ 60 := by have := HN.out.2.1; omega
  have K1 := Lib.hid (fun W (hf : Frm (fun _ => False) w5 W) => check_any [102, 104] (fun _ => ⟨0, 0, none⟩) (by simp) (by simp) ((12 : Nat) : Int) A2 g.ands.length c2' B2 l'.length d2 g.ands l' _ _ W rfl rfl (by omega) (by omega) (hA8.frm hf (fun _ _ => id)) (hB8.frm hf (fun _ _ => id)) (fun h => absurd hcode h))
  rw [hcode, PE_zero] at K1
  have K2 := Lib.hid (fun W (hf : Frm (fun _ => False) w5 W) => reval_any 12 L A L.length c B l.length d l Ai 12 ci inp _ _ _ W rfl rfl hinl HR.out (by omega) (by omega) (by omega) HL.out (hA7.frm hf (fun _ _ => id)) (hB7.frm hf (fun _ _ => id)) (hin.frm hf (fun _ _ => id)))
  have K3 := Lib.hid (fun W (hf : Frm (fun _ => False) w5 W) => reval_any 12 g.ands A2 g.ands.length c2' B2 l'.length d2 l' Ai 12 ci inp _ _ _ W rfl rfl hinl HAN.out.made.right (by omega) (by omega) (by omega) HAN.out.lits (hA8.frm hf (fun _ _ => id)) (hB8.frm hf (fun _ _ => id)) (hin.frm hf (fun _ _ => id)))
  rw [hev] at K3
  have K4 := Lib.hid (fun W (hf : Frm (fun _ => False) w5 W) => made_any 12 A2 g.ands.length c2' B2 l'.length d2 g.ands l' _ _ W rfl rfl (by omega) (by omega) HAN.out.made HAN.out.lits (hA8.frm hf (fun _ _ => id)) (hB8.frm hf (fun _ _ => id)))
  have hel : (evalOuts (nodes 12 L inp) l).length = l.length := by simp [evalOuts]
  have x0 := hbc5.at_ 0 rfl
  have x1 := hbc5.at_ 1 rfl
  have x2 := hbc5.at_ 2 rfl
  have y0 := hbd5.at_ 0 rfl
  have y1 := hbd5.at_ 1 rfl
  have y2 := hbd5.at_ 2 rfl
  have HLL := Lib.hid hll
  have HN2 := Lib.hid HN.out
  clear hcode hev hA7 hB7 hA8 hB8 hin hinl hbc5 hbd5 HAN HN hll
  generalize evalOuts (nodes 12 L inp) l = ev at *
  have hH0 : w5.drew.cell? ⟨w2.heap.size, 0, none⟩ = some (.int .i64 12) ∧ w5.drew.cell? ⟨w2.heap.size, 1, none⟩ = some (.slice A L.length c) ∧ w5.drew.cell? ⟨w2.heap.size, 2, none⟩ = some (.slice B l.length d) ∧
    w5.drew.cell? ⟨w4.heap.size, 0, none⟩ = some (.int .i64 12) ∧ w5.drew.cell? ⟨w4.heap.size, 1, none⟩ = some (.slice A2 g.ands.length c2') ∧ w5.drew.cell? ⟨w4.heap.size, 2, none⟩ = some (.slice B2 l'.length d2) := ⟨x0, x1, x2, y0, y1, y2⟩
  have hfd : Frm (fun _ => False) w5 w5.drew := (Frm.refl _ _).drewN 1
  go_wp2_with fail
  have hHeld := hH0
  refine Held.begin (fun w' => w'.cell? ⟨w2.heap.size, 0, none⟩ = some (.int .i64 12) ∧ w'.cell? ⟨w2.heap.size, 1, none⟩ = some (.slice A L.length c) ∧ w'.cell? ⟨w2.heap.size, 2, none⟩ = some (.slice B l.length d) ∧ w'.cell? ⟨w4.heap.size, 0, none⟩ = some (.int .i64 12) ∧ w'.cell? ⟨w4.heap.size, 1, none⟩ = some (.slice A2 g.ands.length c2') ∧ w'.cell? ⟨w4.heap.size, 2, none⟩ = some (.slice B2 l'.length d2)) 20 (by kernel_rfl) ?_
  refine Held.take (i := 0) (oi := ?ob0) (v := ?vb0) ?hib0 (by kernel_rfl) (by kernel_rfl) (by kernel_rfl) (by kernel_rfl) (fun _ _ _ h => h) (Or.inl ⟨?hwb0, ?hyb0⟩) (by assumption) ?restb0
  case hib0 => (simp only [List.getElem?_toArray, List.getElem?_cons_zero]; rfl)
  case hwb0 => rfl
  case hyb0 => (intro w hSw; (try dsimp only at hSw); go_simp; try with_reducible rfl)
  (try simp only [Act.put, List.setIfInBounds_toArray, List.set_cons_zero, List.set_cons_succ])
  refine Held.take (i := 1) (oi := ?ob1) (v := ?vb1) ?hib1 (by kernel_rfl) (by kernel_rfl) (by kernel_rfl) (by kernel_rfl) (fun _ _ _ h => h) (Or.inl ⟨?hwb1, ?hyb1⟩) (by assumption) ?restb1
  case hib1 => (simp only [List.getElem?_toArray, List.getElem?_cons_succ, List.getElem?_cons_zero]; rfl)
  case hwb1 => rfl
  case hyb1 => (intro w hSw; (try dsimp only at hSw); go_simp; try with_reducible rfl)
  (try simp only [Act.put, List.setIfInBounds_toArray, List.set_cons_zero, List.set_cons_succ])
  refine Held.take (i := 2) (oi := ?ob2) (v := ?vb2) ?hib2 (by kernel_rfl) (by kernel_rfl) (by kernel_rfl) (by kernel_rfl) (fun _ _ _ h => h) (Or.inl ⟨?hwb2, ?hyb2⟩) (by assumption) ?restb2
  case hib2 => (simp only [List.getElem?_toArray, List.getElem?_cons_succ, List.getElem?_cons_zero]; rfl)
  case hwb2 => rfl
  case hyb2 => (intro w hSw; (try dsimp only at hSw); go_simp; try with_reducible rfl)
  (try simp only [Act.put, List.setIfInBounds_toArray, List.set_cons_zero, List.set_cons_succ])
  refine Held.next (i := 3) (o := ?ob3) (by kernel_rfl) ?hib3 (fun K hK => ?stb3)
  case hib3 => (simp only [List.getElem?_toArray, List.getElem?_cons_succ, List.getElem?_cons_zero]; rfl)
  go_simp
  (go_at_call 42; refine (K1.out _ hfd).mono ?_; rintro e w6 ⟨rfl, hf6⟩)
  (try go_wp2_with fail)
  refine hK.out _ _ (fun _ => by exact held6 hf6 hHeld) ?_
  clear hK K
  (try simp only [Act.put, List.setIfInBounds_toArray, List.set_cons_zero, List.set_cons_succ])
  have hH2 := held6 hf6 hHeld
  have hfe := hfd.trans hf6
  refine Held.take (i := 4) (oi := ?ob4) (v := ?vb4) ?hib4 (by kernel_rfl) (by kernel_rfl) (by kernel_rfl) (by kernel_rfl) (fun _ _ _ h => h) (Or.inl ⟨?hwb4, ?hyb4⟩) (by assumption) ?restb4
  case hib4 => (simp only [List.getElem?_toArray, List.getElem?_cons_succ, List.getElem?_cons_zero]; rfl)
  case hwb4 => rfl
  case hyb4 => (intro w hSw; (try dsimp only at hSw); go_simp; try with_reducible rfl)
  (try simp only [Act.put, List.setIfInBounds_toArray, List.set_cons_zero, List.set_cons_succ])
  refine Held.take (i := 5) (oi := ?ob5) (v := ?vb5) ?hib5 (by kernel_rfl) (by kernel_rfl) (by kernel_rfl) (by kernel_rfl) (fun _ _ _ h => h) (Or.inl ⟨?hwb5, ?hyb5⟩) (by assumption) ?restb5
  case hib5 => (simp only [List.getElem?_toArray, List.getElem?_cons_succ, List.getElem?_cons_zero]; rfl)
  case hwb5 => rfl
  case hyb5 => (intro w hSw; (try dsimp only at hSw); go_simp; try with_reducible rfl)
  (try simp only [Act.put, List.setIfInBounds_toArray, List.set_cons_zero, List.set_cons_succ])
  refine Held.take (i := 6) (oi := ?ob6) (v := ?vb6) ?hib6 (by kernel_rfl) (by kernel_rfl) (by kernel_rfl) (by kernel_rfl) (fun _ _ _ h => h) (Or.inl ⟨?hwb6, ?hyb6⟩) (by assumption) ?restb6
  case hib6 => (simp only [List.getElem?_toArray, List.getElem?_cons_succ, List.getElem?_cons_zero]; rfl)
  case hwb6 => rfl
  case hyb6 => (intro w hSw; (try dsimp only at hSw); go_simp; try with_reducible rfl)
  (try simp only [Act.put, List.setIfInBounds_toArray, List.set_cons_zero, List.set_cons_succ])
  refine Held.take (i := 7) (oi := ?ob7) (v := ?vb7) ?hib7 (by kernel_rfl) (by kernel_rfl) (by kernel_rfl) (by kernel_rfl) (fun _ _ _ h => h) (Or.inl ⟨?hwb7, ?hyb7⟩) (by assumption) ?restb7
  case hib7 => (simp only [List.getElem?_toArray, List.getElem?_cons_succ, List.getElem?_cons_zero]; rfl)
  case hwb7 => rfl
  case hyb7 => (intro w hSw; (try dsimp only at hSw); go_simp; try with_reducible rfl)
  (try simp only [Act.put, List.setIfInBounds_toArray, List.set_cons_zero, List.set_cons_succ])
  refine Held.take (i := 8) (oi := ?ob8) (v := ?vb8) ?hib8 (by kernel_rfl) (by kernel_rfl) (by kernel_rfl) (by kernel_rfl) (fun _ _ _ h => h) (Or.inl ⟨?hwb8, ?hyb8⟩) (by assumption) ?restb8
  case hib8 => (simp only [List.getElem?_toArray, List.getElem?_cons_succ, List.getElem?_cons_zero]; rfl)
  case hwb8 => rfl
  case hyb8 => (intro w hSw; (try dsimp only at hSw); go_simp; try with_reducible rfl)
  (try simp only [Act.put, List.setIfInBounds_toArray, List.set_cons_zero, List.set_cons_succ])
  refine Held.take (i := 10) (oi := ?ob10) (v := ?vb10) ?hib10 (by kernel_rfl) (by kernel_rfl) (by kernel_rfl) (by kernel_rfl) (fun _ _ _ h => h) (Or.inl ⟨?hwb10, ?hyb10⟩) (by assumption) ?restb10
  case hib10 => (simp only [List.getElem?_toArray, List.getElem?_cons_succ, List.getElem?_cons_zero]; rfl)
  case hwb10 => rfl
  case hyb10 => (intro w hSw; (try dsimp only at hSw); go_simp; try with_reducible rfl)
  (try simp only [Act.put, List.setIfInBounds_toArray, List.set_cons_zero, List.set_cons_succ])
  refine Held.take (i := 11) (oi := ?ob11) (v := ?vb11) ?hib11 (by kernel_rfl) (by kernel_rfl) (by kernel_rfl) (by kernel_rfl) (fun _ _ _ h => h) (Or.inl ⟨?hwb11, ?hyb11⟩) (by assumption) ?restb11
  case hib11 => (simp only [List.getElem?_toArray, List.getElem?_cons_succ, List.getElem?_cons_zero]; rfl)
  case hwb11 => rfl
  case hyb11 => (intro w hSw; (try dsimp only at hSw); go_simp; try with_reducible rfl)
  (try simp only [Act.put, List.setIfInBounds_toArray, List.set_cons_zero, List.set_cons_succ])
  refine Held.next (i := 9) (o := ?ob9) (by kernel_rfl) ?hib9 (fun K hK => ?stb9)
  case hib9 => (simp only [List.getElem?_toArray, List.getElem?_cons_succ, List.getElem?_cons_zero]; rfl)
  go_simp
  (go_at_call 47; refine (K2.out _ hfe).mono ?_; rintro e w7 ⟨V1, v1, rfl, ho1, hf7⟩)
  (try go_wp2_with fail)
  refine hK.out _ _ (fun _ => by exact held6 hf7 hH2) ?_
  clear hK K
  (try simp only [Act.put, List.setIfInBounds_toArray, List.set_cons_zero, List.set_cons_succ])
  have hH3 := held6 hf7 hH2
  have hff := hfe.trans hf7
  refine Held.next (i := 12) (o := ?ob12) (by kernel_rfl) ?hib12 (fun K hK => ?stb12)
  case hib12 => (simp only [List.getElem?_toArray, List.getElem?_cons_succ, List.getElem?_cons_zero]; rfl)
  go_simp
  (go_at_call 47; refine (K3.out _ hff).mono ?_; rintro e w8 ⟨V2, v2, rfl, ho2, hf8⟩)
  (try go_wp2_with fail)
  refine hK.out _ _ (fun _ => by exact held6 hf8 hH3) ?_
  clear hK K
  (try simp only [Act.put, List.setIfInBounds_toArray, List.set_cons_zero, List.set_cons_succ])
  have hH4 := held6 hf8 hH3
  have hfg := hff.trans hf8
  have hq1 := (own_sl ho1).frm hf8 (fun _ _ => id)
  have hq2 := own_sl ho2
  refine Held.next (i := 13) (o := ?ob13) (by kernel_rfl) ?hib13 (fun K hK => ?stb13)
  case hib13 => (simp only [List.getElem?_toArray, List.getElem?_cons_succ, List.getElem?_cons_zero]; rfl)
  go_simp
  (go_at_call 68; refine (sameBools_any2 V1 V2 l.length l'.length v1 v2 _ _ ev _ HLL.out.symm hel (by omega) hq1 hq2).mono ?_; rintro e w9 ⟨rfl, hf9⟩)
  (try go_wp2_with fail)
  refine hK.out _ _ (fun _ => by exact held6 hf9 hH4) ?_
  clear hK K
  (try simp only [Act.put, List.setIfInBounds_toArray, List.set_cons_zero, List.set_cons_succ])
  have hH5 := held6 hf9 hH4
  have hfh := hfg.trans hf9
  refine Held.take (i := 14) (oi := ?ob14) (v := ?vb14) ?hib14 (by kernel_rfl) (by kernel_rfl) (by kernel_rfl) (by kernel_rfl) (fun _ _ _ h => h) (Or.inl ⟨?hwb14, ?hyb14⟩) (by assumption) ?restb14
  case hib14 => (simp only [List.getElem?_toArray, List.getElem?_cons_succ, List.getElem?_cons_zero]; rfl)
  case hwb14 => rfl
  case hyb14 => (intro w hSw; (try dsimp only at hSw); go_simp; try with_reducible rfl)
  (try simp only [Act.put, List.setIfInBounds_toArray, List.set_cons_zero, List.set_cons_succ])
  refine Held.take (i := 15) (oi := ?ob15) (v := ?vb15) ?hib15 (by kernel_rfl) (by kernel_rfl) (by kernel_rfl) (by kernel_rfl) (fun _ _ _ h => h) (Or.inl ⟨?hwb15, ?hyb15⟩) (by assumption) ?restb15
  case hib15 => (simp only [List.getElem?_toArray, List.getElem?_cons_succ, List.getElem?_cons_zero]; rfl)
  case hwb15 => rfl
  case hyb15 => (intro w hSw; (try dsimp only at hSw); go_simp; try with_reducible rfl)
  (try simp only [Act.put, List.setIfInBounds_toArray, List.set_cons_zero, List.set_cons_succ])
  refine Held.take (i := 16) (oi := ?ob16) (v := ?vb16) ?hib16 (by kernel_rfl) (by kernel_rfl) (by kernel_rfl) (by kernel_rfl) (fun _ _ _ h => h) (Or.inl ⟨?hwb16, ?hyb16⟩) (by assumption) ?restb16
  case hib16 => (simp only [List.getElem?_toArray, List.getElem?_cons_succ, List.getElem?_cons_zero]; rfl)
  case hwb16 => rfl
  case hyb16 => (intro w hSw; (try dsimp only at hSw); go_simp; try with_reducible rfl)
  (try simp only [Act.put, List.setIfInBounds_toArray, List.set_cons_zero, List.set_cons_succ])
  refine Held.next (i := 17) (o := ?ob17) (by kernel_rfl) ?hib17 (fun K hK => ?stb17)
  case hib17 => (simp only [List.getElem?_toArray, List.getElem?_cons_succ, List.getElem?_cons_zero]; rfl)
  go_simp
  (go_at_call 69; refine (K4.out _ hfh).mono ?_; rintro e w10 ⟨rfl, hf10⟩)
  (try go_wp2_with fail)
  refine hK.out _ _ (fun _ => by exact held6 hf10 hH5) ?_
  clear hK K
  (try simp only [Act.put, List.setIfInBounds_toArray, List.set_cons_zero, List.set_cons_succ])
  have hH6 := held6 hf10 hH5
  refine Held.take (i := 18) (oi := ?ob18) (v := ?vb18) ?hib18 (by kernel_rfl) (by kernel_rfl) (by kernel_rfl) (by kernel_rfl) (fun _ _ _ h => h) (Or.inl ⟨?hwb18, ?hyb18⟩) (by assumption) ?restb18
  case hib18 => (simp only [List.getElem?_toArray, List.getElem?_cons_succ, List.getElem?_cons_zero]; rfl)
  case hwb18 => rfl
  case hyb18 => (intro w hSw; (try dsimp only at hSw); go_simp; try with_reducible rfl)
  (try simp only [Act.put, List.setIfInBounds_toArray, List.set_cons_zero, List.set_cons_succ])
  refine Held.take (i := 19) (oi := ?ob19) (v := ?vb19) ?hib19 (by kernel_rfl) (by kernel_rfl) (by kernel_rfl) (by kernel_rfl) (fun _ _ _ h => h) (Or.inl ⟨?hwb19, ?hyb19⟩) (by assumption) ?restb19
  case hib19 => (simp only [List.getElem?_toArray, List.getElem?_cons_succ, List.getElem?_cons_zero]; rfl)
  case hwb19 => rfl
  case hyb19 => (intro w hSw; (try dsimp only at hSw); go_simp; try with_reducible rfl)
  (try simp only [Act.put, List.setIfInBounds_toArray, List.set_cons_zero, List.set_cons_succ])
  refine Held.done (by kernel_rfl) ?_ _
  refine NoPanic.normal ?_
  go_wp2_with fail
  go_ret
  exact ⟨rfl, (hf06.trans hfh).trans hf10⟩

set_option maxRecDepth 100000 in
theorem gwl_law (a0 : Option Addr) (len0 cap0 : Nat) (z0 : List Int) (hz0 : z0.length = len0) {w0 : World} (s0 : Sl w0 (fun k => k < w0.heap.size) 1 (.slice a0 len0 cap0) len0 (z0.map (.int .i64))) (_ : ∀ n ∈ z0, (Lit.int .i64 n).wf = true)
    (a1 : Option Addr) (len1 cap1 : Nat) (z1 : List Int) (hz1 : z1.length = len1) (s1 : Sl w0 (fun k => k < w0.heap.size) 1 (.slice a1 len1 cap1) len1 (z1.map (.int .i64))) (_ : ∀ n ∈ z1, (Lit.int .i64 n).wf = true)
    (n : Int) (_ : (Lit.int .i64 n).wf = true) (w : World) (e : w = w0) :
    Calls Tryd.prog 12 #[.slice a0 len0 cap0, .slice a1 len1 cap1, .int .i64 n] w fun e w' => e = .returned (.bool true) ∧ Frm (fun _ => False) w w' := by
  subst e
  by_cases h : len0 ≤ 120
  · by_cases h1 : len1 ≤ 20
    · exact gwl_any a0 len0 cap0 z0 hz0 a1 len1 cap1 z1 hz1 n w s0 s1 h h1
    · have c0 : ¬ (120 : Int) < len0 := by omega
      have c1 : (20 : Int) < len1 := by omega
      go_enter Tryd.func12, Tryd.ntmps12
      go_wp2_with fail
      refine (first8_any w).mono ?_
      rintro e w1 ⟨rfl, hf1⟩
      go_wp2_with fail
      go_ret
      exact ⟨rfl, hf1⟩
  · have c1 : (120 : Int) < len0 := by omega
    go_enter Tryd.func12, Tryd.ntmps12
    go_wp2_with fail
    refine (first8_any w).mono ?_
    rintro e w1 ⟨rfl, hf1⟩
    go_wp2_with fail
    go_ret
    exact ⟨rfl, hf1⟩

end Go.Proofs.YtkjlgamggkencaaDoor
