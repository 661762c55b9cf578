/-
  The contract of the reference's Encode.
-/
import Derived.Test.YtkjlgamggkencaaDoorTseitinR
import Derived.Test.YtkjlgamggkencaaDoorRegion2
namespace Go.Proofs.YtkjlgamggkencaaDoor
open Go.RowKit

theorem cl_form {w w' : World} {e : Ending} {o : Option (List Int)} (h : Cl w w' e o) : ∃ sv, e = .returned (.tuple #[sv, .bool o.isSome]) ∧ ∀ c, o = some c → ∃ A d, sv = .slice A c.length d ∧ Sl w' (fun k => w.heap.size ≤ k) 1 (.slice A c.length d) c.length (c.map (.int .i64)) := by
  cases o with
  | none => exact ⟨_, h, fun c hc => by cases hc⟩
  | some o =>
    obtain ⟨A, c, h1, h2⟩ := h
    exact ⟨_, h1, fun c' hc => by cases hc; exact ⟨A, c, rfl, h2⟩⟩

def rfirsts (N : Int) : List Int := [-N, -N, N]
def rrests (a b : Int) : List (List Int) := [[a], [b], [notL a, notL b]]
theorem rgate_at {N : Nat} (hN : 0 < N) (a b : Int) {k : Nat} (hk : k < 3) : rclC (firstL ((rfirsts (N : Int)).getD k 0)) ((rrests a b).getD k []) = clC ((gate3 (2 * (N : Int)) (a, b)).getD k []) := by
  match k, hk with
  | 0, _ => exact rcl_1 hN a
  | 1, _ => exact rcl_1 hN b
  | 2, _ => exact rcl_3 hN (notL a) (notL b)

/-- three rows in blocks of their own -/
theorem rrests_rows {W : World} {B b1 b2 b3 b4 : Nat} {a b : Int} (h1 : Blk W b1 3 [.int .i64 a]) (h2 : Blk W b2 3 [.int .i64 b]) (h3 : Blk W b3 3 [.int .i64 (notL a), .int .i64 (notL b)])
    (h4 : Blk W b4 22 [.slice (some ⟨b1, 0, none⟩) 1 1, .slice (some ⟨b2, 0, none⟩) 1 1, .slice (some ⟨b3, 0, none⟩) 2 2]) (g1 : B ≤ b1) (g2 : B ≤ b2) (g3 : B ≤ b3) (g4 : B ≤ b4) :
    Rw W (fun k => B ≤ k ∧ k < W.heap.size) (.slice (some ⟨b4, 0, none⟩) 3 3) 3 (rrests a b) := by
  have l1 := h1.lt
  have l2 := h2.lt
  have l3 := h3.lt
  have l4 := h4.lt
  refine ⟨rfl, _, (h4.sl 1 3 rfl).mono (fun k _ e => by omega), ?_⟩
  have e1 := Each.one (c := [a]) ((h1.sl 1 1 rfl).mono (G := fun k => B ≤ k ∧ k < W.heap.size) (fun k _ e => by omega))
  have e2 := Each.one (c := [b]) ((h2.sl 1 1 rfl).mono (G := fun k => B ≤ k ∧ k < W.heap.size) (fun k _ e => by omega))
  have e3 := Each.one (c := [notL a, notL b]) ((h3.sl 1 2 rfl).mono (G := fun k => B ≤ k ∧ k < W.heap.size) (fun k _ e => by omega))
  exact e1.append (e2.append e3)

set_option maxRecDepth 100000 in
set_option maxHeartbeats 8000000 in
theorem rencode_any (n : Nat) (A : Option Addr) (m c : Nat) (B : Option Addr) (k d : Nat) (L : List (Int × Int)) (Af : Option Addr) (lf cf : Nat) (f : List Int) (F H : Nat → Prop) (w : World)
    (hm : L.length = m) (hlf : f.length = lf) (hn : n + m ≤ 8000) (hf4 : lf ≤ 1000) (hr : Right n L) (hfl : ∀ x ∈ f, isL x (n + m) = true)
    (hs : Sl w F 2 (.slice A m c) m (pairs L)) (hff : Sl w H 1 (.slice Af lf cf) lf (f.map (.int .i64))) :
    Calls Tryd.prog 73 #[cv n A m c B k d, .slice Af lf cf] w fun e w' => ∃ v, e = .returned v ∧ IsN w' (fun k => w.heap.size ≤ k) v ((n : Int) + m) (encC n L f) ∧ Frm (fun _ => False) w w' := by
  obtain ⟨i0, hi, hz0, hz1, hz2⟩ := info_parts infoInts
  have HM := Lib.hid hm
  have HLF := Lib.hid hlf
  have HR := Lib.hid hr
  have HFL := Lib.hid hfl
  clear hm hlf hr hfl
  have hfa := (((Frm.refl (fun _ => False) w).alloc (.cells #[.int .i64 n, .slice A m c, .slice B k d] 40)).alloc (.cells #[.int .i64 0, .slice none 0 0] 51))
  have hc0 : Blk ((w.alloc (.cells #[.int .i64 n, .slice A m c, .slice B k d] 40)).alloc (.cells #[.int .i64 0, .slice none 0 0] 51)) w.heap.size 40 [.int .i64 n, .slice A m c, .slice B k d] := (Blk.new _ _ _).alloc _
  have hr0 : Blk ((w.alloc (.cells #[.int .i64 n, .slice A m c, .slice B k d] 40)).alloc (.cells #[.int .i64 0, .slice none 0 0] 51)) (w.heap.size + 1) 51 [.int .i64 0, .slice none 0 0] := Blk.new_at _ _ _ _ (by simp)
  have b0 := hc0.at_ 0 rfl
  have b1 := hc0.at_ 1 rfl
  have wnm : IntKind.i64.wrap ((n : Int) + m) = ((n : Int) + m) := IntWalk.i64_in _ (by omega)
  have hfw2 := hfa.alloc (.cells #[.int .i64 ((n : Int) + m), .slice none 0 0] 51)
  have hc2 := hc0.alloc (.cells #[.int .i64 ((n : Int) + m), .slice none 0 0] 51)
  have hr2 := hr0.alloc (.cells #[.int .i64 ((n : Int) + m), .slice none 0 0] 51)
  have ht2 : Blk (((w.alloc (.cells #[.int .i64 n, .slice A m c, .slice B k d] 40)).alloc (.cells #[.int .i64 0, .slice none 0 0] 51)).alloc (.cells #[.int .i64 ((n : Int) + m), .slice none 0 0] 51)) (w.heap.size + 2) 51 [.int .i64 ((n : Int) + m), .slice none 0 0] := Blk.new_at _ _ _ _ (by simp)
  go_enter Tryd.func73, Tryd.ntmps73
  go_wp2_with fail
  obtain ⟨W3, hW3⟩ : ∃ W3, W3 = ((w.alloc (.cells #[.int .i64 n, .slice A m c, .slice B k d] 40)).alloc (.cells #[.int .i64 0, .slice none 0 0] 51)).alloc (.cells #[.int .i64 ((n : Int) + m), .slice none 0 0] 51) := ⟨_, rfl⟩
  have hsz3 : w.heap.size + 3 ≤ W3.heap.size ∧ W3.heap.size ≤ w.heap.size + 3 := by rw [hW3]; simp
  rw [← hW3] at hfw2 hc2 hr2 ht2
  simp only [← hW3]
  clear hW3 b0 b1 hc0 hr0 hfa
  go_loopw [6] (fun iv wr => ∃ (j K : Nat) (A' : Option Addr) (c' : Nat), j ≤ m ∧ K ≤ 3 * j ∧ iv = .int .i64 (j : Int) ∧ Blk wr (w.heap.size + 2) 51 [.int .i64 ((n : Int) + m), .slice A' K c'] ∧ RwO wr W3.heap.size 22 (.slice A' K c') K (encFew n L j) ∧ Frm (fun g => g = (w.heap.size + 2)) W3 wr) (fun iv _ => m - (intOf iv).toNat)
  case atStart => exact ⟨0, 0, none, 0, by omega, by omega, rfl, ht2, RwO.nil_ _ _ _, Frm.refl _ _⟩
  case round =>
    clear ht2
    obtain ⟨j, K, A', c', hj, hK, rfl, ht4, hO, hfk⟩ := hrel
    have hc4 := hc2.frm hfk (by omega)
    have hfw4 := hfw2.then' hfk (fun g hg e => by omega)
    have b0 := hc4.at_ 0 rfl
    have b1 := hc4.at_ 1 rfl
    by_cases hlt : j < m
    · have hlt2 : j < L.length := by rw [HM.out]; exact hlt
      obtain ⟨b, o, rfl, _, q1, q2⟩ := sl_pair (hs.frm hfw4 (fun _ _ => id)) hlt
      rw [← Nat.add_assoc] at q2
      have hpr := HR.out j (L.getD j (0, 0)) (by simp [List.getD, hlt2])
      have hsu := encFew_succ n L j
      obtain ⟨p, hp⟩ : ∃ p, L.getD j (0, 0) = p := ⟨_, rfl⟩
      rw [hp] at q1 q2 hpr hsu
      clear hp
      obtain ⟨x, y⟩ := p
      simp only at q1 q2 hpr
      have e2N : 2 * ((n : Int) + j + 1) = 2 * ((n + j + 1 : Nat) : Int) := by omega
      have hga : gateC (2 * ((n : Int) + j + 1)) (x, y) = (gate3 (2 * ((n + j + 1 : Nat) : Int)) (x, y)).filterMap clC := by rw [e2N]; rfl
      rw [hga] at hsu
      have hat := fun k hk => rgate_at (N := n + j + 1) (by omega) x y (k := k) hk
      have hftk := fun k (hk : k < 3) => filterMap_take (ls := gate3 (2 * ((n + j + 1 : Nat) : Int)) (x, y)) (k := k) hk
      have hg3 : (gate3 (2 * ((n + j + 1 : Nat) : Int)) (x, y)).length = 3 := rfl
      generalize gate3 (2 * ((n + j + 1 : Nat) : Int)) (x, y) = G3 at *
      have HSU := Lib.hid hsu
      have HAT := Lib.hid hat
      have HFT := Lib.hid hftk
      have HG3 := Lib.hid hg3
      clear hsu hat hftk e2N hga hg3
      have hxn : notL x ≤ 100000 ∧ 0 ≤ notL x := by unfold notL; split <;> omega
      have hyn : notL y ≤ 100000 ∧ 0 ≤ notL y := by unfold notL; split <;> omega
      have hb1 := bits_xor_one x (by omega) (by omega)
      have hb2 := bits_xor_one y (by omega) (by omega)
      have j0 : (0 : Int) ≤ j := by omega
      have j1 : (j : Int) < m := by omega
      have wa : IntKind.i64.wrap ((n : Int) + j) = (n : Int) + j := IntWalk.i64_in _ (by omega)
      obtain ⟨N, hN⟩ : ∃ N : Int, N = (n : Int) + j + 1 := ⟨_, rfl⟩
      have hNr : ((n + j + 1 : Nat) : Int) = N := by omega
      rw [hNr] at HAT
      have wc' : IntKind.i64.wrap (-N) = -N := IntWalk.i64_in _ (by omega)
      have wb : IntKind.i64.wrap ((n : Int) + j + 1) = N := by rw [hN]; exact IntWalk.i64_in _ (by omega)
      have hNN : 0 < N ∧ N ≤ 8000 := by omega
      clear hNr
      have HN := Lib.hid hN
      clear hN
      obtain ⟨W8, hW8⟩ : ∃ W8, W8 = ((((wr.alloc (.cells #[.int .i64 (-N), .int .i64 (-N), .int .i64 N] 3)).alloc (.cells #[.int .i64 x] 3)).alloc (.cells #[.int .i64 y] 3)).alloc (.cells #[.int .i64 (notL x), .int .i64 (notL y)] 3)).alloc (.cells #[.slice (some ⟨wr.heap.size + 1, 0, none⟩) 1 1, .slice (some ⟨wr.heap.size + 2, 0, none⟩) 1 1, .slice (some ⟨wr.heap.size + 3, 0, none⟩) 2 2] 22) := ⟨_, rfl⟩
      have hal : Frm (fun _ => False) wr W8 := by rw [hW8]; exact (((((Frm.refl _ _).alloc _).alloc _).alloc _).alloc _).alloc _
      have hs8 : wr.heap.size + 5 ≤ W8.heap.size ∧ W8.heap.size ≤ wr.heap.size + 5 := by rw [hW8]; simp
      have hF8 : Blk W8 wr.heap.size 3 ((rfirsts N).map (.int .i64)) := by rw [hW8]; exact ((((Blk.new _ _ _).alloc _).alloc _).alloc _).alloc _
      have hR8 : Rw W8 (fun k => wr.heap.size + 1 ≤ k ∧ k < W8.heap.size) (.slice (some ⟨wr.heap.size + 4, 0, none⟩) 3 3) 3 (rrests x y) := by
        refine rrests_rows (b1 := wr.heap.size + 1) (b2 := wr.heap.size + 2) (b3 := wr.heap.size + 3) ?_ ?_ ?_ ?_ (by omega) (by omega) (by omega) (by omega)
        · rw [hW8]; exact (((Blk.new_at _ _ _ _ (by simp)).alloc _).alloc _).alloc _
        · rw [hW8]; exact ((Blk.new_at _ _ _ _ (by simp)).alloc _).alloc _
        · rw [hW8]; exact (Blk.new_at _ _ _ _ (by simp)).alloc _
        · rw [hW8]; exact Blk.new_at _ _ _ _ (by simp)
      have ht8 := ht4.frm hal id
      have hO8 := hO.frm hal (fun _ _ => id)
      have hOl : ∀ g, (Value.slice A' K c').ownBlock = some g → W3.heap.size ≤ g ∧ g < wr.heap.size := by intro g hg; obtain ⟨_, vs', hown', _⟩ := hO; exact hown'.lt g hg
      have hszk := hfk.size
      have hqlt := ht4.lt
      go_wp2_with fail
      obtain ⟨wo, rfl⟩ : ∃ wo, wo = wr := ⟨_, rfl⟩
      go_loopw [12] (fun iv wr => ∃ (kk K2 : Nat) (A2 : Option Addr) (c2 : Nat), kk ≤ 3 ∧ K2 ≤ 3 * j + kk ∧ iv = .int .i64 (kk : Int) ∧ Blk wr (w.heap.size + 2) 51 [.int .i64 ((n : Int) + m), .slice A2 K2 c2] ∧ RwO wr W3.heap.size 22 (.slice A2 K2 c2) K2 (encFew n L j ++ (G3.take kk).filterMap clC) ∧ (∀ g, (Value.slice A2 K2 c2).ownBlock = some g → (Value.slice A' K c').ownBlock = some g ∨ W8.heap.size ≤ g) ∧ Frm (fun g => g = (w.heap.size + 2) ∨ (Value.slice A' K c').ownBlock = some g) W8 wr) (fun iv _ => 3 - (intOf iv).toNat)
      case atStart =>
        rw [← hW8]
        exact ⟨0, K, A', c', by omega, by omega, rfl, ht8, by simpa using hO8, fun g hg => .inl hg, Frm.refl _ _⟩
      case round =>
        clear ht8 hO8 hW8 b0 b1 q1 q2
        obtain ⟨kk, K2, A2, c2, hkk, hK2, rfl, ht9, hO9, hO9l, hfz⟩ := hrel
        have hs9 := hfz.size
        have hb9 : ∀ g, wo.heap.size ≤ g → ¬ (g = (w.heap.size + 2) ∨ (Value.slice A' K c').ownBlock = some g) := fun g hg h => by rcases h with h | h; omega; have := hOl g h; omega
        have hF9 := hF8.frm hfz (hb9 _ (by omega))
        have hR9 := hR8.frm hfz (fun g hg => hb9 g (by omega))
        by_cases hk3 : kk < 3
        · have hat := HAT.out kk hk3
          have hft := HFT.out kk hk3
          rw [← hat] at hft
          have HFK := Lib.hid hft
          clear hat hft
          obtain ⟨fi, hfi⟩ : ∃ fi, fi = (rfirsts N).getD kk 0 := ⟨_, rfl⟩
          have hcf : wr.cell? ⟨wo.heap.size, kk, none⟩ = some (.int .i64 fi) := hF9.at_ kk (by rw [List.getElem?_map, hfi]; simp [List.getD, rfirsts, show kk < 3 from hk3])
          obtain ⟨bb, oo, B2, d2, e1, _, hcr, hrow⟩ := hR9.at_ hk3
          cases e1
          obtain ⟨rl, hrl⟩ : ∃ rl, rl = (rrests x y).getD kk [] := ⟨_, rfl⟩
          have hrlx : rl.length ≤ 2 ∧ ∀ z ∈ rl, 0 ≤ z ∧ z < 9223372036854775808 := by
            rw [hrl]
            match kk, hk3 with
            | 0, _ => exact ⟨by simp [rrests], fun z hz => by simp [rrests] at hz; subst hz; omega⟩
            | 1, _ => exact ⟨by simp [rrests], fun z hz => by simp [rrests] at hz; subst hz; omega⟩
            | 2, _ => exact ⟨by simp [rrests], fun z hz => by simp [rrests] at hz; rcases hz with rfl | rfl <;> omega⟩
          rw [← hfi, ← hrl] at HFK
          rw [← hrl] at hrow hcr
          clear hfi hrl
          rw [Nat.zero_add] at hcr
          have HC := Lib.hid (fun (W : World) (hf : Frm (fun _ => False) wr W) => rclause_any fi B2 rl.length d2 _ rl W rfl (by omega) hrlx.2 (hrow.frm hf (fun _ _ => id)))
          clear hrow hrlx
          generalize rl.length = rn at *
          generalize rclC (firstL fi) rl = r at *
          have kk0 : (0 : Int) ≤ kk := by omega
          have kk1 : (kk : Int) < 3 := by omega
          have hH0 : wr.drew.cell? ⟨wo.heap.size, kk, none⟩ = some (.int .i64 fi) ∧ wr.drew.cell? ⟨wo.heap.size + 4, kk, none⟩ = some (.slice B2 rn d2) := ⟨hcf, hcr⟩
          have hdr : Frm (fun _ => False) wr wr.drew := (Frm.refl _ _).drew
          go_wp2_with fail
          have hHeld := hH0
          refine Held.begin (fun w' => w'.cell? ⟨wo.heap.size, kk, none⟩ = some (.int .i64 fi) ∧ w'.cell? ⟨wo.heap.size + 4, kk, none⟩ = some (.slice B2 rn d2)) 13 (by kernel_rfl) ?_
          refine Held.take (i := 0) (oi := ?oa0) (v := ?va0) ?hia0 (by kernel_rfl) (by kernel_rfl) (by kernel_rfl) (by kernel_rfl) (fun _ _ _ h => h) (Or.inl ⟨?hwa0, ?hya0⟩) (by assumption) ?resta0
          case hia0 => (simp only [List.getElem?_toArray, List.getElem?_cons_zero]; rfl)
          case hwa0 => rfl
          case hya0 => (intro w hSw; (try dsimp only at hSw); go_simp; try with_reducible rfl)
          (try simp only [Act.put, List.setIfInBounds_toArray, List.set_cons_zero, List.set_cons_succ])
          refine Held.take (i := 1) (oi := ?oa1) (v := ?va1) ?hia1 (by kernel_rfl) (by kernel_rfl) (by kernel_rfl) (by kernel_rfl) (fun _ _ _ h => h) (Or.inl ⟨?hwa1, ?hya1⟩) (by assumption) ?resta1
          case hia1 => (simp only [List.getElem?_toArray, List.getElem?_cons_succ, List.getElem?_cons_zero]; rfl)
          case hwa1 => rfl
          case hya1 => (intro w hSw; (try dsimp only at hSw); go_simp; try with_reducible rfl)
          (try simp only [Act.put, List.setIfInBounds_toArray, List.set_cons_zero, List.set_cons_succ])
          refine Held.take (i := 2) (oi := ?oa2) (v := ?va2) ?hia2 (by kernel_rfl) (by kernel_rfl) (by kernel_rfl) (by kernel_rfl) (fun _ _ _ h => h) (Or.inl ⟨?hwa2, ?hya2⟩) (by assumption) ?resta2
          case hia2 => (simp only [List.getElem?_toArray, List.getElem?_cons_succ, List.getElem?_cons_zero]; rfl)
          case hwa2 => rfl
          case hya2 => (intro w hSw; (try dsimp only at hSw); go_simp; try with_reducible rfl)
          (try simp only [Act.put, List.setIfInBounds_toArray, List.set_cons_zero, List.set_cons_succ])
          refine Held.take (i := 3) (oi := ?oa3) (v := ?va3) ?hia3 (by kernel_rfl) (by kernel_rfl) (by kernel_rfl) (by kernel_rfl) (fun _ _ _ h => h) (Or.inl ⟨?hwa3, ?hya3⟩) (by assumption) ?resta3
          case hia3 => (simp only [List.getElem?_toArray, List.getElem?_cons_succ, List.getElem?_cons_zero]; rfl)
          case hwa3 => rfl
          case hya3 => (intro w hSw; (try dsimp only at hSw); go_simp; try with_reducible rfl)
          (try simp only [Act.put, List.setIfInBounds_toArray, List.set_cons_zero, List.set_cons_succ])
          refine Held.take (i := 4) (oi := ?oa4) (v := ?va4) ?hia4 (by kernel_rfl) (by kernel_rfl) (by kernel_rfl) (by kernel_rfl) (fun _ _ _ h => h) (Or.inl ⟨?hwa4, ?hya4⟩) (by assumption) ?resta4
          case hia4 => (simp only [List.getElem?_toArray, List.getElem?_cons_succ, List.getElem?_cons_zero]; rfl)
          case hwa4 => rfl
          case hya4 => (intro w hSw; (try dsimp only at hSw); go_simp; try with_reducible rfl)
          (try simp only [Act.put, List.setIfInBounds_toArray, List.set_cons_zero, List.set_cons_succ])
          refine Held.take (i := 5) (oi := ?oa5) (v := ?va5) ?hia5 (by kernel_rfl) (by kernel_rfl) (by kernel_rfl) (by kernel_rfl) (fun _ _ _ h => h) (Or.inl ⟨?hwa5, ?hya5⟩) (by assumption) ?resta5
          case hia5 => (simp only [List.getElem?_toArray, List.getElem?_cons_succ, List.getElem?_cons_zero]; rfl)
          case hwa5 => rfl
          case hya5 => (intro w hSw; (try dsimp only at hSw); go_simp; try with_reducible rfl)
          (try simp only [Act.put, List.setIfInBounds_toArray, List.set_cons_zero, List.set_cons_succ])
          refine Held.take (i := 6) (oi := ?oa6) (v := ?va6) ?hia6 (by kernel_rfl) (by kernel_rfl) (by kernel_rfl) (by kernel_rfl) (fun _ _ _ h => h) (Or.inl ⟨?hwa6, ?hya6⟩) (by assumption) ?resta6
          case hia6 => (simp only [List.getElem?_toArray, List.getElem?_cons_succ, List.getElem?_cons_zero]; rfl)
          case hwa6 => rfl
          case hya6 => (intro w hSw; (try dsimp only at hSw); go_simp; try with_reducible rfl)
          (try simp only [Act.put, List.setIfInBounds_toArray, List.set_cons_zero, List.set_cons_succ])
          refine Held.take (i := 7) (oi := ?oa7) (v := ?va7) ?hia7 (by kernel_rfl) (by kernel_rfl) (by kernel_rfl) (by kernel_rfl) (fun _ _ _ h => h) (Or.inl ⟨?hwa7, ?hya7⟩) (by assumption) ?resta7
          case hia7 => (simp only [List.getElem?_toArray, List.getElem?_cons_succ, List.getElem?_cons_zero]; rfl)
          case hwa7 => rfl
          case hya7 => (intro w hSw; (try dsimp only at hSw); go_simp; try with_reducible rfl)
          (try simp only [Act.put, List.setIfInBounds_toArray, List.set_cons_zero, List.set_cons_succ])
          refine Held.next (i := 8) (o := ?oa8) (by kernel_rfl) ?hia8 (fun K hK => ?sta8)
          case hia8 => (simp only [List.getElem?_toArray, List.getElem?_cons_succ, List.getElem?_cons_zero]; rfl)
          go_simp
          (go_at_call 122; refine (HC.out _ hdr).mono ?_; rintro e w5 ⟨hcl, hf5⟩; obtain ⟨sv, rfl, hsv⟩ := cl_form hcl)
          (try go_wp2_with fail)
          refine hK.out _ _ (fun _ => by exact ⟨hf5.cell hHeld.1 id, hf5.cell hHeld.2 id⟩) ?_
          clear hK K
          (try simp only [Act.put, List.setIfInBounds_toArray, List.set_cons_zero, List.set_cons_succ])
          have hH2 := And.intro (hf5.cell hHeld.1 id) (hf5.cell hHeld.2 id)
          refine Held.take (i := 9) (oi := ?oa9) (v := ?va9) ?hia9 (by kernel_rfl) (by kernel_rfl) (by kernel_rfl) (by kernel_rfl) (fun _ _ _ h => h) (Or.inl ⟨?hwa9, ?hya9⟩) (by assumption) ?resta9
          case hia9 => (simp only [List.getElem?_toArray, List.getElem?_cons_succ, List.getElem?_cons_zero]; rfl)
          case hwa9 => rfl
          case hya9 => (intro w hSw; (try dsimp only at hSw); go_simp; try with_reducible rfl)
          (try simp only [Act.put, List.setIfInBounds_toArray, List.set_cons_zero, List.set_cons_succ])
          refine Held.take (i := 10) (oi := ?oa10) (v := ?va10) ?hia10 (by kernel_rfl) (by kernel_rfl) (by kernel_rfl) (by kernel_rfl) (fun _ _ _ h => h) (Or.inl ⟨?hwa10, ?hya10⟩) (by assumption) ?resta10
          case hia10 => (simp only [List.getElem?_toArray, List.getElem?_cons_succ, List.getElem?_cons_zero]; rfl)
          case hwa10 => rfl
          case hya10 => (intro w hSw; (try dsimp only at hSw); go_simp; try with_reducible rfl)
          (try simp only [Act.put, List.setIfInBounds_toArray, List.set_cons_zero, List.set_cons_succ])
          refine Held.take (i := 11) (oi := ?oa11) (v := ?va11) ?hia11 (by kernel_rfl) (by kernel_rfl) (by kernel_rfl) (by kernel_rfl) (fun _ _ _ h => h) (Or.inl ⟨?hwa11, ?hya11⟩) (by assumption) ?resta11
          case hia11 => (simp only [List.getElem?_toArray, List.getElem?_cons_succ, List.getElem?_cons_zero]; rfl)
          case hwa11 => rfl
          case hya11 => (intro w hSw; (try dsimp only at hSw); go_simp; try with_reducible rfl)
          (try simp only [Act.put, List.setIfInBounds_toArray, List.set_cons_zero, List.set_cons_succ])
          refine Held.take (i := 12) (oi := ?oa12) (v := ?va12) ?hia12 (by kernel_rfl) (by kernel_rfl) (by kernel_rfl) (by kernel_rfl) (fun _ _ _ h => h) (Or.inl ⟨?hwa12, ?hya12⟩) (by assumption) ?resta12
          case hia12 => (simp only [List.getElem?_toArray, List.getElem?_cons_succ, List.getElem?_cons_zero]; rfl)
          case hwa12 => rfl
          case hya12 => (intro w hSw; (try dsimp only at hSw); go_simp; try with_reducible rfl)
          (try simp only [Act.put, List.setIfInBounds_toArray, List.set_cons_zero, List.set_cons_succ])
          refine Held.next (i := 13) (o := ?oa13) (by kernel_rfl) ?hia13 (fun K hK => ?sta13)
          case hia13 => (simp only [List.getElem?_toArray, List.getElem?_cons_succ, List.getElem?_cons_zero]; rfl)
          go_simp
          refine hK.out _ _ (fun h => absurd h (by decide)) ?_
          clear hK K
          (try simp only [Act.put, List.setIfInBounds_toArray, List.set_cons_zero, List.set_cons_succ])
          refine Held.done (by kernel_rfl) ?_ _
          refine NoPanic.normal ?_
          have hf95 := hdr.trans hf5
          have ht5 := ht9.frm hf95 id
          have hO5 := hO9.frm hf95 (fun _ _ => id)
          have hfz5 := hfz.trans hf95.any
          have hs5 := hf95.size
          have HSV := Lib.hid hsv
          clear hsv hcl HC hH0 hH2 hHeld hcf hcr
          cases r with
          | none =>
            clear HSV
            simp only [Option.isSome_none]
            go_wp2_with fail
            go_roundw
            case rel => exact ⟨kk + 1, K2, A2, c2, by omega, by omega, by go_num, ht5, by rw [HFK.out]; simpa using hO5, hO9l, hfz5⟩
            case measure => simp [intOf]; omega
          | some r =>
            obtain ⟨A3, c3, rfl, hs3⟩ := HSV.out r rfl
            clear HSV
            obtain ⟨h0, vs, hown, hea⟩ := hO5
            have hOl9 : ∀ g, (Value.slice A2 K2 c2).ownBlock = some g → W3.heap.size ≤ g ∧ g < wr.heap.size := by intro g hg; obtain ⟨_, vs', hown', _⟩ := hO9; exact hown'.lt g hg
            have t1 := ht5.at_ 1 rfl
            simp only [Option.isSome_some]
            go_wp2_with (at_builtin; refine wpList_append_own_at _ rfl (.tmp 83) (.tmp 85) 49 rfl W3.heap.size 22 i0 (.slice none 0 0) 1 24 Tryd.underlying49 hi hz0 hz1 hz2 rfl (by decide) _ _ _ rfl (hown.alloc _) ⟨w5.heap.size, 0, none⟩ 1 1 [.slice A3 r.length c3] rfl rfl (cell_one_new _ _ _) ?c2 ?c3 ?c4 ?c5 ?_)
            case c2 => intro x hx; simp at hx; subst hx; rfl
            case c3 => unfold maxLen; omega
            case c4 => omega
            case c5 => simp; omega
            intro v' w6 hown6 hgrow _ h6
            have hal6 := (Frm.refl (fun _ => False) w5).alloc (.cells #[.slice A3 r.length c3] 22)
            have hmore := RwO.more h0 (hea.frm hal6 (fun _ _ => id)) (rfl : [r].length = 1) ((Each.one hs3).frm hal6 (fun _ _ => id)) (fun g _ hg => ⟨by simp at hg; omega, fun e => by have := hOl9 g e; simp at hg; omega⟩) hown6 hgrow (h6.imp id fun h => h.trans (by simp))
            have hgr : Frm (fun g => (Value.slice A2 K2 c2).ownBlock = some g) w5 w6 := (hal6.any).grown hgrow (fun g hg hlt => hg)
            have hb6 := ht5.frm hgr (fun h => by have := (hOl9 _ h).1; omega)
            have hfz6 : Frm (fun g => g = (w.heap.size + 2) ∨ (Value.slice A' K c').ownBlock = some g) W8 w6 := hfz5.trans' hgr (fun g _ h => h) (fun g hg h => by rcases hO9l g h with h | h; exact .inr h; omega)
            have hl6 : ∀ g, v'.ownBlock = some g → (Value.slice A' K c').ownBlock = some g ∨ W8.heap.size ≤ g := by
              intro g hg
              rcases h6 with h | h
              · exact hO9l g (h ▸ hg)
              · rw [h] at hg; simp at hg; right; omega
            obtain ⟨A6, c6, rfl, _⟩ := hmore.form
            have g1 := hb6.at_ 1 rfl
            have gf := hb6.frozen 1
            have hset : Frm (fun g => g = (w.heap.size + 2)) w6 (w6.setCell ⟨(w.heap.size + 2), 1, none⟩ (.slice A6 (K2 + 1) c6)) := (Frm.refl (fun g => g = (w.heap.size + 2)) w6).setCell (p := ⟨(w.heap.size + 2), 1, none⟩) (fun _ => rfl) _
            have hb7 := hb6.set_ 1 (.slice A6 (K2 + 1) c6)
            have hO7 := hmore.frm hset (fun g hg e => by omega)
            have hfz7 := hfz6.trans' hset (fun _ _ h => h) (fun g _ h => .inl h)
            clear hgrow hown hown6 hea hal6 h6 t1 hmore hb6 hfz6 hset hgr hOl9
            go_wp2_with fail
            go_roundw
            case rel => exact ⟨kk + 1, K2 + 1, A6, c6, by omega, by omega, by go_num, hb7, by rw [HFK.out]; simpa using hO7, hl6, hfz7⟩
            case measure => simp [intOf]; omega
        · obtain rfl : kk = 3 := by omega
          rw [List.take_of_length_le (by rw [HG3.out]; exact Nat.le_refl _), ← HSU.out] at hO9
          have hfk9 : Frm (fun g => g = (w.heap.size + 2)) W3 wr := (hfk.trans hal.any).trans' hfz (fun _ _ h => h) (fun g hg h => by rcases h with h | h; exact h; have := hOl g h; omega)
          go_wp2_with fail
          go_roundw
          case rel => exact ⟨j + 1, K2, A2, c2, by omega, by omega, by go_num, ht9, hO9, hfk9⟩
          case measure => simp [intOf]; omega
    · have hjm : m = j := by omega
      subst hjm
      have hE : encFew n L m = encFew n L L.length := by rw [HM.out]
      rw [hE] at hO
      have hKK : K ≤ 24000 := by omega
      have hec : encC n L f = encFew n L L.length ++ forceC f := rfl
      have HEC := Lib.hid hec
      clear hec hE hs hlt hj
      generalize encFew n L L.length = EF at *
      obtain ⟨W4, rfl⟩ : ∃ W4, W4 = wr := ⟨_, rfl⟩
      have hs34 := hfk.size
      go_wp2_with fail
      go_loopw [15] (fun iv wr => ∃ (j K : Nat) (A' : Option Addr) (c' : Nat), j ≤ lf ∧ K ≤ 24000 + j ∧ iv = .int .i64 (j : Int) ∧ Blk wr (w.heap.size + 2) 51 [.int .i64 ((n : Int) + m), .slice A' K c'] ∧ RwO wr W3.heap.size 22 (.slice A' K c') K (EF ++ forceC (f.take j)) ∧ Frm (fun g => g = (w.heap.size + 2)) W3 wr) (fun iv _ => lf - (intOf iv).toNat)
      case atStart => exact ⟨0, K, A', c', by omega, by omega, rfl, ht4, by simpa [forceC] using hO, hfk⟩
      case round =>
        clear ht4 hO hfk hc4 hfw4 hKK hs34 b0 b1
        obtain ⟨j, K, A', c', hj, hK, rfl, ht4, hO, hfk⟩ := hrel
        have hfw4 := hfw2.then' hfk (fun g hg e => by omega)
        have hszk := hfk.size
        by_cases hlt : j < lf
        · have hlt2 : j < f.length := by rw [HLF.out]; exact hlt
          obtain ⟨b, o, u, rfl, _, hu, hcell⟩ := (hff.frm hfw4 (fun _ _ => id)).at_ hlt
          obtain rfl := at_getD hu
          have hx := isL_iff.1 (HFL.out (f.getD j 0) (by simp [List.getD, hlt2]))
          have hsu := forceFew_succ hlt2
          rw [← rcl_0] at hsu
          clear hu
          generalize f.getD j 0 = x at *
          have HSU := Lib.hid hsu
          clear hsu
          have j0 : (0 : Int) ≤ j := by omega
          have j1 : (j : Int) < lf := by omega
          have hal := (Frm.refl (fun _ => False) wr).alloc (.cells #[.int .i64 x] 3)
          have hbp : Blk (wr.alloc (.cells #[.int .i64 x] 3)) wr.heap.size 3 [.int .i64 x] := Blk.new _ _ _
          have HC := Lib.hid (rclause_any 0 (some ⟨wr.heap.size, 0, none⟩) 1 1 _ [x] _ rfl (by omega) (by intro y hy; simp at hy; omega) (hbp.sl 1 1 rfl))
          go_wp2_with fail
          refine HC.out.mono ?_
          generalize rclC (firstL 0) [x] = r at *
          rintro e w5 ⟨hcl, hf5⟩
          have hal5 := hal.trans hf5
          have ht5 := ht4.frm hal5 id
          have hfk5 := hfk.trans hal5.any
          cases r with
          | none =>
            obtain rfl := hcl
            have hO5 := hO.frm hal5 (fun _ _ => id)
            clear HC hO
            go_wp2_with fail
            go_roundw
            case rel => exact ⟨j + 1, K, A', c', by omega, by omega, by go_num, ht5, by rw [HSU.out]; simpa using hO5, hfk5⟩
            case measure => simp [intOf]; omega
          | some r =>
            obtain ⟨A2, c2, rfl, hs2⟩ := hcl
            have hO5 := hO.frm hal5 (fun _ _ => id)
            obtain ⟨h0, vs, hown, hea⟩ := hO5
            have hOl : ∀ g, (Value.slice A' K c').ownBlock = some g → W3.heap.size ≤ g ∧ g < wr.heap.size := by intro g hg; obtain ⟨_, vs', hown', _⟩ := hO; exact hown'.lt g hg
            have hsz5 := hal5.size
            have b1 := ht5.at_ 1 rfl
            clear HC hO
            go_wp2_with (at_builtin; refine wpList_append_own_at _ rfl (.tmp 105) (.tmp 107) 49 rfl W3.heap.size 22 i0 (.slice none 0 0) 1 24 Tryd.underlying49 hi hz0 hz1 hz2 rfl (by decide) _ _ _ rfl (hown.alloc _) ⟨w5.heap.size, 0, none⟩ 1 1 [.slice A2 r.length c2] rfl rfl (cell_one_new _ _ _) ?c2 ?c3 ?c4 ?c5 ?_)
            case c2 => intro x hx; simp at hx; subst hx; rfl
            case c3 => unfold maxLen; omega
            case c4 => omega
            case c5 => simp; omega
            intro v' w6 hown6 hgrow _ h6
            have hal6 := (Frm.refl (fun _ => False) w5).alloc (.cells #[.slice A2 r.length c2] 22)
            have hmore := RwO.more h0 (hea.frm hal6 (fun _ _ => id)) (rfl : [r].length = 1) ((Each.one hs2).frm hal6 (fun _ _ => id)) (fun g _ hg => ⟨by simp at hg; omega, fun e => by have := hOl g e; simp at hg; omega⟩) hown6 hgrow (h6.imp id fun h => h.trans (by simp))
            have hgr : Frm (fun g => W3.heap.size ≤ g) w5 w6 := (hal6.any).grown hgrow (fun g hg hlt => (hOl g hg).1)
            have hb6 := ht5.frm hgr (by omega)
            have hfk6 : Frm (fun g => g = (w.heap.size + 2)) W3 w6 := hfk5.trans' hgr (fun g _ h => h) (fun g hg h => by omega)
            obtain ⟨A6, c6, rfl, _⟩ := hmore.form
            have g1 := hb6.at_ 1 rfl
            have gf := hb6.frozen 1
            have hset : Frm (fun g => g = (w.heap.size + 2)) w6 (w6.setCell ⟨(w.heap.size + 2), 1, none⟩ (.slice A6 (K + 1) c6)) := (Frm.refl (fun g => g = (w.heap.size + 2)) w6).setCell (p := ⟨(w.heap.size + 2), 1, none⟩) (fun _ => rfl) _
            have hb7 := hb6.set_ 1 (.slice A6 (K + 1) c6)
            have hO7 := hmore.frm hset (fun g hg e => by omega)
            have hfk7 := hfk6.trans hset
            clear hgrow hown hown6 hea hal6 h6 b1 hmore hb6 hfk6 hset hgr
            go_wp2_with fail
            go_roundw
            case rel => exact ⟨j + 1, K + 1, A6, c6, by omega, by omega, by go_num, hb7, by rw [HSU.out]; simpa using hO7, hfk7⟩
            case measure => simp [intOf]; omega
        · have hjlf : lf = j := by omega
          subst hjlf
          rw [List.take_of_length_le (by rw [HLF.out]; exact Nat.le_refl _), ← HEC.out] at hO
          have hKl := hO.1
          have hRW := hO.rw
          have hr5 := hr2.frm hfk (by omega)
          have r0 := hr5.at_ 0 rfl
          have r1 := hr5.at_ 1 rfl
          have z0 := hr5.frozen 0
          have z1 := hr5.frozen 1
          have b0 := ht4.at_ 0 rfl
          have b1 := ht4.at_ 1 rfl
          have hf3 := ((Frm.refl (fun g => g = w.heap.size + 1) wr).setCell (p := ⟨w.heap.size + 1, 0, none⟩) (fun _ => rfl) (.int .i64 ((n : Int) + m))).setCell (p := ⟨w.heap.size + 1, 1, none⟩) (fun _ => rfl) (.slice A' K c')
          have hb3 := (hr5.set_ 0 (.int .i64 ((n : Int) + m))).set_ 1 (.slice A' K c')
          have d0 := hb3.at_ 0 rfl
          have d1 := hb3.at_ 1 rfl
          have hfin := hfw4.then' hf3 (fun g hg e => by omega)
          have hRW2 := (hRW.frm hf3 (fun g hg e => by omega)).mono (G := fun k => w.heap.size ≤ k) (fun g _ h => by omega)
          clear hO hr5 hb3 hf3 hlt hj
          subst hKl
          go_wp2_with fail
          refine bodyPost_ret (v := nv ((n : Int) + m) A' (encC n L f).length c') (by simp [results, Tryd.results73, go_sem, d0, d1, nv]) rfl ⟨_, rfl, ⟨A', c', rfl, hRW2⟩, hfin⟩

end Go.Proofs.YtkjlgamggkencaaDoor
