/-
  tseitin.Encode of what is not right: a circuit, a literal.
-/
import Derived.Test.YtkjlgamggkencaaDoorTseitinE
import Derived.Test.YtkjlgamggkencaaDoorSee
import Derived.Test.YtkjlgamggkencaaDoorRegion2
namespace Go.Proofs.YtkjlgamggkencaaDoor
open Go.RowKit

set_option maxRecDepth 100000 in
set_option maxHeartbeats 1000000 in
theorem encode_bad (Ls : List Nat) (P : Nat → Addr) (h102 : 102 ∈ Ls) (h104 : 104 ∈ Ls) (N : Int) (A : Option Addr) (m c : Nat) (B : Option Addr) (k d : Nat) (L : List (Int × Int)) (l : List Int) (Af : Option Addr) (lf cf : Nat) (F G : Nat → Prop) (w : World) (hm : L.length = m) (hk : l.length = k)
    (hm4 : m ≤ 100000) (hk4 : k ≤ 100000) (hs : Sl w F 2 (.slice A m c) m (pairs L)) (ho : Sl w G 1 (.slice B k d) k (l.map (.int .i64))) (hS : Sents Ls P w) (hbad : ckCode N L l ≠ 0) :
    Calls Tryd.prog 45 #[cv N A m c B k d, .slice Af lf cf] w fun e w' => e = .returned (.tuple #[nv 0 none 0 0, PE P (ckCode N L l)]) ∧ Frm (fun _ => False) w w' := by
  have hf0 := ((Frm.refl (fun _ => False) w).alloc (.cells #[.int .i64 N, .slice A m c, .slice B k d] 40)).alloc (.cells #[.int .i64 0, .slice none 0 0] 51)
  have hb0 : Blk ((w.alloc (.cells #[.int .i64 N, .slice A m c, .slice B k d] 40)).alloc (.cells #[.int .i64 0, .slice none 0 0] 51)) w.heap.size 40 [.int .i64 N, .slice A m c, .slice B k d] := (Blk.new _ _ _).alloc _
  have hr0 : Blk ((w.alloc (.cells #[.int .i64 N, .slice A m c, .slice B k d] 40)).alloc (.cells #[.int .i64 0, .slice none 0 0] 51)) (w.heap.size + 1) 51 [.int .i64 0, .slice none 0 0] := Blk.new_at _ _ _ _ (by simp)
  have b00 := hb0.at_ 0 rfl
  have b01 := hb0.at_ 1 rfl
  have b02 := hb0.at_ 2 rfl
  have HCK := Lib.hid (check_any Ls P h102 h104 N A m c B k d L l F G _ hm hk hm4 hk4 (hs.frm hf0 (fun _ _ => id)) (ho.frm hf0 (fun _ _ => id)) (fun _ => hS.frm hf0))
  have hpe := PE_pos P _ hbad
  rw [hpe] at HCK
  rw [hpe]
  clear hpe hbad hS hm hk hs ho
  generalize P (ckCode N L l) = a at *
  go_enter Tryd.func45, Tryd.ntmps45
  go_wp2_with fail
  refine HCK.out.mono ?_
  rintro e w1 ⟨rfl, hf1⟩
  have hr1 := hr0.frm hf1 id
  have r0 := hr1.at_ 0 rfl
  have r1 := hr1.at_ 1 rfl
  have z0 := hr1.frozen 0
  have z1 := hr1.frozen 1
  have hb3 := (hr1.set_ 0 (.int .i64 0)).set_ 1 (.slice none 0 0)
  have d0 := hb3.at_ 0 rfl
  have d1 := hb3.at_ 1 rfl
  have hf3 := ((Frm.refl (fun g => g = w.heap.size + 1) w1).setCell (p := ⟨w.heap.size + 1, 0, none⟩) (fun _ => rfl) (.int .i64 0)).setCell (p := ⟨w.heap.size + 1, 1, none⟩) (fun _ => rfl) (.slice none 0 0)
  have hfin := (hf0.trans hf1).then' hf3 (fun g hg e => by omega)
  clear hb3 hr0
  go_wp2_with fail
  refine bodyPost_ret (v := .tuple #[nv 0 none 0 0, .iface 158 (.pointer (some a))]) (by simp [results, Tryd.results45, go_sem, d0, d1, nv]) rfl ⟨rfl, hfin⟩

set_option maxRecDepth 100000 in
set_option maxHeartbeats 4000000 in
/-- the first literal that is none -/
theorem encode_over (P : Nat → Addr) (n : Nat) (A : Option Addr) (m c : Nat) (B : Option Addr) (k d : Nat) (L : List (Int × Int)) (l : List Int) (Af : Option Addr) (cf : Nat) (F G H : Nat → Prop) (w : World) (T : Int) (hT : T = 2 * ((n : Int) + m) + 2)
    (hm : L.length = m) (hk : l.length = k) (hn : n + m ≤ 8000) (hk4 : k ≤ 100000) (hr : Right n L) (hl : ∀ x ∈ l, isL x (n + m) = true)
    (hs : Sl w F 2 (.slice A m c) m (pairs L)) (ho : Sl w G 1 (.slice B k d) k (l.map (.int .i64))) (hff : Sl w H 1 (.slice Af 1 cf) 1 ([T].map (.int .i64))) (hS : Sents L7 P w) :
    Calls Tryd.prog 45 #[cv n A m c B k d, .slice Af 1 cf] w fun e w' => e = .returned (.tuple #[nv 0 none 0 0, PE P 104]) ∧ Frm (fun _ => False) w w' := by
  subst hT
  have hck : ckCode n L l = 0 := ckCode_right hr (by omega) (by rw [hm]; exact hl)
  have hfa := ((Frm.refl (fun _ => False) w).alloc (.cells #[.int .i64 n, .slice A m c, .slice B k d] 40)).alloc (.cells #[.int .i64 0, .slice none 0 0] 51)
  have HCK := Lib.hid (check_any L7 P (by simp) (by simp) n A m c B k d L l F G _ hm hk (by omega) hk4 (hs.frm hfa (fun _ _ => id)) (ho.frm hfa (fun _ _ => id)) (fun h => absurd hck h))
  rw [hck, PE_zero] at HCK
  have hpe := PE_pos P 104 (by decide)
  rw [hpe]
  have hcell := fun (W : World) (hf : Frm (fun _ => False) w W) => (hS.frm hf).cell 104 (by decide)
  have HCL := Lib.hid (show ∀ (W : World), Frm (fun _ => False) w W → W.cell? ⟨0, 0, none⟩ = some (.iface 158 (.pointer (some (P 104)))) from hcell)
  clear hm hk hr hl hck hs ho hS hpe hcell
  generalize P 104 = a at *
  have hc0 : Blk ((w.alloc (.cells #[.int .i64 n, .slice A m c, .slice B k d] 40)).alloc (.cells #[.int .i64 0, .slice none 0 0] 51)) w.heap.size 40 [.int .i64 n, .slice A m c, .slice B k d] := (Blk.new _ _ _).alloc _
  have hr0 : Blk ((w.alloc (.cells #[.int .i64 n, .slice A m c, .slice B k d] 40)).alloc (.cells #[.int .i64 0, .slice none 0 0] 51)) (w.heap.size + 1) 51 [.int .i64 0, .slice none 0 0] := Blk.new_at _ _ _ _ (by simp)
  go_enter Tryd.func45, Tryd.ntmps45
  go_wp2_with fail
  refine HCK.out.mono ?_
  rintro e w1 ⟨rfl, hf1⟩
  have hc1 := hc0.frm hf1 id
  have hr1 := hr0.frm hf1 id
  have hfw1 := hfa.trans hf1
  have b0 := hc1.at_ 0 rfl
  have b1 := hc1.at_ 1 rfl
  have wnm : IntKind.i64.wrap ((n : Int) + m) = ((n : Int) + m) := IntWalk.i64_in _ (by omega)
  have hsz1 := hfw1.size
  clear HCK hc0 hr0 hfa hf1
  go_wp2_with fail
  have hfb := (Frm.refl (fun _ => False) w1).alloc (.cells #[.int .i64 ((n : Int) + m), .slice none 0 0] 51)
  have ht2 : Blk (w1.alloc (.cells #[.int .i64 ((n : Int) + m), .slice none 0 0] 51)) w1.heap.size 51 [.int .i64 ((n : Int) + m), .slice none 0 0] := Blk.new _ _ _
  have hr2 := hr1.frm hfb id
  have hfw2 := hfw1.trans hfb
  obtain ⟨W2, hW2⟩ : ∃ W2, W2 = w1.alloc (.cells #[.int .i64 ((n : Int) + m), .slice none 0 0] 51) := ⟨_, rfl⟩
  rw [← hW2] at ht2 hr2 hfw2
  simp only [← hW2]
  clear hc1 hr1 hfw1 b0 b1 hfb hW2
  go_loopw [31] (fun iv wr => iv = .int .i64 0 ∧ wr = W2) (fun iv _ => 0)
  case atStart => exact ⟨rfl, rfl⟩
  case round =>
    obtain ⟨rfl, rfl⟩ := hrel
    obtain ⟨b, o, u, rfl, _, hu, hcell⟩ := (hff.frm hfw2 (fun _ _ => id)).at_ (k := 0) (by omega)
    simp at hu
    subst hu
    rw [Nat.add_zero] at hcell
    have x1 : 2 * ((n : Int) + m) + 1 < 2 * ((n : Int) + m) + 2 := by omega
    have x0 : ¬ 2 * ((n : Int) + m) + 2 < 0 := by omega
    have wa : IntKind.i64.wrap (2 * ((n : Int) + m)) = 2 * ((n : Int) + m) := IntWalk.i64_in _ (by omega)
    have wb : IntKind.i64.wrap (2 * ((n : Int) + m) + 1) = 2 * ((n : Int) + m) + 1 := IntWalk.i64_in _ (by omega)
    have b0 := ht2.at_ 0 rfl
    have r0 := hr2.at_ 0 rfl
    have r1 := hr2.at_ 1 rfl
    have z0 := hr2.frozen 0
    have z1 := hr2.frozen 1
    have hg := HCL.out wr hfw2
    have hb3 := (hr2.set_ 0 (.int .i64 0)).set_ 1 (.slice none 0 0)
    have d0 := hb3.at_ 0 rfl
    have d1 := hb3.at_ 1 rfl
    have hf3 := ((Frm.refl (fun g => g = w.heap.size + 1) wr).setCell (p := ⟨w.heap.size + 1, 0, none⟩) (fun _ => rfl) (.int .i64 0)).setCell (p := ⟨w.heap.size + 1, 1, none⟩) (fun _ => rfl) (.slice none 0 0)
    have hfin := hfw2.then' hf3 (fun g hg e => by omega)
    have hH0 : wr.drew.cell? ⟨0, 0, none⟩ = some (.iface 158 (.pointer (some a))) := hg
    have hgl : (0 : Nat) < w.heap.size := World.block_lt_of_cell? _ _ (HCL.out w (Frm.refl _ _))
    clear hb3 HCL hff
    go_wp2_with fail
    have hHeld := hH0
    refine Held.begin (fun w' => w'.cell? ⟨0, 0, none⟩ = some (.iface 158 (.pointer (some a)))) 3 (by kernel_rfl) ?_
    refine Held.take (i := 0) (oi := ?oa0) (v := ?va0) ?hia0 (by kernel_rfl) (by kernel_rfl) (by kernel_rfl) (by kernel_rfl) (fun _ _ _ h => h) (Or.inl ⟨?hwa0, ?hya0⟩) (by assumption) ?resta0
    case hia0 => (simp only [List.getElem?_toArray, List.getElem?_cons_zero]; rfl)
    case hwa0 => rfl
    case hya0 => (intro w hSw; (try dsimp only at hSw); go_simp; try with_reducible rfl)
    (try simp only [Act.put, List.setIfInBounds_toArray, List.set_cons_zero, List.set_cons_succ])
    refine Held.take (i := 1) (oi := ?oa1) (v := ?va1) ?hia1 (by kernel_rfl) (by kernel_rfl) (by kernel_rfl) (by kernel_rfl) (fun _ _ _ h => h) (Or.inl ⟨?hwa1, ?hya1⟩) (by assumption) ?resta1
    case hia1 => (simp only [List.getElem?_toArray, List.getElem?_cons_succ, List.getElem?_cons_zero]; rfl)
    case hwa1 => rfl
    case hya1 => (intro w hSw; (try dsimp only at hSw); go_simp; try with_reducible rfl)
    (try simp only [Act.put, List.setIfInBounds_toArray, List.set_cons_zero, List.set_cons_succ])
    refine Held.next (i := 2) (o := ?oa2) (by kernel_rfl) ?hia2 (fun K hK => ?sta2)
    case hia2 => (simp only [List.getElem?_toArray, List.getElem?_cons_succ, List.getElem?_cons_zero]; rfl)
    go_simp
    refine hK.out _ _ (fun _ => by exact hf3.cell hg (by show ¬ (0 : Nat) = w.heap.size + 1; omega)) ?_
    clear hK K
    (try simp only [Act.put, List.setIfInBounds_toArray, List.set_cons_zero, List.set_cons_succ])
    refine Held.next (i := 3) (o := ?oa3) (by kernel_rfl) ?hia3 (fun K hK => ?sta3)
    case hia3 => (simp only [List.getElem?_toArray, List.getElem?_cons_succ, List.getElem?_cons_zero]; rfl)
    go_simp
    refine hK.out _ _ (fun h => absurd h (by decide)) ?_
    clear hK K
    (try simp only [Act.put, List.setIfInBounds_toArray, List.set_cons_zero, List.set_cons_succ])
    refine Held.done (by kernel_rfl) ?_ _
    refine NoPanic.normal ?_
    go_wp2_with fail
    refine bodyPost_ret (v := .tuple #[nv 0 none 0 0, .iface 158 (.pointer (some a))]) (by simp [results, Tryd.results45, go_sem, d0, d1, nv]) rfl ⟨rfl, hfin.drewN 1⟩

end Go.Proofs.YtkjlgamggkencaaDoor
