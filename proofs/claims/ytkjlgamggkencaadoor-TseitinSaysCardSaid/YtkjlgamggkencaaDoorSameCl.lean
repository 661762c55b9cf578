/-
  SameClauses, SameCNF of what is the same.
-/
import Derived.Test.YtkjlgamggkencaaDoorTseitinE
import Derived.Test.YtkjlgamggkencaaDoorSame
import Derived.Test.YtkjlgamggkencaaDoorRegion
namespace Go.Proofs.YtkjlgamggkencaaDoor
open Go.RowKit

set_option maxRecDepth 100000 in
set_option maxHeartbeats 2000000 in
theorem sameClauses_any (A B : Option Addr) (n c d : Nat) (F G : Nat → Prop) (cs : List (List Int)) (w : World) (hn : n ≤ 1000000) (hc : ∀ r ∈ cs, r.length ≤ 1000000) (h1 : Rw w F (.slice A n c) n cs) (h2 : Rw w G (.slice B n d) n cs) :
    Calls Tryd.prog 121 #[.slice A n c, .slice B n d] w fun e w' => e = .returned (.bool true) ∧ Frm (fun _ => False) w w' := by
  have HN := Lib.hid h1.1
  have HC := Lib.hid hc
  clear hc
  go_enter Tryd.func121, Tryd.ntmps121
  go_wp2_with fail
  go_loopw [5] (fun i wr => ∃ (k : Nat), k ≤ n ∧ i = .int .i64 k ∧ Frm (fun _ => False) w wr) (fun i _ => n - (intOf i).toNat)
  case atStart => exact ⟨0, by omega, rfl, Frm.refl _ _⟩
  case round =>
    obtain ⟨k, hk, rfl, hfk⟩ := hrel
    by_cases hlt : k < n
    · have hlt2 : k < cs.length := by rw [HN.out]; exact hlt
      obtain ⟨b, o, B1, d1, rfl, _, hc1, hs1⟩ := (h1.frm hfk (fun _ _ => id)).at_ hlt
      obtain ⟨b', o', B2, d2, rfl, _, hc2, hs2⟩ := (h2.frm hfk (fun _ _ => id)).at_ hlt
      have hlen := HC.out (cs.getD k []) (by simp [List.getD, hlt2])
      have HS := Lib.hid (fun j => sameInts_eq B1 B2 (cs.getD k []).length d1 d2 _ _ (cs.getD k []) (wr.drewN j) rfl hlen (hs1.drewN j) (hs2.drewN j))
      clear hs1 hs2
      generalize (cs.getD k []).length = q at *
      have hk0 : (0 : Int) ≤ k := by omega
      have hk1 : (k : Int) < n := by omega
      go_wp2_with fail
      have hH0 : wr.drew.cell? ⟨b, o + k, none⟩ = some (.slice B1 q d1) ∧ wr.drew.cell? ⟨b', o' + k, none⟩ = some (.slice B2 q d2) := ⟨hc1, hc2⟩
      have hHeld := hH0
      refine Held.begin (fun w' => w'.cell? ⟨b, o + k, none⟩ = some (.slice B1 q d1) ∧ w'.cell? ⟨b', o' + k, none⟩ = some (.slice B2 q d2)) 9 (by kernel_rfl) ?_
      refine Held.take (i := 0) (oi := ?oa0) (v := ?va0) ?hia0 (by kernel_rfl) (by kernel_rfl) (by kernel_rfl) (by kernel_rfl) (fun _ _ _ h => h) (Or.inl ⟨?hwa0, ?hya0⟩) (by assumption) ?resta0
      case hia0 => (simp only [List.getElem?_toArray, List.getElem?_cons_zero]; rfl)
      case hwa0 => rfl
      case hya0 => (intro w hSw; (try dsimp only at hSw); go_simp; try with_reducible rfl)
      (try simp only [Act.put, List.setIfInBounds_toArray, List.set_cons_zero, List.set_cons_succ])
      refine Held.take (i := 1) (oi := ?oa1) (v := ?va1) ?hia1 (by kernel_rfl) (by kernel_rfl) (by kernel_rfl) (by kernel_rfl) (fun _ _ _ h => h) (Or.inl ⟨?hwa1, ?hya1⟩) (by assumption) ?resta1
      case hia1 => (simp only [List.getElem?_toArray, List.getElem?_cons_succ, List.getElem?_cons_zero]; rfl)
      case hwa1 => rfl
      case hya1 => (intro w hSw; (try dsimp only at hSw); go_simp; try with_reducible rfl)
      (try simp only [Act.put, List.setIfInBounds_toArray, List.set_cons_zero, List.set_cons_succ])
      refine Held.take (i := 2) (oi := ?oa2) (v := ?va2) ?hia2 (by kernel_rfl) (by kernel_rfl) (by kernel_rfl) (by kernel_rfl) (fun _ _ _ h => h) (Or.inl ⟨?hwa2, ?hya2⟩) (by assumption) ?resta2
      case hia2 => (simp only [List.getElem?_toArray, List.getElem?_cons_succ, List.getElem?_cons_zero]; rfl)
      case hwa2 => rfl
      case hya2 => (intro w hSw; (try dsimp only at hSw); go_simp; try with_reducible rfl)
      (try simp only [Act.put, List.setIfInBounds_toArray, List.set_cons_zero, List.set_cons_succ])
      refine Held.take (i := 3) (oi := ?oa3) (v := ?va3) ?hia3 (by kernel_rfl) (by kernel_rfl) (by kernel_rfl) (by kernel_rfl) (fun _ _ _ h => h) (Or.inl ⟨?hwa3, ?hya3⟩) (by assumption) ?resta3
      case hia3 => (simp only [List.getElem?_toArray, List.getElem?_cons_succ, List.getElem?_cons_zero]; rfl)
      case hwa3 => rfl
      case hya3 => (intro w hSw; (try dsimp only at hSw); go_simp; try with_reducible rfl)
      (try simp only [Act.put, List.setIfInBounds_toArray, List.set_cons_zero, List.set_cons_succ])
      refine Held.take (i := 4) (oi := ?oa4) (v := ?va4) ?hia4 (by kernel_rfl) (by kernel_rfl) (by kernel_rfl) (by kernel_rfl) (fun _ _ _ h => h) (Or.inl ⟨?hwa4, ?hya4⟩) (by assumption) ?resta4
      case hia4 => (simp only [List.getElem?_toArray, List.getElem?_cons_succ, List.getElem?_cons_zero]; rfl)
      case hwa4 => rfl
      case hya4 => (intro w hSw; (try dsimp only at hSw); go_simp; try with_reducible rfl)
      (try simp only [Act.put, List.setIfInBounds_toArray, List.set_cons_zero, List.set_cons_succ])
      refine Held.take (i := 5) (oi := ?oa5) (v := ?va5) ?hia5 (by kernel_rfl) (by kernel_rfl) (by kernel_rfl) (by kernel_rfl) (fun _ _ _ h => h) (Or.inl ⟨?hwa5, ?hya5⟩) (by assumption) ?resta5
      case hia5 => (simp only [List.getElem?_toArray, List.getElem?_cons_succ, List.getElem?_cons_zero]; rfl)
      case hwa5 => rfl
      case hya5 => (intro w hSw; (try dsimp only at hSw); go_simp; try with_reducible rfl)
      (try simp only [Act.put, List.setIfInBounds_toArray, List.set_cons_zero, List.set_cons_succ])
      refine Held.take (i := 6) (oi := ?oa6) (v := ?va6) ?hia6 (by kernel_rfl) (by kernel_rfl) (by kernel_rfl) (by kernel_rfl) (fun _ _ _ h => h) (Or.inl ⟨?hwa6, ?hya6⟩) (by assumption) ?resta6
      case hia6 => (simp only [List.getElem?_toArray, List.getElem?_cons_succ, List.getElem?_cons_zero]; rfl)
      case hwa6 => rfl
      case hya6 => (intro w hSw; (try dsimp only at hSw); go_simp; try with_reducible rfl)
      (try simp only [Act.put, List.setIfInBounds_toArray, List.set_cons_zero, List.set_cons_succ])
      refine Held.take (i := 7) (oi := ?oa7) (v := ?va7) ?hia7 (by kernel_rfl) (by kernel_rfl) (by kernel_rfl) (by kernel_rfl) (fun _ _ _ h => h) (Or.inl ⟨?hwa7, ?hya7⟩) (by assumption) ?resta7
      case hia7 => (simp only [List.getElem?_toArray, List.getElem?_cons_succ, List.getElem?_cons_zero]; rfl)
      case hwa7 => rfl
      case hya7 => (intro w hSw; (try dsimp only at hSw); go_simp; try with_reducible rfl)
      (try simp only [Act.put, List.setIfInBounds_toArray, List.set_cons_zero, List.set_cons_succ])
      refine Held.next (i := 8) (o := ?oa8) (by kernel_rfl) ?hia8 (fun K hK => ?sta8)
      case hia8 => (simp only [List.getElem?_toArray, List.getElem?_cons_succ, List.getElem?_cons_zero]; rfl)
      go_simp
      (go_at_call 67; refine (HS.out 1).mono ?_; rintro e w' ⟨rfl, j, rfl⟩)
      (try go_wp2_with fail)
      refine hK.out _ _ (fun _ => by exact hHeld) ?_
      clear hK K
      (try simp only [Act.put, List.setIfInBounds_toArray, List.set_cons_zero, List.set_cons_succ])
      refine Held.next (i := 9) (o := ?oa9) (by kernel_rfl) ?hia9 (fun K hK => ?sta9)
      case hia9 => (simp only [List.getElem?_toArray, List.getElem?_cons_succ, List.getElem?_cons_zero]; rfl)
      go_simp
      refine hK.out _ _ (fun h => absurd h (by decide)) ?_
      clear hK K
      (try simp only [Act.put, List.setIfInBounds_toArray, List.set_cons_zero, List.set_cons_succ])
      refine Held.done (by kernel_rfl) ?_ _
      refine NoPanic.normal ?_
      go_wp2_with fail
      go_roundw
      case rel => exact ⟨k + 1, by omega, by go_num, hfk.drewN _⟩
      case measure => simp [intOf]; omega
    · go_wp2_with fail
      go_ret
      exact ⟨rfl, hfk⟩

set_option maxRecDepth 100000 in
set_option maxHeartbeats 2000000 in
theorem sameCNF_any {F G : Nat → Prop} {u v : Value} {n : Int} {cs : List (List Int)} {w : World} (hn : cs.length ≤ 1000000) (hc : ∀ r ∈ cs, r.length ≤ 1000000) (h1 : IsN w F u n cs) (h2 : IsN w G v n cs) :
    Calls Tryd.prog 72 #[u, v] w fun e w' => e = .returned (.bool true) ∧ Frm (fun _ => False) w w' := by
  obtain ⟨A, c, rfl, hA⟩ := h1
  obtain ⟨B, d, rfl, hB⟩ := h2
  simp only [nv]
  have hal := ((Frm.refl (fun _ => False) w).alloc (.cells #[.int .i64 n, .slice A cs.length c] 51)).alloc (.cells #[.int .i64 n, .slice B cs.length d] 51)
  have hb1 : Blk ((w.alloc (.cells #[.int .i64 n, .slice A cs.length c] 51)).alloc (.cells #[.int .i64 n, .slice B cs.length d] 51)) w.heap.size 51 [.int .i64 n, .slice A cs.length c] := (Blk.new _ _ _).alloc _
  have hb2 : Blk ((w.alloc (.cells #[.int .i64 n, .slice A cs.length c] 51)).alloc (.cells #[.int .i64 n, .slice B cs.length d] 51)) (w.heap.size + 1) 51 [.int .i64 n, .slice B cs.length d] := Blk.new_at _ _ _ _ (by simp)
  have a0 := hb1.at_ 0 rfl
  have a1 := hb1.at_ 1 rfl
  have b0 := hb2.at_ 0 rfl
  have b1 := hb2.at_ 1 rfl
  have HS := Lib.hid (sameClauses_any A B cs.length c d F G cs _ hn hc (hA.frm hal (fun _ _ => id)) (hB.frm hal (fun _ _ => id)))
  clear hA hB hc
  go_enter Tryd.func72, Tryd.ntmps72
  go_wp2_with fail
  refine HS.out.mono ?_
  rintro e w1 ⟨rfl, hf1⟩
  go_wp2_with fail
  go_ret
  exact ⟨rfl, hal.trans hf1⟩

end Go.Proofs.YtkjlgamggkencaaDoor
