/-
  graph.Build of a circuit that is not right.
-/
import Derived.Test.YtkjlgamggkencaaDoorGBuild
namespace Go.Proofs.YtkjlgamggkencaaDoor
open Go.RowKit

set_option maxRecDepth 100000 in
set_option maxHeartbeats 1000000 in
theorem build_bad (Ls : List Nat) (P : Nat → Addr) (h102 : 102 ∈ Ls) (h104 : 104 ∈ Ls) (N : Int) (A : Option Addr) (m c : Nat) (B : Option Addr) (k d : Nat) (L : List (Int × Int)) (l : List Int) (F G : Nat → Prop) (w : World) (hm : L.length = m) (hk : l.length = k)
    (hm4 : m ≤ 100000) (hk4 : k ≤ 100000) (hs : Sl w F 2 (.slice A m c) m (pairs L)) (ho : Sl w G 1 (.slice B k d) k (l.map (.int .i64))) (hS : Sents Ls P w) (hbad : ckCode N L l ≠ 0) :
    Calls Tryd.prog 66 #[cv N A m c B k d] w fun e w' => e = .returned (.tuple #[.pointer none, .slice none 0 0, PE P (ckCode N L l)]) ∧ Frm (fun _ => False) w w' := by
  have hf0 := (Frm.refl (fun _ => False) w).alloc (.cells #[.int .i64 N, .slice A m c, .slice B k d] 40)
  have hb0 : Blk (w.alloc (.cells #[.int .i64 N, .slice A m c, .slice B k d] 40)) w.heap.size 40 [.int .i64 N, .slice A m c, .slice B k d] := Blk.new _ _ _
  have b00 := hb0.at_ 0 rfl
  have b01 := hb0.at_ 1 rfl
  have b02 := hb0.at_ 2 rfl
  have HCK := Lib.hid (check_any Ls P h102 h104 N A m c B k d L l F G (w.alloc (.cells #[.int .i64 N, .slice A m c, .slice B k d] 40)) hm hk hm4 hk4 (hs.frm hf0 (fun _ _ => id)) (ho.frm hf0 (fun _ _ => id)) (fun _ => hS.frm hf0))
  have hpe := PE_pos P _ hbad
  rw [hpe] at HCK
  rw [hpe]
  clear hpe hbad hS hm hk hs ho
  generalize P (ckCode N L l) = a at *
  go_enter Tryd.func66, Tryd.ntmps66
  go_wp2_with fail
  refine HCK.out.mono ?_
  rintro e w1 ⟨rfl, hf1⟩
  go_wp2_with fail
  refine bodyPost_ret (v := .tuple #[.pointer none, .slice none 0 0, .iface 158 (.pointer (some a))]) (by simp [results, Tryd.results66, go_sem]) rfl ⟨rfl, hf0.trans hf1⟩

end Go.Proofs.YtkjlgamggkencaaDoor
