/-
  A script that comes in: its four lists and two numbers; skolemmake.Small and Free.
-/
import Derived.Test.YtfhillobhfaikaaPaceBudgets
import Derived.Test.YtfhillobhfaikaaBase2
import Derived.Lib.SmallJoins
import Derived.ProofKit
namespace Go.Proofs.Ytfhillobhfaikaa
open Go.RowKit Go.ChangeShapes Go.WideShapes Go.ChangeAt

/-- an argument's list -/
def ArgL (w : World) (v : Value) (z : List Int) : Prop := ∃ a cap, v = .slice a z.length cap ∧ Sl w (fun k => k < w.heap.size) 1 v z.length (z.map (.int .i64))

theorem argL_of_trod {H : Type} {enc : TypeId × Value → H} {w : World} {base : Nat} {spare : Nat → Bool} {held : Bool} {fuel : Nat} {c : Value} {y : DataW H × List MemPlace}
    (hf : DataW.trod enc Try.prog w base spare held fuel 22 [c] = some y) : ∃ z, ArgL w c z := by
  rcases open_ints Try.underlying22 Try.underlying3 (by kernel_rfl) hf with ⟨hcs, _⟩ | ⟨x, l, cap, zs, hcs, _, hl, hm, hz, _, hcell, hwz⟩
  · simp at hcs
    subst hcs
    exact ⟨[], none, 0, rfl, Sl.nil_ _ _ _⟩
  · simp at hcs
    subst hcs
    have hz' : l ≤ zs.length := by rw [hz]; split <;> omega
    obtain ⟨z, hzl, hs, _⟩ := sl_of_ints (cap := zs.length) hz' rfl hcell hwz
    subst hzl
    obtain ⟨h1, A, c', e, hc, ha, hx⟩ := hs
    cases e
    exact ⟨z, some x, cap, rfl, h1, some x, cap, rfl, hl, (fun h => by cases h), hx⟩

theorem array6 {α : Type} {cs : Array α} (h : cs.size = 6) : ∃ c0 c1 c2 c3 c4 c5, cs = #[c0, c1, c2, c3, c4, c5] := by
  obtain ⟨l⟩ := cs
  match l, h with
  | [c0, c1, c2, c3, c4, c5], _ => exact ⟨c0, c1, c2, c3, c4, c5, rfl⟩

/-- the script's six cells -/
theorem script_of_trod {H : Type} {enc : TypeId × Value → H} {w : World} {base b0 : Nat} {r : Reach} {spare : Nat → Bool} {held : Bool} {v : Value} {d : DataW H} {p : List MemPlace}
    (hv : Value.okWide Try.prog w r b0 24 v) (h : DataW.Trod enc Try.prog w base spare held 24 v d p) :
    ∃ v0 v1 v2 v3 m n z0 z1 z2 z3, v = .agg #[v0, v1, v2, v3, .int .i64 m, .int .i64 n] ∧ ArgL w v0 z0 ∧ ArgL w v1 z1 ∧ ArgL w v2 z2 ∧ ArgL w v3 z3 ∧ (Lit.int .i64 m).wf = true := by
  obtain ⟨cs, rfl, hsz⟩ := okWide_struct Try.underlying24 hv
  obtain ⟨c0, c1, c2, c3, c4, c5, rfl⟩ := array6 (hsz.trans (show Try.prog.cellsOf 24 = 6 by kernel_rfl))
  obtain ⟨fuel, hf⟩ := h
  obtain ⟨xs, n, _, _, _, hxl, hfs⟩ := DataW.trod_struct Try.underlying24 hf
  have k1 : Try.prog.cellsOf 22 = 1 := by kernel_rfl
  have k2 : Try.prog.cellsOf 3 = 1 := by kernel_rfl
  have g : ∀ i, i < 6 → ∃ y, xs[i]? = some y := fun i hi => ⟨xs[i]'(by rw [hxl]; exact hi), List.getElem?_eq_getElem _⟩
  obtain ⟨y0, e0⟩ := g 0 (by omega)
  obtain ⟨y1, e1⟩ := g 1 (by omega)
  obtain ⟨y2, e2⟩ := g 2 (by omega)
  obtain ⟨y3, e3⟩ := g 3 (by omega)
  obtain ⟨y4, e4⟩ := g 4 (by omega)
  obtain ⟨y5, e5⟩ := g 5 (by omega)
  have h0 : DataW.trod enc Try.prog w base spare held n 22 [c0] = some y0 := by have := (hfs 0 _ rfl).trans e0; simpa [Value.cells, k1] using this
  have h1 : DataW.trod enc Try.prog w base spare held n 22 [c1] = some y1 := by have := (hfs 1 _ rfl).trans e1; simpa [Value.cells, k1] using this
  have h2 : DataW.trod enc Try.prog w base spare held n 22 [c2] = some y2 := by have := (hfs 2 _ rfl).trans e2; simpa [Value.cells, k1] using this
  have h3 : DataW.trod enc Try.prog w base spare held n 22 [c3] = some y3 := by have := (hfs 3 _ rfl).trans e3; simpa [Value.cells, k1] using this
  have h4 : DataW.trod enc Try.prog w base spare held n 3 [c4] = some y4 := by have := (hfs 4 _ rfl).trans e4; simpa [Value.cells, k2] using this
  have h5 : DataW.trod enc Try.prog w base spare held n 3 [c5] = some y5 := by have := (hfs 5 _ rfl).trans e5; simpa [Value.cells, k2] using this
  obtain ⟨z0, a0⟩ := argL_of_trod h0
  obtain ⟨z1, a1⟩ := argL_of_trod h1
  obtain ⟨z2, a2⟩ := argL_of_trod h2
  obtain ⟨z3, a3⟩ := argL_of_trod h3
  obtain ⟨m, hm, _, wm⟩ := DataW.trod_int Try.underlying3 h4
  obtain ⟨q, hq, _, _⟩ := DataW.trod_int Try.underlying3 h5
  simp at hm hq
  subst hm
  subst hq
  exact ⟨c0, c1, c2, c3, m, q, z0, z1, z2, z3, rfl, a0, a1, a2, a3, wm⟩

set_option maxHeartbeats 1000000 in
theorem small_yes (a0 a1 a2 a3 : Option Addr) (n0 n1 n2 n3 c0 c1 c2 c3 : Nat) (m q : Int) (w : World) (h0 : n0 ≤ 50) (h1 : n1 ≤ 50) (h2 : n2 ≤ 50) (h3 : n3 ≤ 50) :
    Calls Try.prog 9 #[.agg #[.slice a0 n0 c0, .slice a1 n1 c1, .slice a2 n2 c2, .slice a3 n3 c3, .int .i64 m, .int .i64 q]] w fun e w' => e = .returned (.bool true) ∧ Frm (fun _ => False) w w' := by
  have d0 : decide ((n0 : Int) ≤ 50) = true := by simp; omega
  have d1 : decide ((n1 : Int) ≤ 50) = true := by simp; omega
  have d2 : decide ((n2 : Int) ≤ 50) = true := by simp; omega
  have d3 : decide ((n3 : Int) ≤ 50) = true := by simp; omega
  go_enter Try.func9, Try.ntmps9
  go_wp2_with fail
  try go_quiet (fail)
  go_wp2
  go_ret
  refine ⟨ret_bool (by simp; try omega), ?_⟩
  repeat (first | exact Frm.refl _ _ | apply Frm.drewN | apply Frm.drew | apply Frm.alloc)

set_option maxHeartbeats 1000000 in
theorem small_no0 (a0 a1 a2 a3 : Option Addr) (n0 n1 n2 n3 c0 c1 c2 c3 : Nat) (m q : Int) (w : World) (h0 : 50 < n0) :
    Calls Try.prog 9 #[.agg #[.slice a0 n0 c0, .slice a1 n1 c1, .slice a2 n2 c2, .slice a3 n3 c3, .int .i64 m, .int .i64 q]] w fun e w' => e = .returned (.bool false) ∧ Frm (fun _ => False) w w' := by
  have d0 : decide ((n0 : Int) ≤ 50) = false := by simp; omega
  go_enter Try.func9, Try.ntmps9
  go_wp2_with fail
  try go_quiet (fail)
  go_wp2
  go_ret
  refine ⟨ret_bool (by simp; try omega), ?_⟩
  repeat (first | exact Frm.refl _ _ | apply Frm.drewN | apply Frm.drew | apply Frm.alloc)

set_option maxHeartbeats 1000000 in
theorem small_no1 (a0 a1 a2 a3 : Option Addr) (n0 n1 n2 n3 c0 c1 c2 c3 : Nat) (m q : Int) (w : World) (h0 : n0 ≤ 50) (h1 : 50 < n1) :
    Calls Try.prog 9 #[.agg #[.slice a0 n0 c0, .slice a1 n1 c1, .slice a2 n2 c2, .slice a3 n3 c3, .int .i64 m, .int .i64 q]] w fun e w' => e = .returned (.bool false) ∧ Frm (fun _ => False) w w' := by
  have d0 : decide ((n0 : Int) ≤ 50) = true := by simp; omega
  have d1 : decide ((n1 : Int) ≤ 50) = false := by simp; omega
  go_enter Try.func9, Try.ntmps9
  go_wp2_with fail
  try go_quiet (fail)
  go_wp2
  go_ret
  refine ⟨ret_bool (by simp; try omega), ?_⟩
  repeat (first | exact Frm.refl _ _ | apply Frm.drewN | apply Frm.drew | apply Frm.alloc)

set_option maxHeartbeats 1000000 in
theorem small_no2 (a0 a1 a2 a3 : Option Addr) (n0 n1 n2 n3 c0 c1 c2 c3 : Nat) (m q : Int) (w : World) (h0 : n0 ≤ 50) (h1 : n1 ≤ 50) (h2 : 50 < n2) :
    Calls Try.prog 9 #[.agg #[.slice a0 n0 c0, .slice a1 n1 c1, .slice a2 n2 c2, .slice a3 n3 c3, .int .i64 m, .int .i64 q]] w fun e w' => e = .returned (.bool false) ∧ Frm (fun _ => False) w w' := by
  have d0 : decide ((n0 : Int) ≤ 50) = true := by simp; omega
  have d1 : decide ((n1 : Int) ≤ 50) = true := by simp; omega
  have d2 : decide ((n2 : Int) ≤ 50) = false := by simp; omega
  go_enter Try.func9, Try.ntmps9
  go_wp2_with fail
  try go_quiet (fail)
  go_wp2
  go_ret
  refine ⟨ret_bool (by simp; try omega), ?_⟩
  repeat (first | exact Frm.refl _ _ | apply Frm.drewN | apply Frm.drew | apply Frm.alloc)

set_option maxHeartbeats 1000000 in
theorem small_no3 (a0 a1 a2 a3 : Option Addr) (n0 n1 n2 n3 c0 c1 c2 c3 : Nat) (m q : Int) (w : World) (h0 : n0 ≤ 50) (h1 : n1 ≤ 50) (h2 : n2 ≤ 50) (h3 : 50 < n3) :
    Calls Try.prog 9 #[.agg #[.slice a0 n0 c0, .slice a1 n1 c1, .slice a2 n2 c2, .slice a3 n3 c3, .int .i64 m, .int .i64 q]] w fun e w' => e = .returned (.bool false) ∧ Frm (fun _ => False) w w' := by
  have d0 : decide ((n0 : Int) ≤ 50) = true := by simp; omega
  have d1 : decide ((n1 : Int) ≤ 50) = true := by simp; omega
  have d2 : decide ((n2 : Int) ≤ 50) = true := by simp; omega
  have d3 : decide ((n3 : Int) ≤ 50) = false := by simp; omega
  go_enter Try.func9, Try.ntmps9
  go_wp2_with fail
  try go_quiet (fail)
  go_wp2
  go_ret
  refine ⟨ret_bool (by simp; try omega), ?_⟩
  repeat (first | exact Frm.refl _ _ | apply Frm.drewN | apply Frm.drew | apply Frm.alloc)

theorem small_no (a0 a1 a2 a3 : Option Addr) (n0 n1 n2 n3 c0 c1 c2 c3 : Nat) (m q : Int) (w : World) (h : ¬ (n0 ≤ 50 ∧ n1 ≤ 50 ∧ n2 ≤ 50 ∧ n3 ≤ 50)) :
    Calls Try.prog 9 #[.agg #[.slice a0 n0 c0, .slice a1 n1 c1, .slice a2 n2 c2, .slice a3 n3 c3, .int .i64 m, .int .i64 q]] w fun e w' => e = .returned (.bool false) ∧ Frm (fun _ => False) w w' := by
  by_cases h0 : n0 ≤ 50
  · by_cases h1 : n1 ≤ 50
    · by_cases h2 : n2 ≤ 50
      · exact small_no3 a0 a1 a2 a3 n0 n1 n2 n3 c0 c1 c2 c3 m q w h0 h1 h2 (by omega)
      · exact small_no2 a0 a1 a2 a3 n0 n1 n2 n3 c0 c1 c2 c3 m q w h0 h1 (by omega)
    · exact small_no1 a0 a1 a2 a3 n0 n1 n2 n3 c0 c1 c2 c3 m q w h0 (by omega)
  · exact small_no0 a0 a1 a2 a3 n0 n1 n2 n3 c0 c1 c2 c3 m q w (by omega)

set_option maxHeartbeats 1000000 in
theorem free_any (a0 a1 a2 a3 : Option Addr) (n0 n1 n2 n3 c0 c1 c2 c3 : Nat) (m q : Int) (w : World) :
    Calls Try.prog 12 #[.agg #[.slice a0 n0 c0, .slice a1 n1 c1, .slice a2 n2 c2, .slice a3 n3 c3, .int .i64 m, .int .i64 q]] w fun e w' =>
      e = .returned (.agg #[.slice a0 n0 c0, .slice a1 n1 c1, .slice a2 n2 c2, .slice a3 n3 c3, .int .i64 0, .int .i64 0]) ∧ Frm (fun _ => False) w w' := by
  go_enter Try.func12, Try.ntmps12
  go_wp2_with fail
  refine bodyPost_ret (v := .agg #[.slice a0 n0 c0, .slice a1 n1 c1, .slice a2 n2 c2, .slice a3 n3 c3, .int .i64 0, .int .i64 0]) (by simp [results, Try.results12, go_sem]) rfl ⟨rfl, ?_⟩
  repeat (first | exact Frm.refl _ _ | apply Frm.drewN | apply Frm.drew | apply Frm.alloc)

end Go.Proofs.Ytfhillobhfaikaa
