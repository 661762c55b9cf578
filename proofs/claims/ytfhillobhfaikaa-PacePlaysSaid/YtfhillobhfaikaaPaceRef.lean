/-
  The contracts of the document's pace (package skolemref8): it answers what the program's pace in the same state answers.
-/
import Derived.Test.YtfhillobhfaikaaPaceRestarts
import Derived.Test.YtfhillobhfaikaaPaceLists
namespace Go.Proofs.Ytfhillobhfaikaa
open Go.RowKit

/-- the document's pace: a script, and how often each list was asked -/
structure Xc where
  r : List Int
  p : List Int
  t : List Int
  s : List Int
  most : Int
  rounds : Int
  R : Nat
  K : Nat
  T : Nat
  G : Nat
  least : Int
  since : Int
  came : Int

def Xc.pc (x : Xc) : Pc := ⟨x.r, x.p, x.t, x.s, kOf x.r x.R, kOf x.p x.K, kOf x.t x.T, kOf x.s x.G, x.most, x.came, x.since, x.least⟩
def XL (w : World) (F : Nat → Prop) (v : Value) (l : List Int) : Prop := l.length ≤ 1000 ∧ Sl w F 1 v l.length (l.map (.int .i64))
def Xc.cells (x : Xc) (v0 v1 v2 v3 : Value) : List Value := [v0, v1, v2, v3, .int .i64 x.most, .int .i64 x.rounds, .int .i64 x.R, .int .i64 x.K, .int .i64 x.T, .int .i64 x.G, .int .i64 x.least, .int .i64 x.since, .int .i64 x.came]
def Xc.small (x : Xc) : Prop := x.pc.small ∧ x.R ≤ 1000000 ∧ x.K ≤ 1000000 ∧ x.T ≤ 1000000 ∧ x.G ≤ 1000000

def IsX (w : World) (g : Nat) (F : Nat → Prop) (x : Xc) : Prop :=
  ∃ v0 v1 v2 v3, Blk w g 42 (x.cells v0 v1 v2 v3) ∧ (∀ k, F k → k ≠ g) ∧ XL w F v0 x.r ∧ XL w F v1 x.p ∧ XL w F v2 x.t ∧ XL w F v3 x.s

theorem XL.frm {S F : Nat → Prop} {w w' : World} {v : Value} {l : List Int} (h : XL w F v l) (hf : Frm S w w') (hd : ∀ k, F k → ¬ S k) : XL w' F v l := ⟨h.1, h.2.frm hf hd⟩
theorem IsX.frm {S F : Nat → Prop} {w w' : World} {g : Nat} {x : Xc} (h : IsX w g F x) (hf : Frm S w w') (hg : ¬ S g) (hd : ∀ k, F k → ¬ S k) : IsX w' g F x := by
  obtain ⟨v0, v1, v2, v3, hb, hF, h1, h2, h3, h4⟩ := h
  exact ⟨v0, v1, v2, v3, hb.frm hf hg, hF, h1.frm hf hd, h2.frm hf hd, h3.frm hf hd, h4.frm hf hd⟩
theorem IsX.lt {F : Nat → Prop} {w : World} {g : Nat} {x : Xc} (h : IsX w g F x) : g < w.heap.size := by
  obtain ⟨_, _, _, _, hb, _⟩ := h; exact hb.lt

set_option maxHeartbeats 400000 in
theorem xnext_none (A : Option Addr) (c : Nat) (k : Nat) (w : World) :
    Calls Try.prog 31 #[.slice A 0 c, .int .i64 k] w fun e w' => e = .returned (.int .i64 0) ∧ w = w' := by
  go_enter Try.func31, Try.ntmps31
  go_wp2
  go_ret
  exact ⟨rfl, rfl⟩

set_option maxHeartbeats 400000 in
theorem xnext_some (b o n c k : Nat) (x : Int) (w : World) (hn : 0 < n) (hn2 : n ≤ 1000) (hx : w.cell? ⟨b, o + k % n, none⟩ = some (.int .i64 x)) :
    Calls Try.prog 31 #[.slice (some ⟨b, o, none⟩) n c, .int .i64 k] w fun e w' => e = .returned (.int .i64 x) ∧ w = w' := by
  have h0 : ((n : Int) == 0) = false := by simp; omega
  have m1 : (k : Int) % (n : Int) < (n : Int) := Int.emod_lt_of_pos _ (by omega)
  have m2 : (0 : Int) ≤ (k : Int) % (n : Int) := Int.emod_nonneg _ (by omega)
  have m3 : ((k : Int) % (n : Int)).toNat = k % n := by omega
  go_enter Try.func31, Try.ntmps31
  go_wp2
  go_ret
  exact ⟨rfl, rfl⟩

theorem xnext_any (F : Nat → Prop) (v : Value) (l : List Int) (k : Nat) (w : World) (h : XL w F v l) :
    Calls Try.prog 31 #[v, .int .i64 k] w fun e w' => e = .returned (.int .i64 (nxt l (kOf l k))) ∧ w = w' := by
  obtain ⟨h1, hs⟩ := h
  obtain ⟨A, c, rfl, hc, hA⟩ := hs.form
  rw [nxt_kOf]
  by_cases hl : l = []
  · subst hl
    exact xnext_none A c k w
  · have hp := List.length_pos_iff.2 hl
    obtain ⟨b, o, u, rfl, _, hu, hcell⟩ := hs.at_ (Nat.mod_lt k hp)
    obtain rfl := at_getD hu
    exact xnext_some b o l.length c k _ w hp h1 hcell

set_option maxHeartbeats 1000000 in
theorem xnew_any (v0 v1 v2 v3 : Value) (z0 z1 z2 z3 : List Int) (m r : Int) (F : Nat → Prop) (w : World) (hF : ∀ k, F k → k < w.heap.size) (h0 : XL w F v0 z0) (h1 : XL w F v1 z1) (h2 : XL w F v2 z2) (h3 : XL w F v3 z3) :
    Calls Try.prog 21 #[.agg #[v0, v1, v2, v3, .int .i64 m, .int .i64 r]] w fun e w' =>
      ∃ g, e = .returned (.pointer (some ⟨g, 0, none⟩)) ∧ w.heap.size ≤ g ∧ IsX w' g F ⟨z0, z1, z2, z3, m, r, 0, 0, 0, 0, 16, 0, 0⟩ ∧ Frm (fun _ => False) w w' := by
  go_enter Try.func21, Try.ntmps21
  go_wp2_with fail
  go_ret
  have hf : ∀ o p, Frm (fun _ => False) w ((w.alloc o).alloc p) := fun o p => ((Frm.refl (fun _ => False) w).alloc o).alloc p
  refine ⟨_, rfl, by simp, ⟨v0, v1, v2, v3, Blk.new_at _ 42 _ _ (by simp), fun k hk => by have := hF k hk; omega, h0.frm (hf _ _) (fun _ _ => id), h1.frm (hf _ _) (fun _ _ => id), h2.frm (hf _ _) (fun _ _ => id), h3.frm (hf _ _) (fun _ _ => id)⟩, hf _ _⟩

set_option maxHeartbeats 1000000 in
theorem xconflict_any (g : Nat) (F : Nat → Prop) (x : Xc) (w : World) (h : IsX w g F x) (hq : x.small) :
    Calls Try.prog 22 #[.pointer (some ⟨g, 0, none⟩)] w fun e w' => e = .returned (.bool x.pc.ansConflict) ∧ IsX w' g F { x with came := x.came + 1, since := x.since + 1 } ∧ Frm (fun k => k = g) w w' := by
  obtain ⟨v0, v1, v2, v3, hb, hF, h1, h2, h3, h4⟩ := h
  obtain ⟨⟨q1, q2, q3, q4, q5, q6⟩, _⟩ := hq
  have q1' : 0 ≤ x.came := q1
  have q2' : x.came ≤ 1000000 := q2
  have q3' : 0 ≤ x.since := q3
  have q4' : x.since ≤ 1000000 := q4
  clear q1 q2 q3 q4 q5 q6
  have c4 := hb.at_ 4 rfl
  have c5 := hb.at_ 12 rfl
  have c6 := hb.at_ 11 rfl
  have f5 := hb.frozen 12
  have f6 := hb.frozen 11
  have hfr : ∀ (u v : Value) n, Frm (fun k => k = g) w (((w.drewN n).setCell ⟨g, 12, none⟩ u).setCell ⟨g, 11, none⟩ v) := fun u v n => (((Frm.refl (fun k => k = g) w).drewN n).setCell (fun _ => rfl) _).setCell (fun _ => rfl) _
  by_cases hm0 : x.most ≤ 0
  · go_enter Try.func22, Try.ntmps22
    go_wp2_with fail
    go_quiet (fail)
    go_wp2
    go_ret
    have hW := hfr (.int .i64 (x.came + 1)) (.int .i64 (x.since + 1)) nq
    exact ⟨ret_bool (by simp [Pc.ansConflict, Xc.pc, hm0]), ⟨v0, v1, v2, v3, (((hb.drewN nq).set_ 12 _).set_ 11 _), hF, h1.frm hW hF, h2.frm hW hF, h3.frm hW hF, h4.frm hW hF⟩, hW⟩
  · have hd : decide (x.most ≤ 0) = false := by simpa using hm0
    go_enter Try.func22, Try.ntmps22
    go_wp2_with fail
    go_quiet (fail)
    go_wp2
    go_ret
    have hW := hfr (.int .i64 (x.came + 1)) (.int .i64 (x.since + 1)) nq
    exact ⟨ret_bool (by show _ = (decide (x.most ≤ 0) || decide (x.came + 1 ≤ x.most)); rw [hd, Bool.false_or]), ⟨v0, v1, v2, v3, (((hb.drewN nq).set_ 12 _).set_ 11 _), hF, h1.frm hW hF, h2.frm hW hF, h3.frm hW hF, h4.frm hW hF⟩, hW⟩

set_option maxHeartbeats 400000 in
theorem xleft_any (g : Nat) (F : Nat → Prop) (x : Xc) (w : World) (h : IsX w g F x) (hq : x.small) (hm : x.most ≤ 9223372036854775807) :
    Calls Try.prog 27 #[.pointer (some ⟨g, 0, none⟩)] w fun e w' => e = .returned (.int .i64 (if x.most ≤ 0 then -1 else max (x.most - x.came) 0)) ∧ ∃ n, w.drewN n = w' := by
  obtain ⟨v0, v1, v2, v3, hb, hF, h1, h2, h3, h4⟩ := h
  obtain ⟨⟨q1, q2, q3, q4, q5, q6⟩, _⟩ := hq
  have q1' : 0 ≤ x.came := q1
  have q2' : x.came ≤ 1000000 := q2
  clear q1 q2 q3 q4 q5 q6
  have c4 := hb.at_ 4 rfl
  have c5 := hb.at_ 12 rfl
  by_cases hm0 : x.most ≤ 0
  · go_enter Try.func27, Try.ntmps27
    go_wp2
    go_ret
    exact ⟨by simp, 0, rfl⟩
  · go_enter Try.func27, Try.ntmps27
    go_wp2
    go_region
    all_goals go_wp2
    all_goals go_ret
    · exact ⟨ret_int (by omega), 1, rfl⟩
    · exact ⟨ret_int (by omega), 1, rfl⟩

theorem wrap_tie (x : Int) : wrap64 (-wrap64 (x + 1)) = wrap64 (wrap64 (-x) - 1) := by unfold wrap64; omega

set_option maxHeartbeats 1000000 in
theorem xtie_any (g : Nat) (F : Nat → Prop) (x : Xc) (w : World) (h : IsX w g F x) (hq : x.small) :
    Calls Try.prog 25 #[.pointer (some ⟨g, 0, none⟩)] w fun e w' => e = .returned (.int .i64 x.pc.ansTie) ∧ IsX w' g F { x with T := x.T + 1 } ∧ Frm (fun k => k = g) w w' := by
  obtain ⟨v0, v1, v2, v3, hb, hF, h1, h2, h3, h4⟩ := h
  have hT : x.T ≤ 1000000 := hq.2.2.2.1
  clear hq
  have c0 := hb.at_ 2 rfl
  have c1 := hb.at_ 8 rfl
  have f1 := hb.frozen 8
  have hx := xnext_any F v2 x.t x.T w.drew h3
  go_enter Try.func25, Try.ntmps25
  go_wp2_with fail
  go_region_held3 (fun w' => w'.cell? ⟨g, 2, none⟩ = some v2 ∧ w'.cell? ⟨g, 8, none⟩ = some (.int .i64 (x.T : Int))) (go_keep)
    (first | (go_at_call 31; refine hx.mono ?_; rintro e w' ⟨rfl, rfl⟩))
  clear hx
  have hW : Frm (fun k => k = g) w ((w.setCell ⟨g, 8, none⟩ (.int .i64 ((x.T : Int) + 1))).drew) := ((Frm.refl (fun k => k = g) w).setCell (fun _ => rfl) _).drew
  have hP : IsX ((w.setCell ⟨g, 8, none⟩ (.int .i64 ((x.T : Int) + 1))).drew) g F { x with T := x.T + 1 } := ⟨v0, v1, v2, v3, (hb.set_ 8 _).drewN 1, hF, h1.frm hW hF, h2.frm hW hF, h3.frm hW hF, h4.frm hW hF⟩
  go_wp2
  all_goals go_ret
  · exact ⟨ret_int (by rw [wrap_tie]; show _ = if nxt x.t (kOf x.t x.T) < 0 then _ else _; rw [if_pos (by assumption)]; rfl), hP, hW⟩
  · exact ⟨ret_int (by show _ = if nxt x.t (kOf x.t x.T) < 0 then _ else _; rw [if_neg (by omega)]; rfl), hP, hW⟩

set_option maxHeartbeats 1000000 in
theorem xkeep_any (g : Nat) (F : Nat → Prop) (x : Xc) (s : Int) (w : World) (h : IsX w g F x) (hq : x.small) :
    Calls Try.prog 24 #[.pointer (some ⟨g, 0, none⟩), .int .i64 s] w fun e w' => e = .returned (.bool (x.pc.ansKeep s)) ∧ IsX w' g F (if s ≤ 2 then x else { x with K := x.K + 1 }) ∧ Frm (fun k => k = g) w w' := by
  have hh := h
  obtain ⟨v0, v1, v2, v3, hb, hF, h1, h2, h3, h4⟩ := h
  have hT : x.K ≤ 1000000 := hq.2.2.1
  clear hq
  have c0 := hb.at_ 1 rfl
  have c1 := hb.at_ 7 rfl
  have f1 := hb.frozen 7
  by_cases hs : s ≤ 2
  · have hd : x.pc.ansKeep s = true := by unfold Pc.ansKeep; rw [decide_eq_true hs]; rfl
    have HD := Lib.hid hd
    clear hd
    go_enter Try.func24, Try.ntmps24
    go_wp2
    go_ret
    exact ⟨ret_bool HD.out.symm, hh, Frm.refl _ _⟩
  · have hx := xnext_any F v1 x.p x.K w.drew h2
    have hd : x.pc.ansKeep s = (bits BinOp.and IntKind.i64 (nxt x.p (kOf x.p x.K)) 1 == 0) := by unfold Pc.ansKeep; rw [decide_eq_false hs]; rfl
    have HD := Lib.hid hd
    clear hd hh
    go_enter Try.func24, Try.ntmps24
    go_wp2_with fail
    go_region_held3 (fun w' => w'.cell? ⟨g, 1, none⟩ = some v1 ∧ w'.cell? ⟨g, 7, none⟩ = some (.int .i64 (x.K : Int))) (go_keep)
      (first | (go_at_call 31; refine hx.mono ?_; rintro e w' ⟨rfl, rfl⟩))
    clear hx
    have hW : Frm (fun k => k = g) w ((w.setCell ⟨g, 7, none⟩ (.int .i64 ((x.K : Int) + 1))).drew) := ((Frm.refl (fun k => k = g) w).setCell (fun _ => rfl) _).drew
    have hP : IsX ((w.setCell ⟨g, 7, none⟩ (.int .i64 ((x.K : Int) + 1))).drew) g F { x with K := x.K + 1 } := ⟨v0, v1, v2, v3, (hb.set_ 7 _).drewN 1, hF, h1.frm hW hF, h2.frm hW hF, h3.frm hW hF, h4.frm hW hF⟩
    go_wp2
    go_ret
    exact ⟨ret_bool HD.out.symm, hP, hW⟩

theorem four_or (n : Int) : four n = 0 ∨ four n = 1 ∨ four n = 2 ∨ four n = 3 := by
  unfold four
  have h := tmod_bounds n 4 (by omega)
  generalize n.tmod 4 = r at *
  have e1 : wrap64 (r + 4) = r + 4 := by unfold wrap64; omega
  rw [e1]
  have h2 := tmod_bounds (r + 4) 4 (by omega)
  have h3 : 0 ≤ (r + 4).tmod 4 := Int.tmod_nonneg _ (by omega)
  omega

theorem sg0 (n s : Int) (h : ((wrap64 (n.tmod 4 + 4)).tmod 4 == 0) = true) : (s == 1) = signOf n s := by
  have h' : (four n == 0) = true := h
  unfold signOf; rcases four_or n with e | e | e | e <;> simp [e] at h' ⊢
theorem sg1 (n s : Int) (h : ((wrap64 (n.tmod 4 + 4)).tmod 4 == 1) = true) : true = signOf n s := by
  have h' : (four n == 1) = true := h
  unfold signOf; rcases four_or n with e | e | e | e <;> simp [e] at h' ⊢
theorem sg2 (n s : Int) (h : ((wrap64 (n.tmod 4 + 4)).tmod 4 == 2) = true) : false = signOf n s := by
  have h' : (four n == 2) = true := h
  unfold signOf; rcases four_or n with e | e | e | e <;> simp [e] at h' ⊢
theorem sg3 (n s : Int) (h0 : ((wrap64 (n.tmod 4 + 4)).tmod 4 == 0) = false) (h1 : ((wrap64 (n.tmod 4 + 4)).tmod 4 == 1) = false) (h2 : ((wrap64 (n.tmod 4 + 4)).tmod 4 == 2) = false) : (s != 1) = signOf n s := by
  have h0' : (four n == 0) = false := h0
  have h1' : (four n == 1) = false := h1
  have h2' : (four n == 2) = false := h2
  unfold signOf; rcases four_or n with e | e | e | e <;> simp [e] at h0' h1' h2' ⊢ <;> rfl

set_option maxHeartbeats 2000000 in
theorem xsign_any (g : Nat) (F : Nat → Prop) (x : Xc) (saved : Int) (w : World) (h : IsX w g F x) (hq : x.small) :
    Calls Try.prog 26 #[.pointer (some ⟨g, 0, none⟩), .int .i64 saved] w fun e w' => e = .returned (.bool (x.pc.ansSign saved)) ∧ IsX w' g F { x with G := x.G + 1 } ∧ Frm (fun k => k = g) w w' := by
  obtain ⟨v0, v1, v2, v3, hb, hF, h1, h2, h3, h4⟩ := h
  have hT : x.G ≤ 1000000 := hq.2.2.2.2
  clear hq
  have c0 := hb.at_ 3 rfl
  have c1 := hb.at_ 9 rfl
  have f1 := hb.frozen 9
  have hx := xnext_any F v3 x.s x.G w.drew h4
  go_enter Try.func26, Try.ntmps26
  go_wp2_with fail
  go_region_held3 (fun w' => w'.cell? ⟨g, 3, none⟩ = some v3 ∧ w'.cell? ⟨g, 9, none⟩ = some (.int .i64 (x.G : Int))) (go_keep)
    (first | (go_at_call 31; refine hx.mono ?_; rintro e w' ⟨rfl, rfl⟩))
  clear hx
  have hW : Frm (fun k => k = g) w ((w.setCell ⟨g, 9, none⟩ (.int .i64 ((x.G : Int) + 1))).drew) := ((Frm.refl (fun k => k = g) w).setCell (fun _ => rfl) _).drew
  have hP : IsX ((w.setCell ⟨g, 9, none⟩ (.int .i64 ((x.G : Int) + 1))).drew) g F { x with G := x.G + 1 } := ⟨v0, v1, v2, v3, (hb.set_ 9 _).drewN 1, hF, h1.frm hW hF, h2.frm hW hF, h3.frm hW hF, h4.frm hW hF⟩
  clear h1 h2 h3 h4
  go_wp2
  all_goals go_ret
  · exact ⟨ret_bool (sg0 _ _ (by assumption)), hP, hW⟩
  · exact ⟨ret_bool (sg1 _ _ (by assumption)), hP, hW⟩
  · exact ⟨ret_bool (sg2 _ _ (by assumption)), hP, hW⟩
  · exact ⟨ret_bool (sg3 _ _ (by assumption) (by assumption) (by assumption)), hP, hW⟩

def Xc.doRestart (x : Xc) : Xc :=
  if x.since < x.least then x else if (bits BinOp.and IntKind.i64 (nxt x.r (kOf x.r x.R)) 1 == 0) = true then { x with R := x.R + 1 } else { x with R := x.R + 1, since := 0, least := x.least + 8 }

set_option maxHeartbeats 2000000 in
theorem xrestart_any (g : Nat) (F : Nat → Prop) (x : Xc) (w : World) (h : IsX w g F x) (hq : x.small) :
    Calls Try.prog 23 #[.pointer (some ⟨g, 0, none⟩)] w fun e w' => e = .returned (.bool x.pc.ansRestart) ∧ IsX w' g F x.doRestart ∧ Frm (fun k => k = g) w w' := by
  have hh := h
  obtain ⟨v0, v1, v2, v3, hb, hF, h1, h2, h3, h4⟩ := h
  have hT : x.R ≤ 1000000 := hq.2.1
  have q5 : 0 ≤ x.least := hq.1.2.2.2.2.1
  have q6 : x.least ≤ 100000000 := hq.1.2.2.2.2.2
  clear hq
  have c0 := hb.at_ 0 rfl
  have c1 := hb.at_ 6 rfl
  have c2 := hb.at_ 10 rfl
  have c3 := hb.at_ 11 rfl
  have f1 := hb.frozen 6
  have f2 := hb.frozen 10
  have f3 := hb.frozen 11
  by_cases hs : x.since < x.least
  · have hA : x.pc.ansRestart = false := if_pos hs
    have hD : x.doRestart = x := if_pos hs
    have HA := Lib.hid hA
    have HD := Lib.hid hD
    clear hA hD
    go_enter Try.func23, Try.ntmps23
    go_wp2_with fail
    go_quiet (fail)
    go_wp2
    go_ret
    exact ⟨ret_bool HA.out.symm, by rw [HD.out]; exact hh, (Frm.refl _ _).drewN _⟩
  · have hx := fun n => xnext_any F v0 x.r x.R (w.drewN n) h1
    go_enter Try.func23, Try.ntmps23
    go_wp2_with fail
    go_quiet (fail)
    go_wp2_with fail
    go_region_held3 (fun w' => w'.cell? ⟨g, 0, none⟩ = some v0 ∧ w'.cell? ⟨g, 6, none⟩ = some (.int .i64 (x.R : Int))) (go_keep)
      (first | (go_at_call 31; refine (hx _).mono ?_; rintro e w' ⟨rfl, rfl⟩))
    clear hx
    have hW1 : Frm (fun k => k = g) w ((w.setCell ⟨g, 6, none⟩ (.int .i64 ((x.R : Int) + 1))).drewN (nq + 1)) := ((Frm.refl (fun k => k = g) w).setCell (fun _ => rfl) _).drewN _
    have hW2 : Frm (fun k => k = g) w ((((w.setCell ⟨g, 6, none⟩ (.int .i64 ((x.R : Int) + 1))).setCell ⟨g, 11, none⟩ (.int .i64 0)).setCell ⟨g, 10, none⟩ (.int .i64 (x.least + 8))).drewN (nq + 1)) :=
      ((((Frm.refl (fun k => k = g) w).setCell (fun _ => rfl) _).setCell (fun _ => rfl) _).setCell (fun _ => rfl) _).drewN _
    go_wp2
    all_goals go_ret
    · have ht : (bits BinOp.and IntKind.i64 (nxt x.r (kOf x.r x.R)) 1 == 0) = true := by assumption
      have hA : x.pc.ansRestart = false := by unfold Pc.ansRestart; exact (if_neg (show ¬ x.since < x.least by omega)).trans (if_pos ht)
      have hD : x.doRestart = { x with R := x.R + 1 } := by unfold Xc.doRestart; rw [if_neg (by omega), if_pos ht]
      rw [hD]
      exact ⟨ret_bool hA.symm, ⟨v0, v1, v2, v3, (hb.set_ 6 _).drewN _, hF, h1.frm hW1 hF, h2.frm hW1 hF, h3.frm hW1 hF, h4.frm hW1 hF⟩, hW1⟩
    · have ht : ¬ (bits BinOp.and IntKind.i64 (nxt x.r (kOf x.r x.R)) 1 == 0) = true := by simp [*]
      have hA : x.pc.ansRestart = true := by unfold Pc.ansRestart; exact (if_neg (show ¬ x.since < x.least by omega)).trans (if_neg ht)
      have hD : x.doRestart = { x with R := x.R + 1, since := 0, least := x.least + 8 } := by unfold Xc.doRestart; rw [if_neg (by omega), if_neg ht]
      rw [hD]
      exact ⟨ret_bool hA.symm, ⟨v0, v1, v2, v3, ((((hb.set_ 6 _).set_ 11 _).set_ 10 _).drewN _), hF, h1.frm hW2 hF, h2.frm hW2 hF, h3.frm hW2 hF, h4.frm hW2 hF⟩, hW2⟩

/-! ### the program's pace in the state of the document's -/
/-- after at most k questions -/
def Xc.Bd (x : Xc) (k : Nat) : Prop := 0 ≤ x.came ∧ x.came ≤ k ∧ 0 ≤ x.since ∧ x.since ≤ k ∧ 0 ≤ x.least ∧ x.least ≤ 16 + 8 * k ∧ x.R ≤ k ∧ x.K ≤ k ∧ x.T ≤ k ∧ x.G ≤ k
theorem Xc.Bd.small {x : Xc} {k : Nat} (h : x.Bd k) (hk : k ≤ 1000) : x.small := by
  obtain ⟨h1, h2, h3, h4, h5, h6, h7, h8, h9, h10⟩ := h
  refine ⟨⟨?_, ?_, ?_, ?_, ?_, ?_⟩, by omega, by omega, by omega, by omega⟩ <;> show (_ : Int) ≤ _ <;> simp only [Xc.pc] <;> omega

theorem doRestart_pc (x : Xc) : x.pc.doRestart = x.doRestart.pc := by
  unfold Xc.doRestart
  show (if x.since < x.least then x.pc else if (bits BinOp.and IntKind.i64 (nxt x.r (kOf x.r x.R)) 1 == 0) = true then { x.pc with kr := nxtK x.r (kOf x.r x.R) } else { x.pc with kr := nxtK x.r (kOf x.r x.R), since := 0, least := x.least + 8 }) = _
  rw [nxtK_kOf]
  by_cases h1 : x.since < x.least
  · rw [if_pos h1, if_pos h1]
  · rw [if_neg h1, if_neg h1]
    by_cases h2 : (bits BinOp.and IntKind.i64 (nxt x.r (kOf x.r x.R)) 1 == 0) = true
    · rw [if_pos h2, if_pos h2]; rfl
    · rw [if_neg h2, if_neg h2]; rfl
theorem doTie_pc (x : Xc) : x.pc.doTie = ({ x with T := x.T + 1 } : Xc).pc := by
  show ({ x.pc with kt := nxtK x.t (kOf x.t x.T) } : Pc) = _; rw [nxtK_kOf]; rfl
theorem doSign_pc (x : Xc) : x.pc.doSign = ({ x with G := x.G + 1 } : Xc).pc := by
  show ({ x.pc with ks := nxtK x.s (kOf x.s x.G) } : Pc) = _; rw [nxtK_kOf]; rfl
theorem doKeep_pc (x : Xc) (s : Int) : x.pc.doKeep s = (if s ≤ 2 then x else { x with K := x.K + 1 } : Xc).pc := by
  unfold Pc.doKeep
  by_cases h : s ≤ 2
  · rw [if_pos h, if_pos h]
  · rw [if_neg h, if_neg h]
    show ({ x.pc with kp := nxtK x.p (kOf x.p x.K) } : Pc) = _; rw [nxtK_kOf]; rfl

theorem bd_restart {x : Xc} {k : Nat} (h : x.Bd k) : x.doRestart.Bd (k + 1) := by
  obtain ⟨h1, h2, h3, h4, h5, h6, h7, h8, h9, h10⟩ := h
  unfold Xc.doRestart
  split
  · exact ⟨h1, by omega, h3, by omega, h5, by omega, by omega, by omega, by omega, by omega⟩
  · split
    · exact ⟨h1, by show x.came ≤ _; omega, h3, by show x.since ≤ _; omega, h5, by show x.least ≤ _; omega, by show x.R + 1 ≤ _; omega, by show x.K ≤ _; omega, by show x.T ≤ _; omega, by show x.G ≤ _; omega⟩
    · exact ⟨h1, by show x.came ≤ _; omega, by show (0 : Int) ≤ 0; omega, by show (0 : Int) ≤ _; omega, by show 0 ≤ x.least + 8; omega, by show x.least + 8 ≤ _; omega, by show x.R + 1 ≤ _; omega, by show x.K ≤ _; omega, by show x.T ≤ _; omega, by show x.G ≤ _; omega⟩
theorem doRestart_most (x : Xc) : x.doRestart.most = x.most := by unfold Xc.doRestart; split <;> (try split) <;> rfl

end Go.Proofs.Ytfhillobhfaikaa
