/-
  The contracts of the pace's methods.
-/
import Derived.Test.YtfhillobhfaikaaPace
namespace Go.Proofs.Ytfhillobhfaikaa
open Go.RowKit

def Pc.doConflict (q : Pc) : Pc := { q with came := q.came + 1, since := q.since + 1 }
def Pc.ansConflict (q : Pc) : Bool := decide (q.most ≤ 0) || decide (q.came + 1 ≤ q.most)

/-- the counts are far from where they would wrap -/
def Pc.small (q : Pc) : Prop := 0 ≤ q.came ∧ q.came ≤ 1000000 ∧ 0 ≤ q.since ∧ q.since ≤ 1000000 ∧ 0 ≤ q.least ∧ q.least ≤ 100000000

set_option maxHeartbeats 400000 in
theorem least_any (g : Nat) (F : Nat → Prop) (q : Pc) (w : World) (h : IsPace w g F q) :
    Calls Try.prog 14 #[.pointer (some ⟨g, 0, none⟩)] w fun e w' => e = .returned (.int .i64 q.least) ∧ w = w' := by
  obtain ⟨vr, vp, vt, vs, hb, hF, h1, h2, h3, h4⟩ := h
  have c7 := hb.at_ 11 rfl
  go_enter Try.func14, Try.ntmps14
  go_wp2
  go_ret
  exact ⟨rfl, rfl⟩

set_option maxHeartbeats 400000 in
theorem left_any (g : Nat) (F : Nat → Prop) (q : Pc) (w : World) (h : IsPace w g F q) (hq : q.small) (hm : q.most ≤ 9223372036854775807) :
    Calls Try.prog 16 #[.pointer (some ⟨g, 0, none⟩)] w fun e w' => e = .returned (.int .i64 (if q.most ≤ 0 then -1 else max (q.most - q.came) 0)) ∧ ∃ n, w.drewN n = w' := by
  obtain ⟨vr, vp, vt, vs, hb, hF, h1, h2, h3, h4⟩ := h
  obtain ⟨q1, q2, q3, q4, q5, q6⟩ := hq
  have c4 := hb.at_ 8 rfl
  have c5 := hb.at_ 9 rfl
  by_cases hm0 : q.most ≤ 0
  · go_enter Try.func16, Try.ntmps16
    go_wp2
    go_ret
    exact ⟨by simp, 0, rfl⟩
  · go_enter Try.func16, Try.ntmps16
    go_wp2
    go_region
    all_goals go_wp2
    all_goals go_ret
    · exact ⟨ret_int (by omega), 1, rfl⟩
    · exact ⟨ret_int (by omega), 1, rfl⟩

set_option maxHeartbeats 400000 in
theorem conflict_any (g : Nat) (F : Nat → Prop) (q : Pc) (w : World) (h : IsPace w g F q) (hq : q.small) :
    Calls Try.prog 13 #[.pointer (some ⟨g, 0, none⟩)] w fun e w' => e = .returned (.bool q.ansConflict) ∧ IsPace w' g F q.doConflict ∧ Frm (fun k => k = g) w w' := by
  obtain ⟨vr, vp, vt, vs, hb, hF, h1, h2, h3, h4⟩ := h
  obtain ⟨q1, q2, q3, q4, q5, q6⟩ := hq
  have c4 := hb.at_ 8 rfl
  have c5 := hb.at_ 9 rfl
  have c6 := hb.at_ 10 rfl
  have f5 := hb.frozen 9
  have f6 := hb.frozen 10
  have hfr : ∀ (u v : Value) n, Frm (fun k => k = g) w (((w.drewN n).setCell ⟨g, 9, none⟩ u).setCell ⟨g, 10, none⟩ v) := fun u v n => (((Frm.refl (fun k => k = g) w).drewN n).setCell (fun _ => rfl) _).setCell (fun _ => rfl) _
  by_cases hm0 : q.most ≤ 0
  · go_enter Try.func13, Try.ntmps13
    go_wp2_with fail
    go_quiet (fail)
    go_wp2
    go_ret
    have hW := hfr (.int .i64 (q.came + 1)) (.int .i64 (q.since + 1)) nq
    exact ⟨ret_bool (by simp [Pc.ansConflict, hm0]), ⟨vr, vp, vt, vs, (((hb.drewN nq).set_ 9 _).set_ 10 _), hF, h1.frm hW hF, h2.frm hW hF, h3.frm hW hF, h4.frm hW hF⟩, hW⟩
  · have hd : decide (q.most ≤ 0) = false := by simpa using hm0
    go_enter Try.func13, Try.ntmps13
    go_wp2_with fail
    go_quiet (fail)
    go_wp2
    go_ret
    have hW := hfr (.int .i64 (q.came + 1)) (.int .i64 (q.since + 1)) nq
    exact ⟨ret_bool (by simp [Pc.ansConflict]; omega), ⟨vr, vp, vt, vs, (((hb.drewN nq).set_ 9 _).set_ 10 _), hF, h1.frm hW hF, h2.frm hW hF, h3.frm hW hF, h4.frm hW hF⟩, hW⟩

def Pc.doKeep (q : Pc) (score : Int) : Pc := if score ≤ 2 then q else { q with kp := nxtK q.p q.kp }
def Pc.ansKeep (q : Pc) (score : Int) : Bool := decide (score ≤ 2) || (bits BinOp.and IntKind.i64 (nxt q.p q.kp) 1 == 0)

theorem nxtK_lt {l : List Int} {k : Nat} (_h : l ≠ [] → k < l.length) (hl : l ≠ []) : nxtK l k < l.length := by
  unfold nxtK; rw [if_neg hl]; exact Nat.mod_lt _ (List.length_pos_iff.2 hl)

set_option maxHeartbeats 400000 in
theorem keep_any (g : Nat) (F : Nat → Prop) (q : Pc) (score : Int) (w : World) (h : IsPace w g F q) :
    Calls Try.prog 18 #[.pointer (some ⟨g, 0, none⟩), .int .i64 score] w fun e w' => e = .returned (.bool (q.ansKeep score)) ∧ IsPace w' g F (q.doKeep score) ∧ Frm (fun k => k = g) w w' := by
  have hh := h
  obtain ⟨vr, vp, vt, vs, hb, hF, h1, h2, h3, h4⟩ := h
  have c2 := hb.at_ 2 rfl
  have c3 := hb.at_ 3 rfl
  have f3 := hb.frozen 3
  by_cases hs : score ≤ 2
  · go_enter Try.func18, Try.ntmps18
    go_wp2
    go_ret
    refine ⟨ret_bool (by simp [Pc.ansKeep, hs]), by unfold Pc.doKeep; rw [if_pos hs]; exact hh, Frm.refl _ _⟩
  · have hd : decide (score ≤ 2) = false := by simpa using hs
    go_enter Try.func18, Try.ntmps18
    go_wp2_with fail
    refine (next_any g 2 F vp q.p q.kp w (by have := h2.1; omega) h2.2.1 c2 c3 f3 h2.2.2).mono ?_
    rintro e w' ⟨rfl, n, rfl⟩
    go_wp2
    go_ret
    have hW : Frm (fun k => k = g) w ((w.drewN n).setCell ⟨g, 3, none⟩ (.int .i64 (nxtK q.p q.kp : Int))) := ((Frm.refl (fun k => k = g) w).drewN n).setCell (fun _ => rfl) _
    have hq : q.doKeep score = { q with kp := nxtK q.p q.kp } := if_neg (by omega)
    rw [hq]
    exact ⟨ret_bool (by simp [Pc.ansKeep, hd]), ⟨vr, vp, vt, vs, (hb.drewN n).set_ 3 _, hF, h1.frm hW hF, ⟨h2.1, nxtK_lt h2.2.1, (h2.frm hW hF).2.2⟩, h3.frm hW hF, h4.frm hW hF⟩, hW⟩

def Pc.doTie (q : Pc) : Pc := { q with kt := nxtK q.t q.kt }
def Pc.ansTie (q : Pc) : Int := if nxt q.t q.kt < 0 then wrap64 (wrap64 (-nxt q.t q.kt) - 1) else nxt q.t q.kt

set_option maxHeartbeats 400000 in
theorem tie_any (g : Nat) (F : Nat → Prop) (q : Pc) (w : World) (h : IsPace w g F q) :
    Calls Try.prog 19 #[.pointer (some ⟨g, 0, none⟩)] w fun e w' => e = .returned (.int .i64 q.ansTie) ∧ IsPace w' g F q.doTie ∧ Frm (fun k => k = g) w w' := by
  obtain ⟨vr, vp, vt, vs, hb, hF, h1, h2, h3, h4⟩ := h
  have c2 := hb.at_ 4 rfl
  have c3 := hb.at_ 5 rfl
  have f3 := hb.frozen 5
  go_enter Try.func19, Try.ntmps19
  go_wp2_with fail
  refine (next_any g 4 F vt q.t q.kt w (by have := h3.1; omega) h3.2.1 c2 c3 f3 h3.2.2).mono ?_
  rintro e w' ⟨rfl, n, rfl⟩
  have hW : Frm (fun k => k = g) w ((w.drewN n).setCell ⟨g, 5, none⟩ (.int .i64 (nxtK q.t q.kt : Int))) := ((Frm.refl (fun k => k = g) w).drewN n).setCell (fun _ => rfl) _
  have hP : IsPace ((w.drewN n).setCell ⟨g, 5, none⟩ (.int .i64 (nxtK q.t q.kt : Int))) g F q.doTie := ⟨vr, vp, vt, vs, (hb.drewN n).set_ 5 _, hF, h1.frm hW hF, h2.frm hW hF, ⟨h3.1, nxtK_lt h3.2.1, (h3.frm hW hF).2.2⟩, h4.frm hW hF⟩
  go_wp2
  all_goals go_ret
  · exact ⟨ret_int (by unfold Pc.ansTie; rw [if_pos (by assumption)]), hP, hW⟩
  · exact ⟨ret_int (by unfold Pc.ansTie; rw [if_neg (by omega)]), hP, hW⟩

def four (x : Int) : Int := (wrap64 (x.tmod 4 + 4)).tmod 4
def signOf (x saved : Int) : Bool := if (four x == 3) = true then !(saved == 1) else if (four x == 1) = true then true else if (four x == 0) = true then (saved == 1) else false
def Pc.ansSign (q : Pc) (saved : Int) : Bool := signOf (nxt q.s q.ks) saved
def Pc.doSign (q : Pc) : Pc := { q with ks := nxtK q.s q.ks }

set_option maxHeartbeats 400000 in
theorem sign_any (g : Nat) (F : Nat → Prop) (q : Pc) (saved : Int) (w : World) (h : IsPace w g F q) :
    Calls Try.prog 17 #[.pointer (some ⟨g, 0, none⟩), .int .i64 saved] w fun e w' => e = .returned (.bool (q.ansSign saved)) ∧ IsPace w' g F q.doSign ∧ Frm (fun k => k = g) w w' := by
  obtain ⟨vr, vp, vt, vs, hb, hF, h1, h2, h3, h4⟩ := h
  have c2 := hb.at_ 6 rfl
  have c3 := hb.at_ 7 rfl
  have f3 := hb.frozen 7
  go_enter Try.func17, Try.ntmps17
  go_wp2_with fail
  refine (next_any g 6 F vs q.s q.ks w (by have := h4.1; omega) h4.2.1 c2 c3 f3 h4.2.2).mono ?_
  rintro e w' ⟨rfl, n, rfl⟩
  have hW : Frm (fun k => k = g) w ((w.drewN n).setCell ⟨g, 7, none⟩ (.int .i64 (nxtK q.s q.ks : Int))) := ((Frm.refl (fun k => k = g) w).drewN n).setCell (fun _ => rfl) _
  have hP : IsPace ((w.drewN n).setCell ⟨g, 7, none⟩ (.int .i64 (nxtK q.s q.ks : Int))) g F q.doSign := ⟨vr, vp, vt, vs, (hb.drewN n).set_ 7 _, hF, h1.frm hW hF, h2.frm hW hF, h3.frm hW hF, ⟨h4.1, nxtK_lt h4.2.1, (h4.frm hW hF).2.2⟩⟩
  clear h1 h2 h3 h4 c2 c3 f3 hb hF
  go_wp2
  all_goals go_ret
  all_goals exact ⟨ret_bool (by unfold Pc.ansSign signOf four; simp [*]), hP, hW⟩

def Pc.doRestart (q : Pc) : Pc :=
  if q.since < q.least then q else if (bits BinOp.and IntKind.i64 (nxt q.r q.kr) 1 == 0) = true then { q with kr := nxtK q.r q.kr }
  else { q with kr := nxtK q.r q.kr, since := 0, least := q.least + 8 }
def Pc.ansRestart (q : Pc) : Bool := if q.since < q.least then false else if (bits BinOp.and IntKind.i64 (nxt q.r q.kr) 1 == 0) = true then false else true

set_option maxHeartbeats 400000 in
theorem restart_any (g : Nat) (F : Nat → Prop) (q : Pc) (w : World) (h : IsPace w g F q) (hq : q.small) :
    Calls Try.prog 15 #[.pointer (some ⟨g, 0, none⟩)] w fun e w' => e = .returned (.bool q.ansRestart) ∧ IsPace w' g F q.doRestart ∧ Frm (fun k => k = g) w w' := by
  have hh := h
  obtain ⟨vr, vp, vt, vs, hb, hF, h1, h2, h3, h4⟩ := h
  obtain ⟨q1, q2, q3, q4, q5, q6⟩ := hq
  have c0 := hb.at_ 0 rfl
  have c1 := hb.at_ 1 rfl
  have c6 := hb.at_ 10 rfl
  have c7 := hb.at_ 11 rfl
  have f1 := hb.frozen 1
  have f6 := hb.frozen 10
  have f7 := hb.frozen 11
  by_cases hs : q.since < q.least
  · go_enter Try.func15, Try.ntmps15
    go_wp2_with fail
    go_quiet (fail)
    go_wp2
    go_ret
    refine ⟨ret_bool (by unfold Pc.ansRestart; rw [if_pos hs]), by unfold Pc.doRestart; rw [if_pos hs]; exact hh, (Frm.refl _ _).drewN _⟩
  · have hd : decide (q.since < q.least) = false := by simpa using hs
    have hb1 : q.r.length ≤ 140737488351232 := by have := h1.1; omega
    go_enter Try.func15, Try.ntmps15
    go_wp2_with fail
    go_region_held3 (fun w' => w'.cell? ⟨g, 10, none⟩ = some (.int .i64 q.since) ∧ w'.cell? ⟨g, 11, none⟩ = some (.int .i64 q.least))
      (first | (go_keep; done) | exact ⟨(World.cell?_setCell_other _ _ _ _ (by simp)).trans c6, (World.cell?_setCell_other _ _ _ _ (by simp)).trans c7⟩)
      (first | (go_at_call 30; refine (next_any g 0 F vr q.r q.kr w.drew hb1 h1.2.1 c0 c1 f1 h1.2.2).mono ?_; rintro e w' ⟨rfl, n, rfl⟩))
    go_wp2
    all_goals go_ret
    · have ht : (bits BinOp.and IntKind.i64 (nxt q.r q.kr) 1 == 0) = true := by assumption
      have hW : Frm (fun k => k = g) w ((w.drewN (1 + n)).setCell ⟨g, 1, none⟩ (.int .i64 (nxtK q.r q.kr : Int))) := ((Frm.refl (fun k => k = g) w).drewN _).setCell (fun _ => rfl) _
      have e1 : q.doRestart = { q with kr := nxtK q.r q.kr } := by unfold Pc.doRestart; rw [if_neg (by omega), if_pos ht]
      rw [e1]
      exact ⟨ret_bool (by unfold Pc.ansRestart; rw [if_neg (by omega), if_pos ht]), ⟨vr, vp, vt, vs, (hb.drewN _).set_ 1 _, hF, ⟨h1.1, nxtK_lt h1.2.1, (h1.frm hW hF).2.2⟩, h2.frm hW hF, h3.frm hW hF, h4.frm hW hF⟩, hW⟩
    · have ht : ¬ (bits BinOp.and IntKind.i64 (nxt q.r q.kr) 1 == 0) = true := by simp [*]
      have hW : Frm (fun k => k = g) w ((((w.drewN (1 + n)).setCell ⟨g, 1, none⟩ (.int .i64 (nxtK q.r q.kr : Int))).setCell ⟨g, 10, none⟩ (.int .i64 0)).setCell ⟨g, 11, none⟩ (.int .i64 (q.least + 8))) :=
        ((((Frm.refl (fun k => k = g) w).drewN _).setCell (fun _ => rfl) _).setCell (fun _ => rfl) _).setCell (fun _ => rfl) _
      have e1 : q.doRestart = { q with kr := nxtK q.r q.kr, since := 0, least := q.least + 8 } := by unfold Pc.doRestart; rw [if_neg (by omega), if_neg ht]
      rw [e1]
      exact ⟨ret_bool (by unfold Pc.ansRestart; rw [if_neg (by omega), if_neg ht]), ⟨vr, vp, vt, vs, (((hb.drewN _).set_ 1 _).set_ 10 _).set_ 11 _, hF, ⟨h1.1, nxtK_lt h1.2.1, (h1.frm hW hF).2.2⟩, h2.frm hW hF, h3.frm hW hF, h4.frm hW hF⟩, hW⟩

end Go.Proofs.Ytfhillobhfaikaa
