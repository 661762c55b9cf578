/-
  The walk of PacePlays.
-/
import Derived.Test.YtfhillobhfaikaaPaceRef
namespace Go.Proofs.Ytfhillobhfaikaa
open Go.RowKit

/-- both paces, in one state, after at most k questions; nothing else has turned -/
structure Two (w w0 wr : World) (g gx : Nat) (m : Int) (k : Nat) (x : Xc) : Prop where
  hp : IsPace wr g (fun k => w0.heap.size ≤ k ∧ k < g) x.pc
  hx : IsX wr gx (fun k => k < w.heap.size) x
  bd : x.Bd k
  most : x.most = m
  fr : Frm (fun _ => False) w wr

theorem Two.drewN {w w0 wr : World} {g gx : Nat} {m : Int} {k : Nat} {x : Xc} (h : Two w w0 wr g gx m k x) (n : Nat) : Two w w0 (wr.drewN n) g gx m k x := ⟨h.hp, h.hx, h.bd, h.most, h.fr.drewN n⟩

/-- one question: first the program's pace answers (only g turns), then the document's (only gx turns) -/
theorem Two.step {w w0 wr w1 w2 : World} {g gx : Nat} {m : Int} {k : Nat} {x x' : Xc} (h : Two w w0 wr g gx m k x) (h0 : w.heap.size ≤ w0.heap.size) (hg : w0.heap.size ≤ g) (hgx : g < gx)
    (hp : IsPace w1 g (fun k => w0.heap.size ≤ k ∧ k < g) x'.pc) (hf1 : Frm (fun k => k = g) wr w1) (hx : IsX w2 gx (fun k => k < w.heap.size) x') (hf2 : Frm (fun k => k = gx) w1 w2) (hb : x'.Bd (k + 1)) (hm : x'.most = x.most) :
    Two w w0 w2 g gx m (k + 1) x' :=
  ⟨hp.frm hf2 (by omega) (fun k hk e => by omega), hx, hb, hm.trans h.most, (h.fr.then' hf1 (fun k hk e => by omega)).then' hf2 (fun k hk e => by omega)⟩

/-- what is left, under a name -/
def leftOf (x : Xc) : Int := if x.most ≤ 0 then -1 else max (x.most - x.came) 0

section
variable {w w0 wr : World} {g gx : Nat} {m : Int} {k : Nat} {x : Xc}
theorem pl_conflict (h : Two w w0 wr g gx m k x) (hk : k ≤ 900) :
    Calls Try.prog 13 #[.pointer (some ⟨g, 0, none⟩)] wr fun e w' => e = .returned (.bool x.pc.ansConflict) ∧ IsPace w' g (fun k => w0.heap.size ≤ k ∧ k < g) ({ x with came := x.came + 1, since := x.since + 1 } : Xc).pc ∧ Frm (fun k => k = g) wr w' :=
  conflict_any g _ _ wr h.hp (h.bd.small (by omega)).1
theorem pl_restart (h : Two w w0 wr g gx m k x) (hk : k ≤ 900) :
    Calls Try.prog 15 #[.pointer (some ⟨g, 0, none⟩)] wr fun e w' => e = .returned (.bool x.pc.ansRestart) ∧ IsPace w' g (fun k => w0.heap.size ≤ k ∧ k < g) x.doRestart.pc ∧ Frm (fun k => k = g) wr w' := by
  have := restart_any g _ _ wr h.hp (h.bd.small (by omega)).1
  rwa [doRestart_pc] at this
theorem pl_keep (s : Int) (h : Two w w0 wr g gx m k x) :
    Calls Try.prog 18 #[.pointer (some ⟨g, 0, none⟩), .int .i64 s] wr fun e w' => e = .returned (.bool (x.pc.ansKeep s)) ∧ IsPace w' g (fun k => w0.heap.size ≤ k ∧ k < g) (if s ≤ 2 then x else { x with K := x.K + 1 } : Xc).pc ∧ Frm (fun k => k = g) wr w' := by
  have := keep_any g _ _ s wr h.hp
  rwa [doKeep_pc] at this
theorem pl_tie (h : Two w w0 wr g gx m k x) :
    Calls Try.prog 19 #[.pointer (some ⟨g, 0, none⟩)] wr fun e w' => e = .returned (.int .i64 x.pc.ansTie) ∧ IsPace w' g (fun k => w0.heap.size ≤ k ∧ k < g) ({ x with T := x.T + 1 } : Xc).pc ∧ Frm (fun k => k = g) wr w' := by
  have := tie_any g _ _ wr h.hp
  rwa [doTie_pc] at this
theorem pl_sign (s : Int) (h : Two w w0 wr g gx m k x) :
    Calls Try.prog 17 #[.pointer (some ⟨g, 0, none⟩), .int .i64 s] wr fun e w' => e = .returned (.bool (x.pc.ansSign s)) ∧ IsPace w' g (fun k => w0.heap.size ≤ k ∧ k < g) ({ x with G := x.G + 1 } : Xc).pc ∧ Frm (fun k => k = g) wr w' := by
  have := sign_any g _ _ s wr h.hp
  rwa [doSign_pc] at this
theorem pl_least (h : Two w w0 wr g gx m k x) :
    Calls Try.prog 14 #[.pointer (some ⟨g, 0, none⟩)] wr fun e w' => e = .returned (.int .i64 x.least) ∧ w' = wr := (least_any g _ _ wr h.hp).mono fun _ _ ⟨a, b⟩ => ⟨a, b.symm⟩
theorem pl_left (h : Two w w0 wr g gx m k x) (hk : k ≤ 900) (hm : m ≤ 9223372036854775807) :
    Calls Try.prog 16 #[.pointer (some ⟨g, 0, none⟩)] wr fun e w' => e = .returned (.int .i64 (leftOf x)) ∧ ∃ n, w' = wr.drewN n :=
  (left_any g _ _ wr h.hp (h.bd.small (by omega)).1 (by show x.most ≤ _; rw [h.most]; exact hm)).mono fun _ _ ⟨a, n, b⟩ => ⟨a, n, b.symm⟩
theorem pl_xleft (h : Two w w0 wr g gx m k x) (hk : k ≤ 900) (hm : m ≤ 9223372036854775807) :
    Calls Try.prog 27 #[.pointer (some ⟨gx, 0, none⟩)] wr fun e w' => e = .returned (.int .i64 (leftOf x)) ∧ ∃ n, w' = wr.drewN n :=
  (xleft_any gx _ _ wr h.hx (h.bd.small (by omega)) (by rw [h.most]; exact hm)).mono fun _ _ ⟨a, n, b⟩ => ⟨a, n, b.symm⟩
theorem Two.cell (h : Two w w0 wr g gx m k x) : wr.cell? ⟨gx, 10, none⟩ = some (.int .i64 x.least) := by
  obtain ⟨_, _, _, _, hb, _⟩ := h.hx
  exact hb.at_ 10 rfl
end

set_option maxRecDepth 100000 in
set_option maxHeartbeats 8000000 in
theorem plays_any (a0 a1 a2 a3 : Option Addr) (c0 c1 c2 c3 : Nat) (z0 z1 z2 z3 : List Int) (m r : Int) (a4 : Option Addr) (len4 cap4 : Nat) (z4 : List Int) (hz4 : z4.length = len4) (w : World) (hm : m ≤ 9223372036854775807)
    (s0 : Sl w (fun k => k < w.heap.size) 1 (.slice a0 z0.length c0) z0.length (z0.map (.int .i64))) (s1 : Sl w (fun k => k < w.heap.size) 1 (.slice a1 z1.length c1) z1.length (z1.map (.int .i64)))
    (s2 : Sl w (fun k => k < w.heap.size) 1 (.slice a2 z2.length c2) z2.length (z2.map (.int .i64))) (s3 : Sl w (fun k => k < w.heap.size) 1 (.slice a3 z3.length c3) z3.length (z3.map (.int .i64)))
    (s4 : Sl w (fun k => k < w.heap.size) 1 (.slice a4 len4 cap4) len4 (z4.map (.int .i64)))
    (h0 : z0.length ≤ 50) (h1 : z1.length ≤ 50) (h2 : z2.length ≤ 50) (h3 : z3.length ≤ 50) (h4 : len4 ≤ 200) :
    Calls Try.prog 7 #[.agg #[.slice a0 z0.length c0, .slice a1 z1.length c1, .slice a2 z2.length c2, .slice a3 z3.length c3, .int .i64 m, .int .i64 r], .slice a4 len4 cap4] w fun e w' => e = .returned (.bool true) ∧ Frm (fun _ => False) w w' := by
  have HZ := Lib.hid hz4
  clear hz4
  have h4' : decide ((200 : Int) < (len4 : Int)) = false := by simp; omega
  go_enter Try.func7, Try.ntmps7
  go_wp2_with fail
  refine (first_any _).mono ?_
  rintro e w1 ⟨rfl, hf1⟩
  have hb := (Blk.new w 24 [.slice a0 z0.length c0, .slice a1 z1.length c1, .slice a2 z2.length c2, .slice a3 z3.length c3, .int .i64 m, .int .i64 r]).frm hf1 (fun h => h)
  have k0 := hb.at_ 0 rfl
  have k1 := hb.at_ 1 rfl
  have k2 := hb.at_ 2 rfl
  have k3 := hb.at_ 3 rfl
  have k4 := hb.at_ 4 rfl
  have k5 := hb.at_ 5 rfl
  have hf01 : Frm (fun _ => False) w w1 := ((Frm.refl (fun _ => False) w).alloc _).trans hf1
  clear hf1
  go_wp2_with fail
  refine (small_yes a0 a1 a2 a3 _ _ _ _ c0 c1 c2 c3 m r w1 h0 h1 h2 h3).mono ?_
  rintro e w2 ⟨rfl, hf2⟩
  have hb2 := hb.frm hf2 (fun h => h)
  clear k0 k1 k2 k3 k4 k5 hb
  have k0 := hb2.at_ 0 rfl
  have k1 := hb2.at_ 1 rfl
  have k2 := hb2.at_ 2 rfl
  have k3 := hb2.at_ 3 rfl
  have k4 := hb2.at_ 4 rfl
  have k5 := hb2.at_ 5 rfl
  have hf02 := hf01.trans hf2
  clear hf01 hf2
  go_wp2_with fail
  refine (new_any _ _ _ _ z0 z1 z2 z3 m r (fun k => k < w.heap.size) w2 (s0.frm hf02 (fun _ _ => id)) (s1.frm hf02 (fun _ _ => id)) (s2.frm hf02 (fun _ _ => id)) (s3.frm hf02 (fun _ _ => id)) (by omega) (by omega) (by omega) (by omega)).mono ?_
  rintro e w3 ⟨g, rfl, hg, hp, hf3⟩
  have hb3 := hb2.frm hf3 (fun h => h)
  clear k0 k1 k2 k3 k4 k5 hb2
  have k0 := hb3.at_ 0 rfl
  have k1 := hb3.at_ 1 rfl
  have k2 := hb3.at_ 2 rfl
  have k3 := hb3.at_ 3 rfl
  have k4 := hb3.at_ 4 rfl
  have k5 := hb3.at_ 5 rfl
  have hf03 := hf02.trans hf3
  have h02 := hf02.size
  have hgl := hp.lt
  clear hf3
  go_wp2_with fail
  refine (xnew_any _ _ _ _ z0 z1 z2 z3 m r (fun k => k < w.heap.size) w3 (fun k hk => Nat.lt_of_lt_of_le hk hf03.size) ⟨by omega, s0.frm hf03 (fun _ _ => id)⟩ ⟨by omega, s1.frm hf03 (fun _ _ => id)⟩ ⟨by omega, s2.frm hf03 (fun _ _ => id)⟩ ⟨by omega, s3.frm hf03 (fun _ _ => id)⟩).mono ?_
  rintro e w4 ⟨gx, rfl, hgx0, hx, hf4⟩
  have hgx : g < gx := by omega
  have hf04 := hf03.trans hf4
  have hp4 := hp.frm hf4 (fun h => h) (fun _ _ => id)
  have ht : Two w w2 w4 g gx m 0 ⟨z0, z1, z2, z3, m, r, 0, 0, 0, 0, 16, 0, 0⟩ :=
    ⟨by have e1 : (⟨z0, z1, z2, z3, m, r, 0, 0, 0, 0, 16, 0, 0⟩ : Xc).pc = Pc.start z0 z1 z2 z3 m := by simp [Xc.pc, Pc.start, kOf]
        rw [e1]; exact hp4, hx, by simp [Xc.Bd], rfl, hf04⟩
  clear hp hp4 hx hf4 hf02 hf03 hf04 s0 s1 s2 s3 h0 h1 h2 h3 k0 k1 k2 k3 k4 k5 hb3 hgx0 hgl
  go_wp2_with fail
  go_loopw [8] (fun i wr => ∃ (k : Nat) (x : Xc), k ≤ len4 ∧ i = .int .i64 k ∧ Two w w2 wr g gx m k x) (fun i _ => len4 - (intOf i).toNat)
  case atStart => exact ⟨0, _, by omega, rfl, ht⟩
  case round =>
    obtain ⟨k, x, hk, rfl, htk⟩ := hrel
    by_cases hlt : k < len4
    · have sk := s4.frm htk.fr (fun _ _ => id)
      obtain ⟨b, o, u, rfl, _, hu, hcell⟩ := sk.at_ hlt
      obtain rfl := at_getD hu
      clear hu sk
      generalize z4.getD k 0 = y at *
      have hk9 : k ≤ 900 := by omega
      go_wp2_with fail
      refine (number_any y 70 wr (by omega) (by omega)).mono ?_
      rintro e w' ⟨rfl, rfl⟩
      have hN0 : 0 ≤ y % 70 := by omega
      have hN1 : y % 70 < 70 := by omega
      generalize y % 70 = M at *
      have hr : M % 7 = 0 ∨ M % 7 = 1 ∨ M % 7 = 2 ∨ M % 7 = 3 ∨ M % 7 = 4 ∨ M % 7 = 5 ∨ M % 7 = 6 := by omega
      clear hcell
      rcases hr with hr | hr | hr | hr | hr | hr | hr
      · go_wp2_with fail
        refine (pl_conflict htk hk9).mono ?_
        rintro e w5 ⟨rfl, hp5, hf5⟩
        go_wp2_with fail
        refine (xconflict_any gx _ x w5 (htk.hx.frm hf5 (by omega) (fun k hk e => by omega)) (htk.bd.small (by omega))).mono ?_
        rintro e w6 ⟨rfl, hx6, hf6⟩
        have ht2 := htk.step (x' := { x with came := x.came + 1, since := x.since + 1 }) h02 hg hgx hp5 hf5 hx6 hf6 (by obtain ⟨b1, b2, b3, b4, b5, b6, b7, b8, b9, b10⟩ := htk.bd; exact ⟨by show 0 ≤ x.came + 1; omega, by show x.came + 1 ≤ _; omega, by show 0 ≤ x.since + 1; omega, by show x.since + 1 ≤ _; omega, b5, by show x.least ≤ _; omega, by show x.R ≤ _; omega, by show x.K ≤ _; omega, by show x.T ≤ _; omega, by show x.G ≤ _; omega⟩) rfl
        have hc := ht2.cell
        clear htk hp5 hf5 hx6 hf6
        go_wp2_with fail
        go_region_held3 (fun w' => Two w w2 w' g gx m (k + 1) ({ x with came := x.came + 1, since := x.since + 1 }) ∧ w'.cell? ⟨gx, 10, none⟩ = some (.int .i64 ({ x with came := x.came + 1, since := x.since + 1 } : Xc).least))
          (first | exact ⟨ht2.drewN _, hc⟩ | exact ⟨ht2, hc⟩)
          (first
            | (go_at_call 14; refine (pl_least (ht2.drewN _)).mono ?_; rintro e w' ⟨rfl, rfl⟩)
            | (go_at_call 16; refine (pl_left (ht2.drewN _) (by omega) hm).mono ?_; rintro e w' ⟨rfl, n1, rfl⟩)
            | (go_at_call 27; refine (pl_xleft (ht2.drewN _) (by omega) hm).mono ?_; rintro e w' ⟨rfl, n2, rfl⟩))
        go_wp2_with fail
        go_roundw
        case rel => exact ⟨k + 1, _, by omega, by go_num, ht2.drewN _⟩
        case measure => simp [intOf]; omega
      · go_wp2_with fail
        refine (pl_conflict htk hk9).mono ?_
        rintro e w5 ⟨rfl, hp5, hf5⟩
        go_wp2_with fail
        refine (xconflict_any gx _ x w5 (htk.hx.frm hf5 (by omega) (fun k hk e => by omega)) (htk.bd.small (by omega))).mono ?_
        rintro e w6 ⟨rfl, hx6, hf6⟩
        have ht2 := htk.step (x' := { x with came := x.came + 1, since := x.since + 1 }) h02 hg hgx hp5 hf5 hx6 hf6 (by obtain ⟨b1, b2, b3, b4, b5, b6, b7, b8, b9, b10⟩ := htk.bd; exact ⟨by show 0 ≤ x.came + 1; omega, by show x.came + 1 ≤ _; omega, by show 0 ≤ x.since + 1; omega, by show x.since + 1 ≤ _; omega, b5, by show x.least ≤ _; omega, by show x.R ≤ _; omega, by show x.K ≤ _; omega, by show x.T ≤ _; omega, by show x.G ≤ _; omega⟩) rfl
        have hc := ht2.cell
        clear htk hp5 hf5 hx6 hf6
        go_wp2_with fail
        go_region_held3 (fun w' => Two w w2 w' g gx m (k + 1) ({ x with came := x.came + 1, since := x.since + 1 }) ∧ w'.cell? ⟨gx, 10, none⟩ = some (.int .i64 ({ x with came := x.came + 1, since := x.since + 1 } : Xc).least))
          (first | exact ⟨ht2.drewN _, hc⟩ | exact ⟨ht2, hc⟩)
          (first
            | (go_at_call 14; refine (pl_least (ht2.drewN _)).mono ?_; rintro e w' ⟨rfl, rfl⟩)
            | (go_at_call 16; refine (pl_left (ht2.drewN _) (by omega) hm).mono ?_; rintro e w' ⟨rfl, n1, rfl⟩)
            | (go_at_call 27; refine (pl_xleft (ht2.drewN _) (by omega) hm).mono ?_; rintro e w' ⟨rfl, n2, rfl⟩))
        go_wp2_with fail
        go_roundw
        case rel => exact ⟨k + 1, _, by omega, by go_num, ht2.drewN _⟩
        case measure => simp [intOf]; omega
      · go_wp2_with fail
        refine (pl_conflict htk hk9).mono ?_
        rintro e w5 ⟨rfl, hp5, hf5⟩
        go_wp2_with fail
        refine (xconflict_any gx _ x w5 (htk.hx.frm hf5 (by omega) (fun k hk e => by omega)) (htk.bd.small (by omega))).mono ?_
        rintro e w6 ⟨rfl, hx6, hf6⟩
        have ht2 := htk.step (x' := { x with came := x.came + 1, since := x.since + 1 }) h02 hg hgx hp5 hf5 hx6 hf6 (by obtain ⟨b1, b2, b3, b4, b5, b6, b7, b8, b9, b10⟩ := htk.bd; exact ⟨by show 0 ≤ x.came + 1; omega, by show x.came + 1 ≤ _; omega, by show 0 ≤ x.since + 1; omega, by show x.since + 1 ≤ _; omega, b5, by show x.least ≤ _; omega, by show x.R ≤ _; omega, by show x.K ≤ _; omega, by show x.T ≤ _; omega, by show x.G ≤ _; omega⟩) rfl
        have hc := ht2.cell
        clear htk hp5 hf5 hx6 hf6
        go_wp2_with fail
        go_region_held3 (fun w' => Two w w2 w' g gx m (k + 1) ({ x with came := x.came + 1, since := x.since + 1 }) ∧ w'.cell? ⟨gx, 10, none⟩ = some (.int .i64 ({ x with came := x.came + 1, since := x.since + 1 } : Xc).least))
          (first | exact ⟨ht2.drewN _, hc⟩ | exact ⟨ht2, hc⟩)
          (first
            | (go_at_call 14; refine (pl_least (ht2.drewN _)).mono ?_; rintro e w' ⟨rfl, rfl⟩)
            | (go_at_call 16; refine (pl_left (ht2.drewN _) (by omega) hm).mono ?_; rintro e w' ⟨rfl, n1, rfl⟩)
            | (go_at_call 27; refine (pl_xleft (ht2.drewN _) (by omega) hm).mono ?_; rintro e w' ⟨rfl, n2, rfl⟩))
        go_wp2_with fail
        go_roundw
        case rel => exact ⟨k + 1, _, by omega, by go_num, ht2.drewN _⟩
        case measure => simp [intOf]; omega
      · go_wp2_with fail
        refine (pl_restart htk hk9).mono ?_
        rintro e w5 ⟨rfl, hp5, hf5⟩
        go_wp2_with fail
        refine (xrestart_any gx _ x w5 (htk.hx.frm hf5 (by omega) (fun k hk e => by omega)) (htk.bd.small (by omega))).mono ?_
        rintro e w6 ⟨rfl, hx6, hf6⟩
        have ht2 := htk.step (x' := x.doRestart) h02 hg hgx hp5 hf5 hx6 hf6 (bd_restart htk.bd) (doRestart_most x)
        have hc := ht2.cell
        clear htk hp5 hf5 hx6 hf6
        go_wp2_with fail
        go_region_held3 (fun w' => Two w w2 w' g gx m (k + 1) (x.doRestart) ∧ w'.cell? ⟨gx, 10, none⟩ = some (.int .i64 (x.doRestart : Xc).least))
          (first | exact ⟨ht2.drewN _, hc⟩ | exact ⟨ht2, hc⟩)
          (first
            | (go_at_call 14; refine (pl_least (ht2.drewN _)).mono ?_; rintro e w' ⟨rfl, rfl⟩)
            | (go_at_call 16; refine (pl_left (ht2.drewN _) (by omega) hm).mono ?_; rintro e w' ⟨rfl, n1, rfl⟩)
            | (go_at_call 27; refine (pl_xleft (ht2.drewN _) (by omega) hm).mono ?_; rintro e w' ⟨rfl, n2, rfl⟩))
        go_wp2_with fail
        go_roundw
        case rel => exact ⟨k + 1, _, by omega, by go_num, ht2.drewN _⟩
        case measure => simp [intOf]; omega
      · by_cases hs : M / 7 ≤ 2
        · go_wp2_with fail
          refine (pl_keep (M / 7) htk).mono ?_
          rintro e w5 ⟨rfl, hp5, hf5⟩
          go_wp2_with fail
          refine (xkeep_any gx _ x (M / 7) w5 (htk.hx.frm hf5 (by omega) (fun k hk e => by omega)) (htk.bd.small (by omega))).mono ?_
          rintro e w6 ⟨rfl, hx6, hf6⟩
          rw [if_pos hs] at hp5 hx6
          have ht2 := htk.step (x' := x) h02 hg hgx hp5 hf5 hx6 hf6 (by obtain ⟨b1, b2, b3, b4, b5, b6, b7, b8, b9, b10⟩ := htk.bd; exact ⟨by show 0 ≤ x.came; omega, by show x.came ≤ _; omega, by show 0 ≤ x.since; omega, by show x.since ≤ _; omega, b5, by show x.least ≤ _; omega, by show x.R ≤ _; omega, by show x.K ≤ _; omega, by show x.T ≤ _; omega, by show x.G ≤ _; omega⟩) rfl
          have hc := ht2.cell
          clear htk hp5 hf5 hx6 hf6
          go_wp2_with fail
          go_region_held3 (fun w' => Two w w2 w' g gx m (k + 1) (x) ∧ w'.cell? ⟨gx, 10, none⟩ = some (.int .i64 (x : Xc).least))
            (first | exact ⟨ht2.drewN _, hc⟩ | exact ⟨ht2, hc⟩)
            (first
              | (go_at_call 14; refine (pl_least (ht2.drewN _)).mono ?_; rintro e w' ⟨rfl, rfl⟩)
              | (go_at_call 16; refine (pl_left (ht2.drewN _) (by omega) hm).mono ?_; rintro e w' ⟨rfl, n1, rfl⟩)
              | (go_at_call 27; refine (pl_xleft (ht2.drewN _) (by omega) hm).mono ?_; rintro e w' ⟨rfl, n2, rfl⟩))
          go_wp2_with fail
          go_roundw
          case rel => exact ⟨k + 1, _, by omega, by go_num, ht2.drewN _⟩
          case measure => simp [intOf]; omega
        · go_wp2_with fail
          refine (pl_keep (M / 7) htk).mono ?_
          rintro e w5 ⟨rfl, hp5, hf5⟩
          go_wp2_with fail
          refine (xkeep_any gx _ x (M / 7) w5 (htk.hx.frm hf5 (by omega) (fun k hk e => by omega)) (htk.bd.small (by omega))).mono ?_
          rintro e w6 ⟨rfl, hx6, hf6⟩
          rw [if_neg (by omega)] at hp5 hx6
          have ht2 := htk.step (x' := { x with K := x.K + 1 }) h02 hg hgx hp5 hf5 hx6 hf6 (by obtain ⟨b1, b2, b3, b4, b5, b6, b7, b8, b9, b10⟩ := htk.bd; exact ⟨by show 0 ≤ x.came; omega, by show x.came ≤ _; omega, by show 0 ≤ x.since; omega, by show x.since ≤ _; omega, b5, by show x.least ≤ _; omega, by show x.R ≤ _; omega, by show x.K + 1 ≤ _; omega, by show x.T ≤ _; omega, by show x.G ≤ _; omega⟩) rfl
          have hc := ht2.cell
          clear htk hp5 hf5 hx6 hf6
          go_wp2_with fail
          go_region_held3 (fun w' => Two w w2 w' g gx m (k + 1) ({ x with K := x.K + 1 }) ∧ w'.cell? ⟨gx, 10, none⟩ = some (.int .i64 ({ x with K := x.K + 1 } : Xc).least))
            (first | exact ⟨ht2.drewN _, hc⟩ | exact ⟨ht2, hc⟩)
            (first
              | (go_at_call 14; refine (pl_least (ht2.drewN _)).mono ?_; rintro e w' ⟨rfl, rfl⟩)
              | (go_at_call 16; refine (pl_left (ht2.drewN _) (by omega) hm).mono ?_; rintro e w' ⟨rfl, n1, rfl⟩)
              | (go_at_call 27; refine (pl_xleft (ht2.drewN _) (by omega) hm).mono ?_; rintro e w' ⟨rfl, n2, rfl⟩))
          go_wp2_with fail
          go_roundw
          case rel => exact ⟨k + 1, _, by omega, by go_num, ht2.drewN _⟩
          case measure => simp [intOf]; omega
      · go_wp2_with fail
        refine (pl_tie htk).mono ?_
        rintro e w5 ⟨rfl, hp5, hf5⟩
        go_wp2_with fail
        refine (xtie_any gx _ x w5 (htk.hx.frm hf5 (by omega) (fun k hk e => by omega)) (htk.bd.small (by omega))).mono ?_
        rintro e w6 ⟨rfl, hx6, hf6⟩
        have ht2 := htk.step (x' := { x with T := x.T + 1 }) h02 hg hgx hp5 hf5 hx6 hf6 (by obtain ⟨b1, b2, b3, b4, b5, b6, b7, b8, b9, b10⟩ := htk.bd; exact ⟨by show 0 ≤ x.came; omega, by show x.came ≤ _; omega, by show 0 ≤ x.since; omega, by show x.since ≤ _; omega, b5, by show x.least ≤ _; omega, by show x.R ≤ _; omega, by show x.K ≤ _; omega, by show x.T + 1 ≤ _; omega, by show x.G ≤ _; omega⟩) rfl
        have hc := ht2.cell
        clear htk hp5 hf5 hx6 hf6
        go_wp2_with fail
        go_region_held3 (fun w' => Two w w2 w' g gx m (k + 1) ({ x with T := x.T + 1 }) ∧ w'.cell? ⟨gx, 10, none⟩ = some (.int .i64 ({ x with T := x.T + 1 } : Xc).least))
          (first | exact ⟨ht2.drewN _, hc⟩ | exact ⟨ht2, hc⟩)
          (first
            | (go_at_call 14; refine (pl_least (ht2.drewN _)).mono ?_; rintro e w' ⟨rfl, rfl⟩)
            | (go_at_call 16; refine (pl_left (ht2.drewN _) (by omega) hm).mono ?_; rintro e w' ⟨rfl, n1, rfl⟩)
            | (go_at_call 27; refine (pl_xleft (ht2.drewN _) (by omega) hm).mono ?_; rintro e w' ⟨rfl, n2, rfl⟩))
        go_wp2_with fail
        go_roundw
        case rel => exact ⟨k + 1, _, by omega, by go_num, ht2.drewN _⟩
        case measure => simp [intOf]; omega
      · go_wp2_with fail
        refine (pl_sign _ htk).mono ?_
        rintro e w5 ⟨rfl, hp5, hf5⟩
        go_wp2_with fail
        refine (xsign_any gx _ x _ w5 (htk.hx.frm hf5 (by omega) (fun k hk e => by omega)) (htk.bd.small (by omega))).mono ?_
        rintro e w6 ⟨rfl, hx6, hf6⟩
        have ht2 := htk.step (x' := { x with G := x.G + 1 }) h02 hg hgx hp5 hf5 hx6 hf6 (by obtain ⟨b1, b2, b3, b4, b5, b6, b7, b8, b9, b10⟩ := htk.bd; exact ⟨by show 0 ≤ x.came; omega, by show x.came ≤ _; omega, by show 0 ≤ x.since; omega, by show x.since ≤ _; omega, b5, by show x.least ≤ _; omega, by show x.R ≤ _; omega, by show x.K ≤ _; omega, by show x.T ≤ _; omega, by show x.G + 1 ≤ _; omega⟩) rfl
        have hc := ht2.cell
        clear htk hp5 hf5 hx6 hf6
        go_wp2_with fail
        go_region_held3 (fun w' => Two w w2 w' g gx m (k + 1) ({ x with G := x.G + 1 }) ∧ w'.cell? ⟨gx, 10, none⟩ = some (.int .i64 ({ x with G := x.G + 1 } : Xc).least))
          (first | exact ⟨ht2.drewN _, hc⟩ | exact ⟨ht2, hc⟩)
          (first
            | (go_at_call 14; refine (pl_least (ht2.drewN _)).mono ?_; rintro e w' ⟨rfl, rfl⟩)
            | (go_at_call 16; refine (pl_left (ht2.drewN _) (by omega) hm).mono ?_; rintro e w' ⟨rfl, n1, rfl⟩)
            | (go_at_call 27; refine (pl_xleft (ht2.drewN _) (by omega) hm).mono ?_; rintro e w' ⟨rfl, n2, rfl⟩))
        go_wp2_with fail
        go_roundw
        case rel => exact ⟨k + 1, _, by omega, by go_num, ht2.drewN _⟩
        case measure => simp [intOf]; omega
    · go_wp2
      go_ret
      exact ⟨rfl, htk.fr⟩

end Go.Proofs.Ytfhillobhfaikaa
