/-
  The contracts of package pace's functions, each walked once over the seat's translation.
-/
import Derived.Test.YtfhillobhfaikaaBase
namespace Go.Proofs.Ytfhillobhfaikaa
open Go.RowKit

/-! ### a list that goes round -/
def nxt (l : List Int) (k : Nat) : Int := l.getD k 0
def nxtK (l : List Int) (k : Nat) : Nat := if l = [] then k else (k + 1) % l.length

set_option maxHeartbeats 400000 in
theorem next_none (tb off : Nat) (a : Option Addr) (c : Nat) (w : World)
    (c0 : w.cell? ⟨tb, off, none⟩ = some (.slice a 0 c)) :
    Calls Try.prog 30 #[.pointer (some ⟨tb, off, none⟩)] w fun e w' => e = .returned (.int .i64 0) ∧ w = w' := by
  go_enter Try.func30, Try.ntmps30
  go_wp2
  go_ret
  exact ⟨rfl, rfl⟩

set_option maxHeartbeats 400000 in
theorem next_some (tb off b o : Nat) (len c k : Nat) (x : Int) (w : World) (hl : len ≤ 140737488351232) (hk : k < len)
    (c0 : w.cell? ⟨tb, off, none⟩ = some (.slice (some ⟨b, o, none⟩) len c)) (c1 : w.cell? ⟨tb, off + 1, none⟩ = some (.int .i64 (k : Int))) (f1 : w.frozen? ⟨tb, off + 1, none⟩ = false)
    (hx : w.cell? ⟨b, o + k, none⟩ = some (.int .i64 x)) :
    Calls Try.prog 30 #[.pointer (some ⟨tb, off, none⟩)] w fun e w' => e = .returned (.int .i64 x) ∧ ∃ n, (w.drewN n).setCell ⟨tb, off + 1, none⟩ (.int .i64 (((k : Int) + 1) % (len : Int))) = w' := by
  have h0 : ((len : Int) == 0) = false := by simp; omega
  have hki : (k : Int) < len := by omega
  go_enter Try.func30, Try.ntmps30
  go_wp2_with fail
  go_quiet (fail)
  go_wp2_with fail
  go_region
  go_wp2
  go_ret
  exact ⟨rfl, _, rfl⟩

/-- One contract for every list: the slice is read, its counter goes on; nothing else. -/
theorem next_any (tb off : Nat) (F : Nat → Prop) (v : Value) (l : List Int) (k : Nat) (w : World) (hl : l.length ≤ 140737488351232) (hk : l ≠ [] → k < l.length)
    (c0 : w.cell? ⟨tb, off, none⟩ = some v) (c1 : w.cell? ⟨tb, off + 1, none⟩ = some (.int .i64 (k : Int))) (f1 : w.frozen? ⟨tb, off + 1, none⟩ = false)
    (hs : Sl w F 1 v l.length (l.map (.int .i64))) :
    Calls Try.prog 30 #[.pointer (some ⟨tb, off, none⟩)] w fun e w' => e = .returned (.int .i64 (nxt l k)) ∧ ∃ n, (w.drewN n).setCell ⟨tb, off + 1, none⟩ (.int .i64 (nxtK l k : Int)) = w' := by
  obtain ⟨A, c, rfl, hc, hA⟩ := hs.form
  by_cases h : l = []
  · subst h
    refine (next_none tb off A c w c0).mono ?_
    rintro e w' ⟨rfl, rfl⟩
    exact ⟨rfl, 0, by rw [show nxtK [] k = k from rfl]; exact World.setCell_self c1⟩
  · have hk' := hk h
    obtain ⟨b, o, u, rfl, hF, hu, hcell⟩ := hs.at_ hk'
    have hu' : u = .int .i64 (nxt l k) := by
      rw [List.getElem?_map, List.getElem?_eq_getElem hk'] at hu
      simp at hu
      rw [← hu]; simp [nxt, List.getD, hk']
    subst hu'
    refine (next_some tb off b o l.length c k _ w hl hk' c0 c1 f1 hcell).mono ?_
    rintro e w' ⟨rfl, n, rfl⟩
    refine ⟨rfl, n, ?_⟩
    rw [show ((nxtK l k : Nat) : Int) = ((k : Int) + 1) % (l.length : Int) by unfold nxtK; rw [if_neg h]; simp]


/-! ### slices.Clone at []int, and the closure round it -/
theorem infoInt : (Try.prog.info? 3).map (fun i => (i.zero, i.size, i.bytes)) = some (some (.int .i64 0), 1, 8) := by kernel_rfl

set_option maxHeartbeats 400000 in
theorem clone_nil (w : World) :
    Calls Try.prog 29 #[.slice none 0 0] w fun e w' => e = .returned (.slice none 0 0) ∧ w = w' := by
  have hq := fun W => Lib.run_eql_slice_nil (P := Try.prog) W 22 3 none 0 0 0 0 Try.underlying22
  go_enter Try.func29, Try.ntmps29
  go_wp2
  go_ret
  exact ⟨rfl, rfl⟩

set_option maxHeartbeats 400000 in
theorem clone_some (ad : Addr) (n c : Nat) (F : Nat → Prop) (l : List Int) (w : World) (hn : l.length = n) (hb : n ≤ 17592186044416)
    (hs : Sl w F 1 (.slice (some ad) n c) n (l.map (.int .i64))) :
    Calls Try.prog 29 #[.slice (some ad) n c] w fun e w' => ∃ v, e = .returned v ∧ w'.ownsRow w.heap.size 3 1 v n (l.map (.int .i64)) ∧ Frm (fun _ => False) w w' := by
  have hq := fun W => Lib.run_eql_slice_nil (P := Try.prog) W 22 3 (some ad) n c 0 0 Try.underlying22
  obtain ⟨i0, hi, hz0, hz1, hz2⟩ := info_parts infoInt
  have HN := Lib.hid hn
  clear hn
  go_enter Try.func29, Try.ntmps29
  have hown := World.ownsRow_made (e := 3) (size := 1) w #[] 0 (Nat.le_refl _) (by unfold maxLen; omega) rfl
  have hsrc := (hs.frm ((Frm.refl (fun _ => False) w).alloc (.cells #[] 3)) (fun _ _ h => h)).src
  go_wp2_with (at_builtin; refine wpList_append_own _ rfl (.tmp 5) (.tmp 6) 22 rfl w.heap.size 3 i0 (.int .i64 0) 1 8 Try.underlying22 hi hz0 hz1 hz2 rfl (by decide) _ _ _ rfl hown ad n c (l.map (.int .i64)) rfl ?c1 hsrc ?c2 ?c3 ?c4 ?c5 ?_)
  case c1 => simp [HN.out]
  case c2 => intro u hu; simp at hu; obtain ⟨x, _, rfl⟩ := hu; rfl
  case c3 => unfold maxLen; omega
  case c4 => omega
  case c5 => simp
  intro v' w1 hown1 hgrow _
  go_wp2
  go_ret
  refine ⟨_, rfl, by simpa using hown1, ?_⟩
  exact ((Frm.refl _ w).alloc _).grown hgrow (fun k hk hlt => by simp [Value.ownBlock] at hk; omega)


theorem clone_any (v : Value) (F : Nat → Prop) (l : List Int) (w : World) (hb : l.length ≤ 17592186044416) (hs : Sl w F 1 v l.length (l.map (.int .i64))) :
    Calls Try.prog 29 #[v] w fun e w' => ∃ A c, e = .returned (.slice A l.length c) ∧ Sl w' (fun k => w.heap.size ≤ k) 1 (.slice A l.length c) l.length (l.map (.int .i64)) ∧ Frm (fun _ => False) w w' := by
  obtain ⟨A, c, rfl, hc, hA⟩ := hs.form
  rcases A with _ | ad
  · obtain rfl := hA rfl
    have h0 : l = [] := List.eq_nil_of_length_eq_zero (by omega)
    subst h0
    refine (clone_nil w).mono ?_
    rintro e w' ⟨rfl, rfl⟩
    exact ⟨_, _, rfl, Sl.nil_ _ _ _, Frm.refl _ _⟩
  · refine (clone_some ad l.length c F l w rfl hb hs).mono ?_
    rintro e w' ⟨v', rfl, hown, hf⟩
    have h1 := (Sl.of_own hown).mono (G := fun k => w.heap.size ≤ k) (fun k _ hk => (hown.lt k hk).1)
    obtain ⟨A, c, rfl, _⟩ := h1.form
    exact ⟨A, c, rfl, h1, hf⟩

set_option maxHeartbeats 400000 in
theorem own_any (v : Value) (F : Nat → Prop) (l : List Int) (w : World) (hb : l.length ≤ 17592186044416) (hs : Sl w F 1 v l.length (l.map (.int .i64))) :
    Calls Try.prog 28 #[v] w fun e w' => ∃ A c, e = .returned (.agg #[.slice A l.length c, .int .i64 0]) ∧ Sl w' (fun k => w.heap.size ≤ k) 1 (.slice A l.length c) l.length (l.map (.int .i64)) ∧ Frm (fun _ => False) w w' := by
  go_enter Try.func28, Try.ntmps28
  go_wp2_with fail
  have hs1 := hs.frm ((Frm.refl (fun _ => False) w).alloc (.cells #[.slice none 0 0, .int .i64 0] 45)) (fun _ _ h => h)
  refine (clone_any v F l _ hb hs1).mono ?_
  rintro e w1 ⟨A, c, rfl, hs2, hf⟩
  have hblk := (Blk.new w 45 [.slice none 0 0, .int .i64 0]).frm hf (fun h => h)
  have c0 := hblk.at_ 0 rfl
  have c1 := hblk.at_ 1 rfl
  have f0 := hblk.frozen 0
  have f1 := hblk.frozen 1
  go_wp2_with fail
  refine bodyPost_ret (v := .agg #[.slice A l.length c, .int .i64 0]) (by simp [results, Try.results28, go_sem, c0, c1]) rfl ⟨A, c, rfl, ?_, ?_⟩
  · exact (hs2.frm (((Frm.refl (fun k => k = w.heap.size) w1).setCell (fun _ => rfl) _).setCell (fun _ => rfl) _) (fun k hk e => by simp at hk; omega)).mono (fun k _ hk => by simp at hk; omega)
  · exact ((((Frm.refl _ w).alloc _).trans hf).setCell (fun h => absurd h (Nat.lt_irrefl _)) _).setCell (fun h => absurd h (Nat.lt_irrefl _)) _


/-! ### the pace itself -/
/-- What a pace is, without memory: its lists, where each stands, its counts. -/
structure Pc where
  r : List Int
  p : List Int
  t : List Int
  s : List Int
  kr : Nat
  kp : Nat
  kt : Nat
  ks : Nat
  most : Int
  came : Int
  since : Int
  least : Int

def LOk (w : World) (F : Nat → Prop) (v : Value) (l : List Int) (k : Nat) : Prop := l.length ≤ 17592186044416 ∧ (l ≠ [] → k < l.length) ∧ Sl w F 1 v l.length (l.map (.int .i64))
def Pc.cells (q : Pc) (vr vp vt vs : Value) : List Value := [vr, .int .i64 q.kr, vp, .int .i64 q.kp, vt, .int .i64 q.kt, vs, .int .i64 q.ks, .int .i64 q.most, .int .i64 q.came, .int .i64 q.since, .int .i64 q.least]

/-- Block g is the pace q; its lists lie in blocks of F. -/
def IsPace (w : World) (g : Nat) (F : Nat → Prop) (q : Pc) : Prop :=
  ∃ vr vp vt vs, Blk w g 49 (q.cells vr vp vt vs) ∧ (∀ k, F k → k ≠ g) ∧ LOk w F vr q.r q.kr ∧ LOk w F vp q.p q.kp ∧ LOk w F vt q.t q.kt ∧ LOk w F vs q.s q.ks

theorem LOk.frm {S F : Nat → Prop} {w w' : World} {v : Value} {l : List Int} {k : Nat} (h : LOk w F v l k) (hf : Frm S w w') (hd : ∀ k, F k → ¬ S k) : LOk w' F v l k := ⟨h.1, h.2.1, h.2.2.frm hf hd⟩
theorem IsPace.frm {S F : Nat → Prop} {w w' : World} {g : Nat} {q : Pc} (h : IsPace w g F q) (hf : Frm S w w') (hg : ¬ S g) (hd : ∀ k, F k → ¬ S k) : IsPace w' g F q := by
  obtain ⟨vr, vp, vt, vs, hb, hF, h1, h2, h3, h4⟩ := h
  exact ⟨vr, vp, vt, vs, hb.frm hf hg, hF, h1.frm hf hd, h2.frm hf hd, h3.frm hf hd, h4.frm hf hd⟩
theorem IsPace.lt {F : Nat → Prop} {w : World} {g : Nat} {q : Pc} (h : IsPace w g F q) : g < w.heap.size := by
  obtain ⟨_, _, _, _, hb, _⟩ := h; exact hb.lt

def Pc.start (lr lp lt ls : List Int) (most : Int) : Pc := ⟨lr, lp, lt, ls, 0, 0, 0, 0, most, 0, 0, 16⟩

set_option maxHeartbeats 400000 in
theorem new_any (vr vp vt vs : Value) (lr lp lt ls : List Int) (most rounds : Int) (F : Nat → Prop) (w : World)
    (hr : Sl w F 1 vr lr.length (lr.map (.int .i64))) (hp : Sl w F 1 vp lp.length (lp.map (.int .i64))) (ht : Sl w F 1 vt lt.length (lt.map (.int .i64))) (hs : Sl w F 1 vs ls.length (ls.map (.int .i64)))
    (br : lr.length ≤ 17592186044416) (bp : lp.length ≤ 17592186044416) (bt : lt.length ≤ 17592186044416) (bs : ls.length ≤ 17592186044416) :
    Calls Try.prog 11 #[.agg #[vr, vp, vt, vs, .int .i64 most, .int .i64 rounds]] w fun e w' =>
      ∃ g, e = .returned (.pointer (some ⟨g, 0, none⟩)) ∧ w.heap.size ≤ g ∧ IsPace w' g (fun k => w.heap.size ≤ k ∧ k < g) (Pc.start lr lp lt ls most) ∧ Frm (fun _ => False) w w' := by
  go_enter Try.func11, Try.ntmps11
  go_wp2_with fail
  go_region_held3 (fun w' => Frm (fun _ => False) w w' ∧ w'.cell? ⟨w.heap.size, 0, none⟩ = some vr ∧ w'.cell? ⟨w.heap.size, 1, none⟩ = some vp ∧ w'.cell? ⟨w.heap.size, 2, none⟩ = some vt ∧ w'.cell? ⟨w.heap.size, 3, none⟩ = some vs ∧ w'.cell? ⟨w.heap.size, 4, none⟩ = some (.int .i64 most))
    (first | (refine ⟨(((Frm.refl _ w).alloc _).drew), ?_⟩; simp [go_sem]; done) | exact held5 (by assumption) (by assumption) | exact held5 ((Frm.refl _ w4).alloc _) (by assumption))
    (first
      | (go_at_call_of 28 vr; refine (own_any vr F lr _ br (hr.frm (And.left (by assumption : Frm (fun _ => False) w _ ∧ _)) (fun _ _ h => h))).mono ?_; rintro e w1 ⟨A1, c1, rfl, hs1, hf1⟩)
      | (go_at_call_of 28 vp; refine (own_any vp F lp _ bp (hp.frm (And.left (by assumption : Frm (fun _ => False) w _ ∧ _)) (fun _ _ h => h))).mono ?_; rintro e w2 ⟨A2, c2, rfl, hs2, hf2⟩)
      | (go_at_call_of 28 vt; refine (own_any vt F lt _ bt (ht.frm (And.left (by assumption : Frm (fun _ => False) w _ ∧ _)) (fun _ _ h => h))).mono ?_; rintro e w3 ⟨A3, c3, rfl, hs3, hf3⟩)
      | (go_at_call_of 28 vs; refine (own_any vs F ls _ bs (hs.frm (And.left (by assumption : Frm (fun _ => False) w _ ∧ _)) (fun _ _ h => h))).mono ?_; rintro e w4 ⟨A4, c4, rfl, hs4, hf4⟩))
  go_wp2
  go_ret
  have g0 : Frm (fun _ => False) w w4 := (((((Frm.refl (fun _ => False) w).alloc _).drew.trans hf1).trans hf2).trans hf3).trans hf4
  have z1 : w.heap.size ≤ w1.heap.size := by have := hf1.size; simp at this; omega
  have z2 := hf2.size
  have z3 := hf3.size
  have z4 := hf4.size
  have za : ∀ o, Frm (fun _ => False) w4 (w4.alloc o) := fun o => (Frm.refl _ _).alloc o
  refine ⟨w4.heap.size, rfl, g0.size, ⟨_, _, _, _, Blk.new w4 49 _, fun k hk => Nat.ne_of_lt hk.2, ?_, ?_, ?_, ?_⟩, g0.trans (za _)⟩
  · exact ⟨br, fun h => List.length_pos_iff.2 h, (((hs1.mono (fun k hk h => ⟨by simp at h; omega, by omega⟩)).frm (hf2.trans (hf3.trans hf4)) (fun _ _ => id)).frm (za _) (fun _ _ => id))⟩
  · exact ⟨bp, fun h => List.length_pos_iff.2 h, (((hs2.mono (fun k hk h => ⟨by omega, by omega⟩)).frm (hf3.trans hf4) (fun _ _ => id)).frm (za _) (fun _ _ => id))⟩
  · exact ⟨bt, fun h => List.length_pos_iff.2 h, (((hs3.mono (fun k hk h => ⟨by omega, by omega⟩)).frm hf4 (fun _ _ => id)).frm (za _) (fun _ _ => id))⟩
  · exact ⟨bs, fun h => List.length_pos_iff.2 h, ((hs4.mono (fun k hk h => ⟨by omega, by omega⟩)).frm (za _) (fun _ _ => id))⟩

end Go.Proofs.Ytfhillobhfaikaa
