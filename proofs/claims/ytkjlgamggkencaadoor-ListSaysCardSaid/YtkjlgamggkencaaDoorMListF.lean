/-
  The contract of list.Functions.
-/
import Derived.Test.YtkjlgamggkencaaDoorMListC
import Derived.Test.YtkjlgamggkencaaDoorMMoveC
import Derived.Test.YtkjlgamggkencaaDoorMSee
import Derived.Test.YtkjlgamggkencaaDoorMRegion
import Derived.Test.YtkjlgamggkencaaDoorMGraphFolds
namespace Go.Proofs.YtkjlgamggkencaaDoor
open Go.RowKit
set_option linter.unusedVariables false

theorem wp_append_own_at2 {P : Program} {w : World} {o : Oper} {a : Act} {K : Act → World → Prop} {Q : Exit → Act → World → Prop} (s x : Operand) (t : TypeId)
    (ho : o.op = .call { callee := .builtin .append, args := #[s, x], argTypes := #[t, t] })
    (base : Nat) (e : TypeId) (i : TypeInfo) (z : Value) (size bytes : Nat) (ht : P.underlying t = some (.slice e)) (hi : P.info? e = some i) (hz : i.zero = some z)
    (hsize : i.size = size) (hby : i.bytes = bytes) (hzs : z.cells.size = size) (hsz : 0 < size)
    (v : Value) (n : Nat) (xs : List Value) (hs : a.eval s = v) (hown : w.ownsRow base e size v n xs)
    (ad : Addr) (m c : Nat) (news : List Value) (hx : a.eval x = .slice (some ad) m c) (hl : news.length = m * size) (hnews : ∀ j u, news[j]? = some u → w.cell? (ad.add j) = some u) (h1 : ∀ u ∈ news, u.oneCell' = true)
    (h63 : n + m ≤ maxLen) (hbytes : (n + m) * bytes ≤ 140737488355328) (hbase : base ≤ w.heap.size)
    (h : ∀ v' w', w'.ownsRow base e size v' (n + m) (xs ++ news) → w.grownBy w' v.ownBlock → (v'.ownBlock = v.ownBlock ∨ v'.ownBlock = some w.heap.size) → K (a.put o.dst v') w') : o.wp P a w K Q := by
  obtain ⟨v', w', hr, h2, h3, h4, h5⟩ := run_append_own_at (P := P) w base t o.type e i z size bytes ht hi hz hsize hby hzs hsz v n xs hown ad m c news hl hnews h1 h63 hbytes hbase
  unfold Oper.wp execOp
  simp only [ho, resolve, invoke, builtin, Sem.run_bind, Sem.run_pure, Result.andThen_ok, List.map_toArray, List.map_cons, List.map_nil, hs, hx, hr]
  exact h v' w' h2 h3 h5
theorem On.wideF {E : Nat → Value} {K S K' : Nat → Prop} {w w' : World} {gb : Nat} {g : Gr} (h : On E K w gb g) (hf : Frm S w w') (hS : ∀ k, k < w.heap.size → S k → K k) (hK : ∀ k, K' k → K k ∨ (w.heap.size ≤ k ∧ k < w'.heap.size)) : On E K' w' gb g := by
  obtain ⟨fp, h1, h2, h3⟩ := h
  have hs := hf.size
  refine ⟨fp, h1.frm hf (fun k hk e => (h2 k hk).1 (hS k (h2 k hk).2 e)), fun k hk => ⟨fun h => ?_, by have := (h2 k hk).2; omega⟩, fun k hk => ?_⟩
  · rcases hK k h with h | h
    · exact (h2 k hk).1 h
    · have := (h2 k hk).2; omega
  · rcases hK k hk with h | h
    · have := h3 k h; omega
    · exact h.2
theorem clampN {n : Nat} (h : n ≤ 8000) : clamp (n : Int) = n := by unfold clamp; omega
theorem RwB.cell2 {w : World} {F : Nat → Prop} {A : Option Addr} {n c : Nat} {cs : List (List Bool)} (h : RwB w F (.slice A n c) n cs) {j i : Nat} (hj : j < n) (hi : i < (cs.getD j []).length) : ∃ b o B d b2 o2, A = some ⟨b, o, none⟩ ∧ F b ∧ w.cell? ⟨b, o + j, none⟩ = some (.slice B (cs.getD j []).length d) ∧ B = some ⟨b2, o2, none⟩ ∧ F b2 ∧ w.cell? ⟨b2, o2 + i, none⟩ = some (.bool ((cs.getD j []).getD i false)) := by
  obtain ⟨b, o, B, d, rfl, hF, hc, hs⟩ := h.at_ hj
  obtain ⟨b2, o2, u, rfl, hF2, hu, hc2⟩ := hs.at_ hi
  obtain rfl := at_bool hu
  exact ⟨b, o, _, d, b2, o2, rfl, hF, hc, rfl, hF2, hc2⟩

/-- sizes of what the moves come to -/
structure BF (M : Mt) (s : List Int × Gr) (j : Nat) : Prop where
  made : Made s.2.n s.2.ands
  num : s.2.n = M.ou
  bad : s.2.bad = 0
  len : s.2.len ≤ M.ou + j * M.L.length
  lits : ∀ x ∈ s.1, isL x s.2.len = true
  many : s.1.length = j
theorem bf_of {M : Mt} {mvs : List (List Bool)} {j : Nat} (hj : j ≤ mvs.length) (hl : M.ou + mvs.length * M.L.length < 8000) : BF M (M.beats ⟨M.ou, [], 0⟩ (mvs.take j)) j := by
  have hlt : (mvs.take j).length = j := by rw [List.length_take]; omega
  have hmul : j * M.L.length ≤ mvs.length * M.L.length := Nat.mul_le_mul_right _ hj
  have hb := beats_inv (M := M) (g := ⟨M.ou, [], 0⟩) (Made.nil M.ou) rfl (mvs := mvs.take j) (by rw [hlt]; show M.ou + 0 + _ < 8000; omega)
  have hh := hb.up.high
  rw [hlt] at hh
  exact ⟨hb.up.made, hb.up.num, hb.up.bad, hh, hb.lits, by rw [hb.many, hlt]⟩

/-- sizes of what the outputs come to -/
structure OF (M : Mt) (k' q : Nat) (s : List Int × Gr) (i : Nat) : Prop where
  made : Made s.2.n s.2.ands
  num : s.2.n = M.ou
  bad : s.2.bad = 0
  low : q ≤ s.2.len
  len : s.2.len ≤ q + i * (3 * k')
  lits : ∀ x ∈ s.1, isL x s.2.len = true
  many : s.1.length = i
theorem of_of {M : Mt} {mvs : List (List Bool)} {k' j : Nat} {s : List Int × Gr} (hb : BF M s j) (hk : mvs.length = k' + 1) (i : Nat) (hl : s.2.len + i * (3 * k') < 8000) : OF M k' s.2.len (outsRun s.1 mvs s.2 i) i := by
  have e : mvs.length - 1 = k' := by omega
  have h := outs_inv (bs := s.1) (mvs := mvs) hb.made hb.lits i (by rw [e]; exact hl)
  have hh := h.up.high
  rw [e] at hh
  exact ⟨h.up.made, h.up.num.trans hb.num, h.up.bad.trans hb.bad, h.up.low, hh, h.lits, h.many⟩

set_option maxRecDepth 100000 in
set_option maxHeartbeats 2000000 in
theorem lfun_ok {M : Mt} (hM : M.Ok) (n : Nat) (hn : n = M.ou + M.inn) (A : Option Addr) (c : Nat) (B : Option Addr) (d : Nat) (F Fv : Nat → Prop) (Av : Option Addr) (k cv' : Nat) (mvs : List (List Bool)) (w : World) (h4 : n ≤ 100) (h5 : M.L.length ≤ 100) (hk0 : 0 < k) (hk : k ≤ 30)
    (hA : Sl w F 2 (.slice A M.L.length c) M.L.length (pairs M.L)) (hB : Sl w F 1 (.slice B 1 d) 1 ([M.o].map (.int .i64))) (hl : ∀ r ∈ mvs, r.length = M.inn) (hR : RwB w Fv (.slice Av k cv') k mvs) (hsz : M.ou + k * M.L.length + M.inn * (3 * k) < 7000) :
    Calls Tryd.prog 94 #[mtv M.ex M.ou n A M.L.length c B d, .slice Av k cv'] w fun e w' => ∃ v, e = .returned (.tuple #[v, .nilIface]) ∧ IsC w' (fun k => w.heap.size ≤ k) v M.ou (M.fn mvs).2.ands (M.fn mvs).1 ∧ Frm (fun _ => False) w w' := by
  obtain ⟨i0, hi0, hz0, hz1, hz2⟩ := info_parts infoIntG
  have hkl := hR.1
  have hf0 := ((Frm.refl (fun _ => False) w).alloc (.cells #[.bool M.ex, .int .i64 M.ou, .int .i64 n, .slice A M.L.length c, .slice B 1 d] 104)).alloc (.cells #[.int .i64 0, .slice none 0 0, .slice none 0 0] 40)
  have hb0 : Blk ((w.alloc (.cells #[.bool M.ex, .int .i64 M.ou, .int .i64 n, .slice A M.L.length c, .slice B 1 d] 104)).alloc (.cells #[.int .i64 0, .slice none 0 0, .slice none 0 0] 40)) w.heap.size 104 [.bool M.ex, .int .i64 M.ou, .int .i64 n, .slice A M.L.length c, .slice B 1 d] := (Blk.new _ _ _).alloc _
  have hr0 : Blk ((w.alloc (.cells #[.bool M.ex, .int .i64 M.ou, .int .i64 n, .slice A M.L.length c, .slice B 1 d] 104)).alloc (.cells #[.int .i64 0, .slice none 0 0, .slice none 0 0] 40)) (w.heap.size + 1) 40 [.int .i64 0, .slice none 0 0, .slice none 0 0] := Blk.new_at _ _ _ _ (by simp)
  have HCK := Lib.hid (mcheck_ok hM n hn A c B d F _ (by omega) (hA.frm hf0 (fun _ _ => id)) (hB.frm hf0 (fun _ _ => id)))
  have HRI := Lib.hid (fun (W : World) (hf : Frm (fun _ => False) w W) => right_any M.ex M.ou M.inn n hn A M.L.length c B d Av k cv' Fv mvs W (by omega) (by omega) (fun r hr => by have := hl r hr; omega) (hR.frm hf (fun _ _ => id)))
  rw [rightP_true hl] at HRI
  obtain ⟨k', rfl⟩ : ∃ k', k = k' + 1 := ⟨k - 1, by omega⟩
  have hmulk : (k' + 1) * M.L.length = k' * M.L.length + M.L.length := by rw [Nat.add_mul, Nat.one_mul]
  have HBF := Lib.hid (fun j (hj : j ≤ k' + 1) => bf_of (M := M) (mvs := mvs) (j := j) (by omega) (by rw [hkl]; omega))
  have HBT := Lib.hid (fun j (hj : j < k' + 1) => beats_take M ⟨M.ou, [], 0⟩ mvs (k := j) (by omega))
  have HMU := Lib.hid (fun (g : Gr) (mv : List Bool) (h1 : Made g.n g.ands) (h2 : g.n = M.ou) (h3 : g.len + M.L.length < 8000) => move_up (M := M) (g := g) (mv := mv) h1 h2 h3)
  have HMV := Lib.hid (fun (K : Nat → Prop) (W : World) (gb : Nat) (g : Gr) (hO : On E0 K W gb g) (G : Nat → Prop) (hf : Frm G w W) (hG : ∀ k, k < w.heap.size → ¬ G k) (hF : ∀ k, k < w.heap.size → K k) (mv : List Bool) (Ab : Option Addr) (cb : Nat) (Fb : Nat → Prop) (hb : Sl W Fb 1 (.slice Ab mv.length cb) mv.length (mv.map .bool)) (hm : mv.length = M.inn) (h1 : Made g.n g.ands) (h2 : g.n = M.ou) (h3 : g.len + M.L.length < 8000) =>
    mmove_any hO hM n hn A c B d (fun k => k < w.heap.size) Fb Ab mv.length cb mv (by omega) (by omega) ((hA.mono (fun k hk _ => hk)).frm hf hG) ((hB.mono (fun k hk _ => hk)).frm hf hG) hF rfl hm hb h1 h2 h3)
  have hfn : M.fn mvs = outsRun (M.beats ⟨M.ou, [], 0⟩ (mvs.take k')).1 mvs (M.beats ⟨M.ou, [], 0⟩ (mvs.take k')).2 M.inn := by unfold Mt.fn; rw [hkl]; rfl
  have hinn : IntKind.i64.wrap ((n : Int) - M.ou) = M.inn := by rw [IntWalk.i64_in _ (by omega)]; omega
  have hlen := fun j (hj : j < k' + 1) => hl (mvs.getD j []) (by simp [List.getD, show j < mvs.length by omega])
  have HLEN := Lib.hid hlen
  have HKL := Lib.hid hkl
  have hRw : RwB w (fun k => k < w.heap.size) (.slice Av (k' + 1) cv') (k' + 1) mvs := hR.mono (fun k hk _ => hk)
  obtain ⟨av, ao, _, _, hAv, _, _, _⟩ := hRw.at_ (k := 0) (by omega)
  have hcap : k' + 1 ≤ cv' := by obtain ⟨_, _, e, h, _⟩ := hR.form; cases e; exact h
  subst hAv
  have HFN := Lib.hid hfn
  have houb : M.ou ≤ 100 := by omega
  have hinb : M.inn ≤ 100 := by omega
  have HSZ := Lib.hid hsz
  have HMUL := Lib.hid hmulk
  clear hA hB hl hR hn hkl hfn hlen hsz hmulk hM
  go_enter Tryd.func94, Tryd.ntmps94
  have b0 := hb0.at_ 0 rfl
  have b1 := hb0.at_ 1 rfl
  have b2 := hb0.at_ 2 rfl
  have b3 := hb0.at_ 3 rfl
  have b4 := hb0.at_ 4 rfl
  have hkz : ((k' : Int) + 1 == 0) = false := by simp; omega
  go_wp2_with fail
  refine HCK.out.mono ?_
  rintro e w1 ⟨rfl, hf1⟩
  have hb1 := hb0.frm hf1 id
  have hr1 := hr0.frm hf1 id
  have hf01 := hf0.trans hf1
  clear b0 b1 b2 b3 b4 hb0 hr0 hf0 hf1 HCK
  have b0 := hb1.at_ 0 rfl
  have b1 := hb1.at_ 1 rfl
  have b2 := hb1.at_ 2 rfl
  have b3 := hb1.at_ 3 rfl
  have b4 := hb1.at_ 4 rfl
  go_wp2_with fail
  refine (HRI.out w1 hf01).mono ?_
  rintro e w2 ⟨rfl, hf2⟩
  have hb2 := hb1.frm hf2 id
  have hr2 := hr1.frm hf2 id
  have hf02 := hf01.trans hf2
  clear b0 b1 b2 b3 b4 hb1 hr1 hf01 hf2 HRI
  have b1 := hb2.at_ 1 rfl
  go_wp2_with fail
  refine (on_new E0 rfl (M.ou : Int) w2).mono ?_
  rintro e w3 ⟨gb, rfl, hO3, hf3⟩
  rw [clampN (by omega)] at hO3
  have hb3 := hb2.frm hf3 id
  have hr3 := hr2.frm hf3 id
  have hf03 := hf02.trans hf3
  have hs2 := hf02.size
  have hlt2 := hr2.lt
  have hs3 := hf3.size
  have wk : IntKind.i64.wrap ((k' : Int) + 1 - 1) = (k' : Int) := by rw [IntWalk.i64_in _ (by omega)]; omega
  have hbt0 : M.beats ⟨M.ou, [], 0⟩ (mvs.take 0) = ([], ⟨M.ou, [], 0⟩) := rfl
  have HBT0 := Lib.hid hbt0
  have hO30 : On E0 (fun k => k < w2.heap.size ∨ (Value.slice none 0 0).ownBlock = some k) w3 gb ⟨M.ou, [], 0⟩ := On.wide hO3 (Frm.refl (fun _ => False) w3) (fun k h => by rcases h with h | h; exact .inl h; simp [Value.ownBlock] at h)
  clear b1 hb2 hr2 hf02 hO3 hbt0
  go_wp2_with fail
  go_loopw [9, 44] (fun bv iv wr => ∃ (j : Nat) (A1 : Option Addr) (c1 : Nat) (s : List Int × Gr), j ≤ k' ∧ iv = .int .i64 j ∧ bv = .slice A1 j c1 ∧ M.beats ⟨M.ou, [], 0⟩ (mvs.take j) = s ∧ On E0 (fun g => g < w2.heap.size ∨ (Value.slice A1 j c1).ownBlock = some g) wr gb s.2 ∧
    wr.ownsRow w3.heap.size 3 1 (.slice A1 j c1) j (s.1.map (.int .i64)) ∧ Frm (fun g => ¬ g < w2.heap.size) w3 wr) (fun _ iv _ => k' - (intOf iv).toNat)
  case atStart => exact ⟨0, none, 0, ([], ⟨M.ou, [], 0⟩), by omega, rfl, rfl, HBT0.out, hO30, World.ownsRow_nil _ _ _ _, Frm.refl _ _⟩
  case round =>
    clear hO30 HBT0
    obtain ⟨j, A1, c1, s, hj, rfl, rfl, hs, hO, hown, hfk⟩ := hrel
    have hbf := HBF.out j (by omega)
    rw [hs] at hbf
    have hbj := hb3.frm hfk (by omega)
    have hrj := hr3.frm hfk (by omega)
    have hsj := hfk.size
    have hf0j : Frm (fun g => ¬ g < w2.heap.size) w wr := (hf03.mono (T := fun g => ¬ g < w2.heap.size) (fun _ _ h => h.elim)).trans hfk
    have hRj := hRw.frm hf0j (fun g hg => by omega)
    have HS := Lib.hid hs
    clear hs
    by_cases hlt : j < k'
    · obtain ⟨b, o, Bx, dx, e1, hFb, hc, hsx⟩ := hRj.at_ (k := j) (by omega)
      cases e1
      have hbt := HBT.out j (by omega)
      rw [HS.out] at hbt
      have hmx := HLEN.out j (by omega)
      obtain ⟨x, hx⟩ : ∃ x, mvs.getD j [] = x := ⟨_, rfl⟩
      rw [hx] at hbt hmx hc hsx
      clear hx
      have hmulj : j * M.L.length ≤ k' * M.L.length := Nat.mul_le_mul_right _ hj
      have hroom : s.2.len + M.L.length < 8000 := by have := hbf.len; have := HSZ.out; have := HMUL.out; omega
      have hmu := HMU.out s.2 x hbf.made hbf.num hroom
      have hMV := HMV.out _ wr.drew gb s.2 (hO.drewN 1) _ hf0j.drew (fun k hk h => h (by omega)) (fun k hk => .inl (by omega)) x Bx dx _ (hsx.drewN 1) hmx hbf.made hbf.num hroom
      have hul := hmu.1.high
      have hlit := isL_iff.1 hmu.2
      have hsl := hbf.len
      have hstep : M.beats ⟨M.ou, [], 0⟩ (mvs.take (j + 1)) = (s.1 ++ [notL (wantI M.ex (M.move s.2 x).1)], (M.move s.2 x).2) := hbt
      have HST := Lib.hid hstep
      clear hbt hstep hmu hsx hbf hmx
      generalize M.move s.2 x = R at *
      obtain ⟨r, gr⟩ := R
      simp only at hMV hlit hul HST
      have hrs : Small r := ⟨by omega, by have := HSZ.out; have := HMUL.out; omega⟩
      have hws : Small (wantI M.ex r) := by unfold wantI; split; exact hrs; (obtain ⟨h1, h2⟩ := hrs; unfold notL Small; have := HSZ.out; have := HMUL.out; split <;> omega)
      have HMV2 := Lib.hid hMV
      have HW := Lib.hid (fun (W : World) => mwant_any M.ex M.ou n A M.L.length c B d r hrs W)
      have HNT := Lib.hid (fun (W : World) => not_any (wantI M.ex r) hws W)
      clear hMV
      generalize x.length = xl at *
      generalize notL (wantI M.ex r) = y at *
      generalize wantI M.ex r = y0 at *
      have j0 : (0 : Int) ≤ j := by omega
      have j1 : (j : Int) < k' := by omega
      have hownl := hown.lt
      have HH := Lib.hid (fun (W W' : World) (S : Nat → Prop) (hf : Frm S W W') (hS : ¬ S w.heap.size) (h : W.cell? ⟨w.heap.size, 0, none⟩ = some (.bool M.ex) ∧ W.cell? ⟨w.heap.size, 1, none⟩ = some (.int .i64 (M.ou : Int)) ∧ W.cell? ⟨w.heap.size, 2, none⟩ = some (.int .i64 (n : Int)) ∧ W.cell? ⟨w.heap.size, 3, none⟩ = some (.slice A M.L.length c) ∧ W.cell? ⟨w.heap.size, 4, none⟩ = some (.slice B 1 d)) =>
        show W'.cell? ⟨w.heap.size, 0, none⟩ = some (.bool M.ex) ∧ W'.cell? ⟨w.heap.size, 1, none⟩ = some (.int .i64 (M.ou : Int)) ∧ W'.cell? ⟨w.heap.size, 2, none⟩ = some (.int .i64 (n : Int)) ∧ W'.cell? ⟨w.heap.size, 3, none⟩ = some (.slice A M.L.length c) ∧ W'.cell? ⟨w.heap.size, 4, none⟩ = some (.slice B 1 d) from ⟨hf.cell h.1 hS, hf.cell h.2.1 hS, hf.cell h.2.2.1 hS, hf.cell h.2.2.2.1 hS, hf.cell h.2.2.2.2 hS⟩)
      have hH0 : wr.drew.cell? ⟨w.heap.size, 0, none⟩ = some (.bool M.ex) ∧ wr.drew.cell? ⟨w.heap.size, 1, none⟩ = some (.int .i64 (M.ou : Int)) ∧ wr.drew.cell? ⟨w.heap.size, 2, none⟩ = some (.int .i64 (n : Int)) ∧ wr.drew.cell? ⟨w.heap.size, 3, none⟩ = some (.slice A M.L.length c) ∧ wr.drew.cell? ⟨w.heap.size, 4, none⟩ = some (.slice B 1 d) := ⟨hbj.at_ 0 rfl, hbj.at_ 1 rfl, hbj.at_ 2 rfl, hbj.at_ 3 rfl, hbj.at_ 4 rfl⟩
      go_wp2_with fail
      have hHeld := hH0
      refine Held.begin (fun w' => w'.cell? ⟨w.heap.size, 0, none⟩ = some (.bool M.ex) ∧ w'.cell? ⟨w.heap.size, 1, none⟩ = some (.int .i64 (M.ou : Int)) ∧ w'.cell? ⟨w.heap.size, 2, none⟩ = some (.int .i64 (n : Int)) ∧ w'.cell? ⟨w.heap.size, 3, none⟩ = some (.slice A M.L.length c) ∧ w'.cell? ⟨w.heap.size, 4, none⟩ = some (.slice B 1 d)) 9 (by kernel_rfl) ?_
      refine Held.take2 (i := 0) (oi := ?oa0) (v := ?va0) ?hia0 (by kernel_rfl) (by kernel_rfl) (by kernel_rfl) (by kernel_rfl) (fun _ _ _ h => h) (Or.inl ⟨?hwa0, ?hya0⟩) (by assumption) ?resta0
      case hia0 => (simp only [List.getElem?_toArray, List.getElem?_cons_zero]; rfl)
      case hwa0 => rfl
      case hya0 => (intro w hSw; (try dsimp only at hSw); go_simp; try with_reducible rfl)
      (try simp only [Act.put, List.setIfInBounds_toArray, List.set_cons_zero, List.set_cons_succ])
      refine Held.take2 (i := 1) (oi := ?oa1) (v := ?va1) ?hia1 (by kernel_rfl) (by kernel_rfl) (by kernel_rfl) (by kernel_rfl) (fun _ _ _ h => h) (Or.inl ⟨?hwa1, ?hya1⟩) (by assumption) ?resta1
      case hia1 => (simp only [List.getElem?_toArray, List.getElem?_cons_succ, List.getElem?_cons_zero]; rfl)
      case hwa1 => rfl
      case hya1 => (intro w hSw; (try dsimp only at hSw); go_simp; try with_reducible rfl)
      (try simp only [Act.put, List.setIfInBounds_toArray, List.set_cons_zero, List.set_cons_succ])
      refine Held.take2 (i := 2) (oi := ?oa2) (v := ?va2) ?hia2 (by kernel_rfl) (by kernel_rfl) (by kernel_rfl) (by kernel_rfl) (fun _ _ _ h => h) (Or.inl ⟨?hwa2, ?hya2⟩) (by assumption) ?resta2
      case hia2 => (simp only [List.getElem?_toArray, List.getElem?_cons_succ, List.getElem?_cons_zero]; rfl)
      case hwa2 => rfl
      case hya2 => (intro w hSw; (try dsimp only at hSw); go_simp; try with_reducible rfl)
      (try simp only [Act.put, List.setIfInBounds_toArray, List.set_cons_zero, List.set_cons_succ])
      refine Held.take2 (i := 3) (oi := ?oa3) (v := ?va3) ?hia3 (by kernel_rfl) (by kernel_rfl) (by kernel_rfl) (by kernel_rfl) (fun _ _ _ h => h) (Or.inl ⟨?hwa3, ?hya3⟩) (by assumption) ?resta3
      case hia3 => (simp only [List.getElem?_toArray, List.getElem?_cons_succ, List.getElem?_cons_zero]; rfl)
      case hwa3 => rfl
      case hya3 => (intro w hSw; (try dsimp only at hSw); go_simp; try with_reducible rfl)
      (try simp only [Act.put, List.setIfInBounds_toArray, List.set_cons_zero, List.set_cons_succ])
      refine Held.take2 (i := 4) (oi := ?oa4) (v := ?va4) ?hia4 (by kernel_rfl) (by kernel_rfl) (by kernel_rfl) (by kernel_rfl) (fun _ _ _ h => h) (Or.inl ⟨?hwa4, ?hya4⟩) (by assumption) ?resta4
      case hia4 => (simp only [List.getElem?_toArray, List.getElem?_cons_succ, List.getElem?_cons_zero]; rfl)
      case hwa4 => rfl
      case hya4 => (intro w hSw; (try dsimp only at hSw); go_simp; try with_reducible rfl)
      (try simp only [Act.put, List.setIfInBounds_toArray, List.set_cons_zero, List.set_cons_succ])
      refine Held.next (i := 5) (o := ?oa5) (by kernel_rfl) ?hia5 (fun K hK => ?sta5)
      case hia5 => (simp only [List.getElem?_toArray, List.getElem?_cons_succ, List.getElem?_cons_zero]; rfl)
      go_simp
      (go_at_call 133; refine HMV2.out.mono ?_; rintro e w5 ⟨rfl, hO5, hf5⟩)
      (try go_wp2_with fail)
      refine hK.out _ _ (fun _ => by exact HH.out _ _ _ hf5 (fun h => h (.inl (by omega))) hHeld) ?_
      clear hK K
      (try simp only [Act.put, List.setIfInBounds_toArray, List.set_cons_zero, List.set_cons_succ])
      have hH2 := HH.out _ _ _ hf5 (fun h => h (.inl (by omega))) hHeld
      refine Held.next (i := 6) (o := ?oa6) (by kernel_rfl) ?hia6 (fun K hK => ?sta6)
      case hia6 => (simp only [List.getElem?_toArray, List.getElem?_cons_succ, List.getElem?_cons_zero]; rfl)
      go_simp
      (go_at_call 132; refine (HW.out _).mono ?_; rintro e w6 ⟨rfl, hf6⟩)
      (try go_wp2_with fail)
      refine hK.out _ _ (fun _ => by exact HH.out _ _ _ hf6 id hH2) ?_
      clear hK K
      (try simp only [Act.put, List.setIfInBounds_toArray, List.set_cons_zero, List.set_cons_succ])
      have hH3 := HH.out _ _ _ hf6 id hH2
      refine Held.next (i := 7) (o := ?oa7) (by kernel_rfl) ?hia7 (fun K hK => ?sta7)
      case hia7 => (simp only [List.getElem?_toArray, List.getElem?_cons_succ, List.getElem?_cons_zero]; rfl)
      go_simp
      (go_at_call 28; refine (HNT.out _).mono ?_; rintro e w' ⟨rfl, rfl⟩)
      (try go_wp2_with fail)
      refine hK.out _ _ (fun _ => by exact hH3) ?_
      clear hK K
      (try simp only [Act.put, List.setIfInBounds_toArray, List.set_cons_zero, List.set_cons_succ])
      have hal := (Frm.refl (fun _ => False) w6).alloc (.cells #[.int .i64 y] 3)
      have hown6 := own_frm (own_frm (own_frm hown (Frm.refl (fun _ => False) wr).drew (fun _ _ => id)) hf5 (fun g hg h => h (.inr hg))) hf6 (fun _ _ => id)
      have hO6 := hO5.frm hf6
      have hs5 := hf5.size
      have hs6 := hf6.size
      have hs5 : wr.heap.size ≤ w5.heap.size := hs5
      refine Held.next (i := 8) (o := ?oa8) (by kernel_rfl) ?hia8 (fun K hK => ?sta8)
      case hia8 => (simp only [List.getElem?_toArray, List.getElem?_cons_succ, List.getElem?_cons_zero]; rfl)
      go_simp
      refine hK.out _ _ (fun _ => by exact HH.out _ _ _ hal id hH3) ?_
      clear hK K
      (try simp only [Act.put, List.setIfInBounds_toArray, List.set_cons_zero, List.set_cons_succ])
      refine Held.next (i := 9) (o := ?oa9) (by kernel_rfl) ?hia9 (fun K hK => ?sta9)
      case hia9 => (simp only [List.getElem?_toArray, List.getElem?_cons_succ, List.getElem?_cons_zero]; rfl)
      (refine wp_append_own_at2 (.tmp 48) (.tmp 56) 22 rfl w3.heap.size 3 i0 (.int .i64 0) 1 8 Tryd.underlying22 hi0 hz0 hz1 hz2 rfl (by decide) _ _ _ rfl (hown6.alloc (.cells #[.int .i64 y] 3)) ⟨w6.heap.size, 0, none⟩ 1 1 [.int .i64 y] rfl rfl (cell_one_new _ _ _) (by intro u hu; simp at hu; subst hu; rfl) (by unfold maxLen; omega) (by omega) (by simp; omega) ?_; intro v' w9 hown9 hgrow h9)
      refine hK.out _ _ (fun h => absurd h (by decide)) ?_
      clear hK K
      (try simp only [Act.put, List.setIfInBounds_toArray, List.set_cons_zero, List.set_cons_succ])
      have hgr : Frm (fun g => (Value.slice A1 j c1).ownBlock = some g) w6 w9 := (((Frm.refl (fun g => (Value.slice A1 j c1).ownBlock = some g) w6).alloc (.cells #[.int .i64 y] 3)).grown hgrow (fun g hg hlt => hg))
      have hO9 := On.wideF (K' := fun g' => g' < w2.heap.size ∨ v'.ownBlock = some g') hO6 hgr (fun g' _ h => .inr h) (fun g' h => by rcases h with h | h; exact .inl (.inl h); rcases h9 with e | e; exact .inl (.inr (e ▸ h)); (have hlt9 := (hown9.lt g' h).2; rw [e] at h; simp at h; exact .inr ⟨by omega, hlt9⟩))
      have hfk9 : Frm (fun g => ¬ g < w2.heap.size) w3 w9 := (((hfk.drewN 1).trans' hf5 (fun _ _ h => h) (fun g _ h hlt => h (.inl hlt))).trans (hf6.mono (T := fun g => ¬ g < w2.heap.size) (fun _ _ h => h.elim))).trans' hgr (fun _ _ h => h) (fun g hg h => by have := (hownl g h).1; omega)
      obtain ⟨A3, c3, rfl, _⟩ := (Sl.of_own hown9).form
      clear hgrow hown6 hH0 hH2 hH3 hHeld hal hO5 hO6 hf5 hf6 h9 hgr hown
      refine Held.next (i := 10) (o := ?oa10) (by kernel_rfl) ?hia10 (fun K hK => ?sta10)
      case hia10 => (simp only [List.getElem?_toArray, List.getElem?_cons_succ, List.getElem?_cons_zero]; rfl)
      go_simp
      refine hK.out _ _ (fun h => absurd h (by decide)) ?_
      clear hK K
      (try simp only [Act.put, List.setIfInBounds_toArray, List.set_cons_zero, List.set_cons_succ])
      refine Held.done (by kernel_rfl) ?_ _
      refine NoPanic.normal ?_
      go_wp2_with fail
      go_roundw
      case rel => exact ⟨j + 1, A3, c3, (s.1 ++ [y], gr), by omega, by go_num, rfl, HST.out, hO9, by simpa using hown9, hfk9⟩
      case measure => simp [intOf]; omega
    · obtain rfl : j = k' := by omega
      have hofs := fun i (hi : i ≤ M.inn) => of_of hbf HKL.out i (by
        have h1 := hbf.len; have h2 := HSZ.out; have h3 := HMUL.out
        have h4 : i * (3 * j) ≤ M.inn * (3 * (j + 1)) := Nat.mul_le_mul hi (by omega)
        omega)
      have hlim : s.2.len + M.inn * (3 * j) ≤ 7000 := by
        have h1 := hbf.len; have h2 := HSZ.out; have h3 := HMUL.out
        have h4 : M.inn * (3 * j) ≤ M.inn * (3 * (j + 1)) := Nat.mul_le_mul (Nat.le_refl _) (by omega)
        omega
      have hlimi := fun i (hi : i ≤ M.inn) => (Nat.mul_le_mul hi (Nat.le_refl _) : i * (3 * j) ≤ M.inn * (3 * j))
      have HOF := Lib.hid hofs
      have HLIM := Lib.hid hlimi
      have HBL := Lib.hid hbf.lits
      have HBM := Lib.hid hbf.many
      have hst := fun i => (show outsRun s.1 mvs s.2 (i + 1) = ((outsRun s.1 mvs s.2 i).1 ++ [(muxDown s.1 mvs i j (bitI ((mvs.getD j []).getD i false), (outsRun s.1 mvs s.2 i).2)).1], (muxDown s.1 mvs i j (bitI ((mvs.getD j []).getD i false), (outsRun s.1 mvs s.2 i).2)).2) from by
        rw [outs_succ]; unfold outStep; rw [show mvs.length - 1 = j from by rw [HKL.out]; omega])
      have HST := Lib.hid hst
      have hfin : M.fn mvs = outsRun s.1 mvs s.2 M.inn := by rw [HFN.out, HS.out]
      have HFIN := Lib.hid hfin
      have hr00 : outsRun s.1 mvs s.2 0 = ([], s.2) := rfl
      have HR00 := Lib.hid hr00
      have hownB := hown
      have hownBl := hownB.lt
      have hslen := hbf.len
      obtain ⟨K1, hK1⟩ : ∃ K1 : Nat → Prop, K1 = fun g => g < w2.heap.size ∨ (Value.slice A1 j c1).ownBlock = some g := ⟨_, rfl⟩
      have hK1a : ∀ g, g < w2.heap.size → K1 g := by rw [hK1]; exact fun g h => .inl h
      have hK1b : ∀ g, (Value.slice A1 j c1).ownBlock = some g → K1 g := by rw [hK1]; exact fun g h => .inr h
      have hK1c : ∀ g, K1 g → g < w2.heap.size ∨ (Value.slice A1 j c1).ownBlock = some g := by rw [hK1]; exact fun g h => h
      have hO1 : On E0 K1 wr gb s.2 := by rw [hK1]; exact hO
      clear hK1 hO hofs hlimi hst hfin hr00 hbf hown hj hlt HBF HBT HMV HMU
      obtain ⟨W5, rfl⟩ : ∃ W5, W5 = wr := ⟨_, rfl⟩
      have b1 := hbj.at_ 1 rfl
      have b2 := hbj.at_ 2 rfl
      go_wp2_with fail
      go_loopw [12, 65] (fun ov iv wr => ∃ (i : Nat) (A2 : Option Addr) (c2 : Nat) (s2 : List Int × Gr), i ≤ M.inn ∧ iv = .int .i64 (i : Int) ∧ ov = .slice A2 i c2 ∧ outsRun s.1 mvs s.2 i = s2 ∧ On E0 (fun g => K1 g ∨ (Value.slice A2 i c2).ownBlock = some g) wr gb s2.2 ∧
        wr.ownsRow W5.heap.size 3 1 (.slice A2 i c2) i (s2.1.map (.int .i64)) ∧ Frm (fun g => ¬ K1 g) W5 wr) (fun _ iv _ => M.inn - (intOf iv).toNat)
      case atStart => exact ⟨0, none, 0, ([], s.2), by omega, rfl, rfl, HR00.out, On.wide hO1 (Frm.refl (fun _ => False) _) (fun g h => by rcases h with h | h; exact .inl h; simp [Value.ownBlock] at h), World.ownsRow_nil _ _ _ _, Frm.refl _ _⟩
      case round =>
        clear hO1 HR00 b1 b2
        obtain ⟨i, A2, c2, s2, hi, rfl, rfl, hs2e, hO2, hown2, hfr⟩ := hrel
        have hof := HOF.out i hi
        rw [hs2e] at hof
        have hli := HLIM.out i hi
        have hfwr : Frm (fun g => ¬ g < w2.heap.size) w wr := hf0j.trans' hfr (fun _ _ h => h) (fun g _ h hlt => h (hK1a g hlt))
        have hbr := hbj.frm hfr (fun h => h (hK1a _ (by omega)))
        have hrr := hrj.frm hfr (fun h => h (hK1a _ (by omega)))
        have hRr := hRw.frm hfwr (fun g hg => by omega)
        have hownBr := own_frm hownB hfr (fun g hg h => h (hK1b g hg))
        have hsr := hfr.size
        have HS2 := Lib.hid hs2e
        clear hs2e
        by_cases hil : i < M.inn
        · have hle1 := HLEN.out j (by omega)
          obtain ⟨b, o, Bx, dx, b9, o9, e1, hFb, hc, e2, hFb2, hc2⟩ := hRr.cell2 (j := j) (i := i) (by omega) (by omega)
          cases e1
          cases e2
          have hst := HST.out i
          rw [HS2.out] at hst
          have HSTP := Lib.hid hst
          clear hst
          obtain ⟨z, hz⟩ : ∃ z, (mvs.getD j []).getD i false = z := ⟨_, rfl⟩
          rw [hz] at hc2 HSTP
          have hxl : i < (mvs.getD j []).length := by omega
          clear hz hle1
          generalize (mvs.getD j []).length = xl at *
          have i0' : (0 : Int) ≤ i := by omega
          have i1' : (i : Int) < xl := by omega
          have i2' : (i : Int) < M.inn := by omega
          have q0 : (0 : Int) ≤ j := by omega
          have q1 : (j : Int) < (j : Int) + 1 := by omega
          have wj : IntKind.i64.wrap ((j : Int) - 1) = (j : Int) - 1 := IntWalk.i64_in _ (by omega)
          have HBIT := Lib.hid (fun (W : World) => lbit_any z W)
          obtain ⟨K2, hK2⟩ : ∃ K2 : Nat → Prop, K2 = fun g => K1 g ∨ (Value.slice A2 i c2).ownBlock = some g := ⟨_, rfl⟩
          have hO2' : On E0 K2 wr gb s2.2 := by rw [hK2]; exact hO2
          have hK2a : ∀ g, K1 g → K2 g := by rw [hK2]; exact fun g h => .inl h
          have hK2b : ∀ g, (Value.slice A2 i c2).ownBlock = some g → K2 g := by rw [hK2]; exact fun g h => .inr h
          have hK2c : ∀ g, K2 g → K1 g ∨ (Value.slice A2 i c2).ownBlock = some g := by rw [hK2]; exact fun g h => h
          have hbl0 : ∀ x ∈ s.1, isL x s2.2.len = true := fun x hx => isL_up (HBL.out x hx) hof.low
          have hz0 := bit_isL z s2.2.len
          have hln0 : s2.2.len + 3 * j ≤ 7400 := by
            have h1 := hof.len
            have h2 := HLIM.out (i + 1) (by omega)
            rw [Nat.add_mul, Nat.one_mul] at h2
            omega
          have HMD := Lib.hid hof.made
          have HB0 := Lib.hid hbl0
          clear hK2 hO2 hof hli hbl0
          go_wp2_with fail
          refine (HBIT.out _).mono ?_
          rintro e w' ⟨rfl, rfl⟩
          obtain ⟨wo, rfl⟩ : ∃ wo, wo = wr := ⟨_, rfl⟩
          go_wp2_with fail
          go_loopw [14, 15] (fun lv kv wr => ∃ (q : Nat) (s3 : Int × Gr), q ≤ j ∧ kv = .int .i64 ((q : Int) - 1) ∧ lv = .int .i64 s3.1 ∧ muxDown s.1 mvs i q s3 = muxDown s.1 mvs i j (bitI z, s2.2) ∧ Made s3.2.n s3.2.ands ∧ (∀ x ∈ s.1, isL x s3.2.len = true) ∧ isL s3.1 s3.2.len = true ∧ s3.2.len + 3 * q ≤ 7400 ∧ On E0 K2 wr gb s3.2 ∧ Frm (fun g => ¬ K2 g) wo wr) (fun _ kv _ => (intOf kv + 1).toNat)
          case atStart => exact ⟨j, (bitI z, s2.2), by omega, rfl, rfl, rfl, HMD.out, HB0.out, hz0, hln0, hO2', Frm.refl _ _⟩
          case round =>
            clear hO2' HMD HB0 hz0 hln0
            obtain ⟨q, s3, hq, rfl, rfl, hmx, hmd3, hbl3, hl3, hln3, hO3, hfq⟩ := hrel
            have HMX := Lib.hid hmx
            clear hmx
            by_cases hq0 : 0 < q
            · obtain ⟨q', rfl⟩ : ∃ q', q = q' + 1 := ⟨q - 1, by omega⟩
              have hqi : (((q' + 1 : Nat) : Int) - 1) = (q' : Int) := by omega
              rw [hqi]
              clear hqi
              have hownBq := own_frm hownBr hfq (fun g hg h => h (hK2a g (hK1b g hg)))
              obtain ⟨gB, rfl, _⟩ := own_ptr hownBq (by omega)
              have hbm := HBM.out
              have hcb := own_at hownBq (i := q') (u := .int .i64 (s.1.getD q' 0)) (by rw [List.getElem?_map, List.getElem?_eq_getElem (by omega)]; simp [List.getD, show q' < s.1.length by omega])
              have hfwq : Frm (fun g => ¬ g < w2.heap.size) w wr := hfwr.trans' hfq (fun _ _ h => h) (fun g _ h hlt => h (hK2a g (hK1a g hlt)))
              have hle2 := HLEN.out q' (by omega)
              obtain ⟨b, o, Bx, dx, b9, o9, e1, hFb, hcc, e2, hFb2, hcc2⟩ := (hRw.frm hfwq (fun g hg => by omega)).cell2 (j := q') (i := i) (by omega) (by omega)
              cases e1
              cases e2
              have hms : muxDown s.1 mvs i (q' + 1) s3 = muxDown s.1 mvs i q' (muxG s3.2 (s.1.getD q' 0) (bitI ((mvs.getD q' []).getD i false)) s3.1) := rfl
              have hbl := getD_isL hbl3 q'
              obtain ⟨v, hv⟩ : ∃ v, (mvs.getD q' []).getD i false = v := ⟨_, rfl⟩
              rw [hv] at hcc2 hms
              have hxl2 : i < (mvs.getD q' []).length := by omega
              clear hv hle2
              generalize (mvs.getD q' []).length = xl2 at *
              have hmu := mux_up hmd3 hbl (bit_isL v s3.2.len) hl3 (by omega)
              have HMS := Lib.hid (hms.symm.trans HMX.out)
              have HMUX := Lib.hid (on_mux (hO3.drewN 1) (s.1.getD q' 0) (bitI v) s3.1 hbl (bit_isL v s3.2.len) hl3 (by omega))
              have HBIT2 := Lib.hid (fun (W : World) => lbit_any v W)
              have hbl3' : ∀ x ∈ s.1, isL x (muxG s3.2 (s.1.getD q' 0) (bitI v) s3.1).2.len = true := fun x hx => hmu.1.isL (hbl3 x hx)
              have hmd' := hmu.1.made
              have hl3' := hmu.2
              have hln' : (muxG s3.2 (s.1.getD q' 0) (bitI v) s3.1).2.len + 3 * q' ≤ 7400 := by have := hmu.1.high; omega
              clear hms hbl hmu HMX hmd3 hbl3 hl3 hln3
              generalize muxG s3.2 (s.1.getD q' 0) (bitI v) s3.1 = s4 at *
              generalize s.1.getD q' 0 = bq at *
              have HBL3 := Lib.hid hbl3'
              have HMD3 := Lib.hid hmd'
              clear hbl3' hmd'
              have p0 : (0 : Int) ≤ q' := by omega
              have p1 : (q' : Int) < j := by omega
              have p2 : (q' : Int) < (j : Int) + 1 := by omega
              have p3 : (i : Int) < xl2 := by omega
              have wq : IntKind.i64.wrap ((q' : Int) - 1) = (q' : Int) - 1 := IntWalk.i64_in _ (by omega)
              have hHH := Lib.hid (fun (W W' : World) (hf : Frm (fun g => ¬ K2 g) W W') (h : W.cell? ⟨gB, q', none⟩ = some (.int .i64 bq) ∧ W.cell? ⟨av, ao + q', none⟩ = some (.slice (some ⟨b9, o9, none⟩) xl2 dx) ∧ W.cell? ⟨b9, o9 + i, none⟩ = some (.bool v)) =>
                show W'.cell? ⟨gB, q', none⟩ = some (.int .i64 bq) ∧ W'.cell? ⟨av, ao + q', none⟩ = some (.slice (some ⟨b9, o9, none⟩) xl2 dx) ∧ W'.cell? ⟨b9, o9 + i, none⟩ = some (.bool v) from ⟨hf.cell h.1 (fun e => e (hK2a _ (hK1b _ rfl))), hf.cell h.2.1 (fun e => e (hK2a _ (hK1a _ (by simp at hFb ⊢; omega)))), hf.cell h.2.2 (fun e => e (hK2a _ (hK1a _ (by simp at hFb2 ⊢; omega))))⟩)
              have hH0 : wr.drew.cell? ⟨gB, q', none⟩ = some (.int .i64 bq) ∧ wr.drew.cell? ⟨av, ao + q', none⟩ = some (.slice (some ⟨b9, o9, none⟩) xl2 dx) ∧ wr.drew.cell? ⟨b9, o9 + i, none⟩ = some (.bool v) := ⟨hcb, hcc, hcc2⟩
              clear hcb hcc hcc2 hc hc2
              go_wp2_with fail
              have hHeld := hH0
              refine Held.begin (fun w' => w'.cell? ⟨gB, q', none⟩ = some (.int .i64 bq) ∧ w'.cell? ⟨av, ao + q', none⟩ = some (.slice (some ⟨b9, o9, none⟩) xl2 dx) ∧ w'.cell? ⟨b9, o9 + i, none⟩ = some (.bool v)) 15 (by kernel_rfl) ?_
              refine Held.take (i := 0) (oi := ?ob0) (v := ?vb0) ?hib0 (by kernel_rfl) (by kernel_rfl) (by kernel_rfl) (by kernel_rfl) (fun _ _ _ h => h) (Or.inl ⟨?hwb0, ?hyb0⟩) (by assumption) ?restb0
              case hib0 => (simp only [List.getElem?_toArray, List.getElem?_cons_zero]; rfl)
              case hwb0 => rfl
              case hyb0 => (intro w hSw; (try dsimp only at hSw); go_simp; try with_reducible rfl)
              (try simp only [Act.put, List.setIfInBounds_toArray, List.set_cons_zero, List.set_cons_succ])
              refine Held.take (i := 1) (oi := ?ob1) (v := ?vb1) ?hib1 (by kernel_rfl) (by kernel_rfl) (by kernel_rfl) (by kernel_rfl) (fun _ _ _ h => h) (Or.inl ⟨?hwb1, ?hyb1⟩) (by assumption) ?restb1
              case hib1 => (simp only [List.getElem?_toArray, List.getElem?_cons_succ, List.getElem?_cons_zero]; rfl)
              case hwb1 => rfl
              case hyb1 => (intro w hSw; (try dsimp only at hSw); go_simp; try with_reducible rfl)
              (try simp only [Act.put, List.setIfInBounds_toArray, List.set_cons_zero, List.set_cons_succ])
              refine Held.take (i := 2) (oi := ?ob2) (v := ?vb2) ?hib2 (by kernel_rfl) (by kernel_rfl) (by kernel_rfl) (by kernel_rfl) (fun _ _ _ h => h) (Or.inl ⟨?hwb2, ?hyb2⟩) (by assumption) ?restb2
              case hib2 => (simp only [List.getElem?_toArray, List.getElem?_cons_succ, List.getElem?_cons_zero]; rfl)
              case hwb2 => rfl
              case hyb2 => (intro w hSw; (try dsimp only at hSw); go_simp; try with_reducible rfl)
              (try simp only [Act.put, List.setIfInBounds_toArray, List.set_cons_zero, List.set_cons_succ])
              refine Held.take (i := 3) (oi := ?ob3) (v := ?vb3) ?hib3 (by kernel_rfl) (by kernel_rfl) (by kernel_rfl) (by kernel_rfl) (fun _ _ _ h => h) (Or.inl ⟨?hwb3, ?hyb3⟩) (by assumption) ?restb3
              case hib3 => (simp only [List.getElem?_toArray, List.getElem?_cons_succ, List.getElem?_cons_zero]; rfl)
              case hwb3 => rfl
              case hyb3 => (intro w hSw; (try dsimp only at hSw); go_simp; try with_reducible rfl)
              (try simp only [Act.put, List.setIfInBounds_toArray, List.set_cons_zero, List.set_cons_succ])
              refine Held.take (i := 4) (oi := ?ob4) (v := ?vb4) ?hib4 (by kernel_rfl) (by kernel_rfl) (by kernel_rfl) (by kernel_rfl) (fun _ _ _ h => h) (Or.inl ⟨?hwb4, ?hyb4⟩) (by assumption) ?restb4
              case hib4 => (simp only [List.getElem?_toArray, List.getElem?_cons_succ, List.getElem?_cons_zero]; rfl)
              case hwb4 => rfl
              case hyb4 => (intro w hSw; (try dsimp only at hSw); go_simp; try with_reducible rfl)
              (try simp only [Act.put, List.setIfInBounds_toArray, List.set_cons_zero, List.set_cons_succ])
              refine Held.take (i := 5) (oi := ?ob5) (v := ?vb5) ?hib5 (by kernel_rfl) (by kernel_rfl) (by kernel_rfl) (by kernel_rfl) (fun _ _ _ h => h) (Or.inl ⟨?hwb5, ?hyb5⟩) (by assumption) ?restb5
              case hib5 => (simp only [List.getElem?_toArray, List.getElem?_cons_succ, List.getElem?_cons_zero]; rfl)
              case hwb5 => rfl
              case hyb5 => (intro w hSw; (try dsimp only at hSw); go_simp; try with_reducible rfl)
              (try simp only [Act.put, List.setIfInBounds_toArray, List.set_cons_zero, List.set_cons_succ])
              refine Held.take (i := 6) (oi := ?ob6) (v := ?vb6) ?hib6 (by kernel_rfl) (by kernel_rfl) (by kernel_rfl) (by kernel_rfl) (fun _ _ _ h => h) (Or.inl ⟨?hwb6, ?hyb6⟩) (by assumption) ?restb6
              case hib6 => (simp only [List.getElem?_toArray, List.getElem?_cons_succ, List.getElem?_cons_zero]; rfl)
              case hwb6 => rfl
              case hyb6 => (intro w hSw; (try dsimp only at hSw); go_simp; try with_reducible rfl)
              (try simp only [Act.put, List.setIfInBounds_toArray, List.set_cons_zero, List.set_cons_succ])
              refine Held.take (i := 7) (oi := ?ob7) (v := ?vb7) ?hib7 (by kernel_rfl) (by kernel_rfl) (by kernel_rfl) (by kernel_rfl) (fun _ _ _ h => h) (Or.inl ⟨?hwb7, ?hyb7⟩) (by assumption) ?restb7
              case hib7 => (simp only [List.getElem?_toArray, List.getElem?_cons_succ, List.getElem?_cons_zero]; rfl)
              case hwb7 => rfl
              case hyb7 => (intro w hSw; (try dsimp only at hSw); go_simp; try with_reducible rfl)
              (try simp only [Act.put, List.setIfInBounds_toArray, List.set_cons_zero, List.set_cons_succ])
              refine Held.take (i := 8) (oi := ?ob8) (v := ?vb8) ?hib8 (by kernel_rfl) (by kernel_rfl) (by kernel_rfl) (by kernel_rfl) (fun _ _ _ h => h) (Or.inl ⟨?hwb8, ?hyb8⟩) (by assumption) ?restb8
              case hib8 => (simp only [List.getElem?_toArray, List.getElem?_cons_succ, List.getElem?_cons_zero]; rfl)
              case hwb8 => rfl
              case hyb8 => (intro w hSw; (try dsimp only at hSw); go_simp; try with_reducible rfl)
              (try simp only [Act.put, List.setIfInBounds_toArray, List.set_cons_zero, List.set_cons_succ])
              refine Held.take (i := 9) (oi := ?ob9) (v := ?vb9) ?hib9 (by kernel_rfl) (by kernel_rfl) (by kernel_rfl) (by kernel_rfl) (fun _ _ _ h => h) (Or.inl ⟨?hwb9, ?hyb9⟩) (by assumption) ?restb9
              case hib9 => (simp only [List.getElem?_toArray, List.getElem?_cons_succ, List.getElem?_cons_zero]; rfl)
              case hwb9 => rfl
              case hyb9 => (intro w hSw; (try dsimp only at hSw); go_simp; try with_reducible rfl)
              (try simp only [Act.put, List.setIfInBounds_toArray, List.set_cons_zero, List.set_cons_succ])
              refine Held.take (i := 10) (oi := ?ob10) (v := ?vb10) ?hib10 (by kernel_rfl) (by kernel_rfl) (by kernel_rfl) (by kernel_rfl) (fun _ _ _ h => h) (Or.inl ⟨?hwb10, ?hyb10⟩) (by assumption) ?restb10
              case hib10 => (simp only [List.getElem?_toArray, List.getElem?_cons_succ, List.getElem?_cons_zero]; rfl)
              case hwb10 => rfl
              case hyb10 => (intro w hSw; (try dsimp only at hSw); go_simp; try with_reducible rfl)
              (try simp only [Act.put, List.setIfInBounds_toArray, List.set_cons_zero, List.set_cons_succ])
              refine Held.take (i := 11) (oi := ?ob11) (v := ?vb11) ?hib11 (by kernel_rfl) (by kernel_rfl) (by kernel_rfl) (by kernel_rfl) (fun _ _ _ h => h) (Or.inl ⟨?hwb11, ?hyb11⟩) (by assumption) ?restb11
              case hib11 => (simp only [List.getElem?_toArray, List.getElem?_cons_succ, List.getElem?_cons_zero]; rfl)
              case hwb11 => rfl
              case hyb11 => (intro w hSw; (try dsimp only at hSw); go_simp; try with_reducible rfl)
              (try simp only [Act.put, List.setIfInBounds_toArray, List.set_cons_zero, List.set_cons_succ])
              refine Held.take (i := 13) (oi := ?ob13) (v := ?vb13) ?hib13 (by kernel_rfl) (by kernel_rfl) (by kernel_rfl) (by kernel_rfl) (fun _ _ _ h => h) (Or.inl ⟨?hwb13, ?hyb13⟩) (by assumption) ?restb13
              case hib13 => (simp only [List.getElem?_toArray, List.getElem?_cons_succ, List.getElem?_cons_zero]; rfl)
              case hwb13 => rfl
              case hyb13 => (intro w hSw; (try dsimp only at hSw); go_simp; try with_reducible rfl)
              (try simp only [Act.put, List.setIfInBounds_toArray, List.set_cons_zero, List.set_cons_succ])
              refine Held.next (i := 12) (o := ?ob12) (by kernel_rfl) ?hib12 (fun K hK => ?stb12)
              case hib12 => (simp only [List.getElem?_toArray, List.getElem?_cons_succ, List.getElem?_cons_zero]; rfl)
              go_simp
              (go_at_call 134; refine (HBIT2.out _).mono ?_; rintro e w' ⟨rfl, rfl⟩)
              (try go_wp2_with fail)
              refine hK.out _ _ (fun _ => by assumption) ?_
              clear hK K
              (try simp only [Act.put, List.setIfInBounds_toArray, List.set_cons_zero, List.set_cons_succ])
              refine Held.next (i := 14) (o := ?ob14) (by kernel_rfl) ?hib14 (fun K hK => ?stb14)
              case hib14 => (simp only [List.getElem?_toArray, List.getElem?_cons_succ, List.getElem?_cons_zero]; rfl)
              go_simp
              (go_at_call 56; refine HMUX.out.mono ?_; rintro e w5 ⟨rfl, hO5, hf5⟩)
              (try go_wp2_with fail)
              refine hK.out _ _ (fun _ => by exact hHH.out _ _ hf5 hHeld) ?_
              clear hK K
              (try simp only [Act.put, List.setIfInBounds_toArray, List.set_cons_zero, List.set_cons_succ])
              refine Held.next (i := 15) (o := ?ob15) (by kernel_rfl) ?hib15 (fun K hK => ?stb15)
              case hib15 => (simp only [List.getElem?_toArray, List.getElem?_cons_succ, List.getElem?_cons_zero]; rfl)
              go_simp
              refine hK.out _ _ (fun h => absurd h (by decide)) ?_
              clear hK K
              (try simp only [Act.put, List.setIfInBounds_toArray, List.set_cons_zero, List.set_cons_succ])
              refine Held.done (by kernel_rfl) ?_ _
              refine NoPanic.normal ?_
              go_wp2_with fail
              go_roundw
              case rel => exact ⟨q', s4, by omega, rfl, rfl, HMS.out, HMD3.out, HBL3.out, hl3', hln', hO5, (hfq.drewN 1).trans hf5⟩
              case measure => simp [intOf] <;> omega
            · obtain rfl : q = 0 := by omega
              have hmx0 : s3 = muxDown s.1 mvs i j (bitI z, s2.2) := HMX.out
              have hstp := HSTP.out
              rw [← hmx0] at hstp
              have HSP := Lib.hid hstp
              clear hmx0 hstp HMX HSTP hmd3 hbl3 hl3 hln3
              have hown3 := own_frm hown2 hfq (fun g hg h => h (hK2b g hg))
              have hown3l := hown3.lt
              have hsq := hfq.size
              have hfWq : Frm (fun g => ¬ K1 g) W5 wr := hfr.trans' hfq (fun _ _ h => h) (fun g _ h hk => h (hK2a g hk))
              obtain ⟨r3, g3⟩ := s3
              simp only at hO3 HSP
              go_wp2_with (at_builtin; refine wpList_append_own_at _ rfl (.tmp 97) (.tmp 99) 22 rfl W5.heap.size 3 i0 (.int .i64 0) 1 8 Tryd.underlying22 hi0 hz0 hz1 hz2 rfl (by decide) _ _ _ rfl (hown3.alloc (.cells #[.int .i64 r3] 3)) ⟨wr.heap.size, 0, none⟩ 1 1 [.int .i64 r3] rfl rfl (cell_one_new _ _ _) ?e2 ?e3 ?e4 ?e5 ?_)
              case e2 => first | (intro u hu; simp at hu; subst hu; rfl) | rfl
              case e3 => unfold maxLen; omega
              case e4 => omega
              case e5 => first | omega | (simp; omega) | simp
              intro v' w9 hown9 hgrow _ h9
              have hgr : Frm (fun g => (Value.slice A2 i c2).ownBlock = some g) wr w9 := (((Frm.refl (fun g => (Value.slice A2 i c2).ownBlock = some g) wr).alloc (.cells #[.int .i64 r3] 3)).grown hgrow (fun g hg hlt => hg))
              have hO9 := On.wideF (K' := fun g' => K1 g' ∨ v'.ownBlock = some g') hO3 hgr (fun g' _ h => hK2b g' h) (fun g' h => by
                rcases h with h | h
                · exact .inl (hK2a g' h)
                · rcases h9 with e | e
                  · exact .inl (hK2b g' (e ▸ h))
                  · have hlt9 := (hown9.lt g' h).2
                    rw [e] at h
                    simp at h
                    exact .inr ⟨by omega, hlt9⟩)
              have hfW9 : Frm (fun g => ¬ K1 g) W5 w9 := hfWq.trans' hgr (fun _ _ h => h) (fun g hg h => by have := (hown3l g h).1; omega)
              obtain ⟨A3, c3, rfl, _⟩ := (Sl.of_own hown9).form
              clear hgrow hown3 hgr hO3 h9
              go_wp2_with fail
              go_roundw
              case rel => exact ⟨i + 1, A3, c3, (s2.1 ++ [r3], g3), by omega, by go_num, rfl, HSP.out, hO9, by simpa using hown9, hfW9⟩
              case measure => simp [intOf]; omega
        · obtain rfl : i = M.inn := by omega
          have hfnn : M.fn mvs = s2 := by rw [HFIN.out, HS2.out]
          have hnum := hof.num
          have hmany := hof.many
          obtain ⟨fp, hG, _⟩ := id hO2
          have HER := Lib.hid (err_any E0 fp gb s2.2 wr hG .nilIface (by rw [hof.bad]; rfl))
          have HCI := Lib.hid (on_circuit hO2 A2 M.inn c2 _ s2.1 hmany (by omega) (Sl.of_own hown2))
          have HFF := Lib.hid hfnn
          have HMM := Lib.hid hmany
          have HNU := Lib.hid hnum
          clear hG hof hfnn hmany hnum hO2 hown2
          go_wp2_with fail
          refine HER.out.mono ?_
          rintro e w' ⟨rfl, rfl⟩
          go_wp2_with fail
          refine HCI.out.mono ?_
          rintro e w6 ⟨v, rfl, ⟨Ar, cr, Br, dr, rfl, hAr, hBr⟩, hf6⟩
          have hr6 := hrr.frm hf6 id
          have r0 := hr6.at_ 0 rfl
          have r1 := hr6.at_ 1 rfl
          have r2 := hr6.at_ 2 rfl
          have y0 := hr6.frozen 0
          have y1 := hr6.frozen 1
          have y2 := hr6.frozen 2
          have hnn := HNU.out
          have hbs := ((hr6.set_ 0 (.int .i64 (s2.2.n : Int))).set_ 1 (.slice Ar s2.2.ands.length cr)).set_ 2 (.slice Br s2.1.length dr)
          have hset : Frm (fun g => g = w.heap.size + 1) w6 (((w6.setCell ⟨w.heap.size + 1, 0, none⟩ (.int .i64 (s2.2.n : Int))).setCell ⟨w.heap.size + 1, 1, none⟩ (.slice Ar s2.2.ands.length cr)).setCell ⟨w.heap.size + 1, 2, none⟩ (.slice Br s2.1.length dr)) := (((Frm.refl (fun g => g = w.heap.size + 1) _).setCell (p := ⟨w.heap.size + 1, 0, none⟩) (fun _ => rfl) _).setCell (p := ⟨w.heap.size + 1, 1, none⟩) (fun _ => rfl) _).setCell (p := ⟨w.heap.size + 1, 2, none⟩) (fun _ => rfl) _
          have hszr := hfwr.size
          have hA7 := (hAr.frm hset (fun g h e => by omega)).mono (G := fun g => w.heap.size ≤ g) (fun g _ h => by omega)
          have hB7 := (hBr.frm hset (fun g h e => by omega)).mono (G := fun g => w.heap.size ≤ g) (fun g _ h => by omega)
          have hff : Frm (fun _ => False) w (((w6.setCell ⟨w.heap.size + 1, 0, none⟩ (.int .i64 (s2.2.n : Int))).setCell ⟨w.heap.size + 1, 1, none⟩ (.slice Ar s2.2.ands.length cr)).setCell ⟨w.heap.size + 1, 2, none⟩ (.slice Br s2.1.length dr)) := by
            have h1 : Frm (fun g => ¬ g < w2.heap.size) w w6 := hfwr.trans (hf6.mono (fun _ _ h => h.elim))
            have h2 : Frm (fun _ => False) w w6 := h1.mono (fun g hg h => h (by omega))
            exact h2.then' hset (fun g hg e => by omega)
          have d0 := hbs.at_ 0 rfl
          have d1 := hbs.at_ 1 rfl
          have d2 := hbs.at_ 2 rfl
          clear hbs hset hAr hBr hr6 hf6 HCI HER hnn
          go_wp2_with fail
          refine bodyPost_ret (v := .tuple #[cv (s2.2.n : Int) Ar s2.2.ands.length cr Br s2.1.length dr, .nilIface]) (by simp [results, Tryd.results94, go_sem, d0, d1, d2]) rfl ⟨_, rfl, ?_, hff⟩
          rw [HFF.out, ← HNU.out]
          exact ⟨Ar, cr, Br, dr, rfl, hA7, hB7⟩

end Go.Proofs.YtkjlgamggkencaaDoor
