/-
  look.Copy of any right circuit: one node alone as well; beside what is kept.
-/
import Derived.Test.YtkjlgamggkencaaDoorMCopyC
namespace Go.Proofs.YtkjlgamggkencaaDoor
open Go.RowKit
set_option linter.unusedVariables false

theorem copyG_one (g : Gr) (x : Int) (bys : List Int) : copyG g 0 [] x bys = (asL [0] x, g) := rfl

set_option maxRecDepth 100000 in
set_option maxHeartbeats 8000000 in
theorem copy_one (E : Nat → Value) (fp : Nat → Prop) (gb : Nat) (g : Gr) (A : Option Addr) (c : Nat) (B : Option Addr) (k d : Nat) (l : List Int) (x : Int) (Ab : Option Addr) (lb cb : Nat) (bys : List Int) (F F2 F3 : Nat → Prop) (w : World) (hG : IsGr E w fp gb g)
    (hk : l.length = k) (hlb : bys.length = lb) (hk4 : k ≤ 2000) (hb4 : lb ≤ 1000000) (hl : ∀ x ∈ l, isL x 0 = true) (hx : isL x 0 = true)
    (hs : Sl w F 2 (.slice A 0 c) 0 (pairs [])) (ho : Sl w F2 1 (.slice B k d) k (l.map (.int .i64))) (hbs : Sl w F3 1 (.slice Ab lb cb) lb (bys.map (.int .i64))) :
    Calls Tryd.prog 86 #[.pointer (some ⟨gb, 0, none⟩), cv 0 A 0 c B k d, .int .i64 x, .slice Ab lb cb] w fun e w' => e = .returned (.int .i64 (copyG g 0 [] x bys).1) ∧ GStep E fp gb w w' (copyG g 0 [] x bys).2 := by
  rw [copyG_one]
  obtain ⟨i0, hi0, hz0, hz1, hz2⟩ := info_parts infoIntG
  have hf0 := (Frm.refl (fun _ => False) w).alloc (.cells #[.int .i64 0, .slice A 0 c, .slice B k d] 40)
  have hb0 : Blk (w.alloc (.cells #[.int .i64 0, .slice A 0 c, .slice B k d] 40)) w.heap.size 40 [.int .i64 0, .slice A 0 c, .slice B k d] := Blk.new _ _ _
  have HMK := Lib.hid (marks_any 0 [] A 0 c B k d l x F F2 (w.alloc (.cells #[.int .i64 0, .slice A 0 c, .slice B k d] 40)) rfl hk (Right.nil 0) (by omega) (by omega) hk4 (by simpa using hl) (by simpa using hx) (hs.frm hf0 (fun _ _ => id)) (ho.frm hf0 (fun _ _ => id)))
  have b00 := hb0.at_ 0 rfl
  have b01 := hb0.at_ 1 rfl
  have b02 := hb0.at_ 2 rfl
  have hxl := isL_iff.1 hx
  clear hk hl hx hs ho
  go_enter Tryd.func86, Tryd.ntmps86
  go_wp2_with fail
  refine HMK.out.mono ?_
  rintro e w1 ⟨g1, rfl, hown1, hf1⟩
  generalize marksL 0 [] x = R at *
  have he : ∀ W : World, (binOp .eql 54 (.slice (some ⟨g1, 0, none⟩) 1 1) (.slice none 0 0)).run Tryd.prog W = .ok (.bool false) W := fun _ => rfl
  have hf01 := hf0.trans hf1
  have hb1 := hb0.frm hf1 id
  have hsz1 := hf01.size
  clear HMK b00 b01 b02 hf0 hf1 hb0
  go_wp2_with (refine wpList_make_z _ rfl _ _ 22 rfl 3 i0 (.int .i64 0) Tryd.underlying22 hi0 hz0 hz1 rfl .i64 .i64 1 1 ?ca ?cb (by omega) (by rw [hz2]; omega) (by omega) ?_)
  case ca => go_simp
  case cb => go_simp
  intro w2 hb2 hf2
  have hal := (Frm.refl (fun _ => False) w2).alloc (.cells #[.slice (some ⟨w1.heap.size, 0, none⟩) 1 1] 22)
  have hbt : Blk (w2.alloc (.cells #[.slice (some ⟨w1.heap.size, 0, none⟩) 1 1] 22)) w2.heap.size 22 [.slice (some ⟨w1.heap.size, 0, none⟩) 1 1] := Blk.new _ _ _
  have hfw := hf2.trans hal
  have hbr := hb2.frm hal id
  have hb3 := hb1.frm hfw id
  have hf03 := hf01.trans hfw
  have c0 := hbt.at_ 0 rfl
  have b0 := hb3.at_ 0 rfl
  have hlt2 := hb2.lt
  have hs1 := hf01.size
  have hs9 : w.heap.size < w1.heap.size := hb1.lt
  clear hb1 hb2 hfw hal hf01
  go_wp2_with (refine wpList_copy_frm rfl (.tmp 26) (.tmp 27) 22 22 rfl 3 Tryd.underlying22 (by rw [hi0]; simp [hz1]) _ _ _ _ _ _ rfl rfl w1.heap.size 1 (List.replicate 1 (Value.int .i64 0)) 3 hbr [] ?cc0 (fun h => absurd h (by simp)) (by simp) (by simp) ?_)
  case cc0 => simp
  intro w4 HG4 hf4
  have hb4 : Blk w4 w1.heap.size 3 [.int .i64 0] := HG4.out
  have hbt4 := hbt.frm hf4 (by omega)
  have hf04 := hf03.then' hf4 (fun g hg e => by omega)
  have hG4 := hG.frm hf04 (fun _ _ => id)
  have hsl := hb4.sl 1 1 rfl
  have hcb := hbt4.at_ 0 rfl
  have HAX := Lib.hid (fun (W : World) (hW : W = w4) => show Calls Tryd.prog 127 #[.int .i64 x, .pointer (some ⟨w2.heap.size, 0, none⟩)] W fun e w' => e = .returned (.int .i64 (asL [0] x)) ∧ W = w' from by
    subst hW
    exact clit_any w2.heap.size (some ⟨w1.heap.size, 0, none⟩) 1 1 _ [0] x W rfl (by omega) (by omega) (by omega) (by simp) hcb hsl)
  have b0' := (hb3.frm hf4 (by omega)).at_ 0 rfl
  clear HG4 hbr hbt hb3 hf4 c0 b0 hsl
  go_wp2_with fail
  go_loopw [12] (fun iv wr => iv = .int .i64 1 ∧ wr = w4) (fun iv _ => 0)
  case atStart => exact ⟨rfl, rfl⟩
  case round =>
    obtain ⟨rfl, rfl⟩ := hrel
    go_wp2_with fail
    refine (HAX.out _ rfl).mono ?_
    rintro e w' ⟨rfl, rfl⟩
    go_wp2_with fail
    go_ret
    exact ⟨rfl, fp, hG4, grow_refl _ _ _, hf04.mono (fun _ _ h => h.elim)⟩

theorem on_copy_all {E : Nat → Value} {K : Nat → Prop} {w : World} {gb : Nat} {g : Gr} (h : On E K w gb g) (n : Nat) (L : List (Int × Int)) (A : Option Addr) (m c : Nat) (B : Option Addr) (k d : Nat) (l : List Int) (x : Int) (Ab : Option Addr) (lb cb : Nat) (bys : List Int) (F F2 F3 : Nat → Prop) (hmade : Made g.n g.ands) (hgl : g.len + L.length < 8000)
    (hm : L.length = m) (hk : l.length = k) (hlb : bys.length = lb) (hr : Right n L) (hn : n ≤ 2000) (hm4 : m ≤ 2000) (hk4 : k ≤ 2000) (hb4 : lb ≤ 1000000) (hl : ∀ x ∈ l, isL x (n + m) = true) (hx : isL x (n + m) = true) (hby : ∀ x ∈ bys, isL x g.len = true)
    (hs : Sl w F 2 (.slice A m c) m (pairs L)) (ho : Sl w F2 1 (.slice B k d) k (l.map (.int .i64))) (hbs : Sl w F3 1 (.slice Ab lb cb) lb (bys.map (.int .i64))) (hF : ∀ k, F k → K k) :
    Calls Tryd.prog 86 #[.pointer (some ⟨gb, 0, none⟩), cv n A m c B k d, .int .i64 x, .slice Ab lb cb] w fun e w' => e = .returned (.int .i64 (copyG g n L x bys).1) ∧ On E K w' gb (copyG g n L x bys).2 ∧ Frm (fun k => ¬ K k) w w' := by
  obtain ⟨fp, h1, h2, h3⟩ := h
  have key : Calls Tryd.prog 86 #[.pointer (some ⟨gb, 0, none⟩), cv n A m c B k d, .int .i64 x, .slice Ab lb cb] w fun e w' => e = .returned (.int .i64 (copyG g n L x bys).1) ∧ GStep E fp gb w w' (copyG g n L x bys).2 := by
    by_cases h1' : n + 1 + m = 1
    · obtain rfl : n = 0 := by omega
      obtain rfl : m = 0 := by omega
      obtain rfl : L = [] := List.eq_nil_of_length_eq_zero hm
      exact copy_one E fp gb g A c B k d l x Ab lb cb bys F F2 F3 w h1 hk hlb hk4 hb4 (by simpa using hl) (by simpa using hx) hs ho hbs
    · exact copy_many E fp gb g n L A m c B k d l x Ab lb cb bys F F2 F3 w h1 (fun k hk => (h2 k hk).2) hmade hgl hm hk hlb hr hn hm4 hk4 hb4 hl hx hby hs ho hbs (fun k hk hf => (h2 k hf).1 (hF k hk)) h1'
  refine key.mono ?_
  rintro e w' ⟨rfl, fp', q1, q2, q3⟩
  have hs := q3.size
  refine ⟨rfl, ⟨fp', q1, fun k hk => ?_, fun k hk => by have := h3 k hk; omega⟩, q3.mono fun k _ hk => (h2 k hk).1⟩
  rcases q2 k hk with h | h
  · exact ⟨(h2 k h).1, by have := (h2 k h).2; omega⟩
  · exact ⟨fun hK => by have := h3 k hK; omega, h.2⟩

end Go.Proofs.YtkjlgamggkencaaDoor
