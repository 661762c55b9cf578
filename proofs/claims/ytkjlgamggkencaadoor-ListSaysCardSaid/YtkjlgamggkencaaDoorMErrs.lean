/-
  The seven sentinels out of a row's 'laid': where they lie, that they are different, and what an error's value is.
-/
import Derived.Test.YtkjlgamggkencaaDoorMLaid
import Derived.Test.YtkjlgamggkencaaDoorMBase
import Derived.Stop.LaidTwo
import Derived.LaidEql
namespace Go.Proofs.YtkjlgamggkencaaDoor
open Go.RowKit

def gOf : Nat → Nat
  | 101 => 2
  | 102 => 1
  | 103 => 3
  | 104 => 0
  | 105 => 4
  | 106 => 5
  | _ => 6

/-- the value of an error's number: no error; a sentinel's -/
def PE (P : Nat → Addr) (c : Nat) : Value := if c = 0 then .nilIface else .iface 158 (.pointer (some (P c)))
theorem PE_zero (P : Nat → Addr) : PE P 0 = .nilIface := rfl
theorem PE_pos (P : Nat → Addr) (c : Nat) (h : c ≠ 0) : PE P c = .iface 158 (.pointer (some (P c))) := if_neg h

structure Sents (L : List Nat) (P : Nat → Addr) (w : World) : Prop where
  cell : ∀ c ∈ L, w.cell? ⟨gOf c, 0, none⟩ = some (.iface 158 (.pointer (some (P c))))
  row : ∀ c ∈ L, ∃ cs t, w.heap[(P c).block]? = some (.cells cs t (0, 0))
  ne : ∀ c ∈ L, ∀ d ∈ L, c ≠ d → P c ≠ P d

theorem Sents.frm {L : List Nat} {P : Nat → Addr} {w w' : World} (h : Sents L P w) (hf : Frm (fun _ => False) w w') : Sents L P w' := by
  refine ⟨fun c hc => hf.cell (h.cell c hc) id, fun c hc => ?_, h.ne⟩
  obtain ⟨cs, t, hr⟩ := h.row c hc
  have hlt : (P c).block < w.heap.size := by
    rcases Nat.lt_or_ge (P c).block w.heap.size with h | h
    · exact h
    · rw [Array.getElem?_eq_none h] at hr; cases hr
  exact ⟨cs, t, (hf.block _ hlt id).trans hr⟩

/-- one of the list -/
structure Place where
  code : Nat
  name : String
  text : List UInt8
abbrev errD (text : List UInt8) : DataW Unit := .iface "*errors.errorString" (.ptr (.agg [.lit (.string text)]))
abbrev laidOf (l : List Place) : List (String × DataW Unit) := l.map fun x => (x.name, errD x.text)

theorem laid_drop2 {P : Program} {x y : String × DataW Unit} {r : List (String × DataW Unit)} {w : World} (h : laidMet P (x :: y :: r) w) : laidMet P (x :: r) w := by
  obtain ⟨ps, hv, hnd, hrows⟩ := h
  obtain ⟨n, d⟩ := x
  obtain ⟨n', d'⟩ := y
  obtain ⟨g, t, cs, fuel, p, q, h1, h2, h3, h4, ⟨g', t', cs', fuel', p', q', _, _, _, _, hq, rfl⟩, rfl⟩ := hv
  refine ⟨_, ⟨g, t, cs, fuel, p, q', h1, h2, h3, h4, hq, rfl⟩, List.Nodup.sublist (List.Sublist.append_left (List.sublist_append_right _ _) _) hnd, fun b off hm => hrows b off ((List.Sublist.append_left (List.sublist_append_right _ _) _).subset hm)⟩

theorem laid_pair {P : Program} {x : String × DataW Unit} {y : String × DataW Unit} {w : World} : ∀ {l : List (String × DataW Unit)}, laidMet P (x :: l) w → y ∈ l → ∃ r, laidMet P (x :: y :: r) w
  | [], _, hy => by cases hy
  | z :: l, h, hy => by
    rcases List.mem_cons.1 hy with rfl | hy
    · exact ⟨l, h⟩
    · exact laid_pair (laid_drop2 h) hy

theorem row27 (u : TypeId) (h : Tryd.prog.typeName? 3 u = some "*errors.errorString") : u = 158 :=
  typeName_ptr_named (nm := "errors.errorString") (by rw [show "*" ++ "errors.errorString" = "*errors.errorString" from by decide]; kernel_rfl) (by kernel_rfl) (by decide) u (by rw [show "*" ++ "errors.errorString" = "*errors.errorString" from by decide]; exact h)

/-- where a sentinel lies -/
noncomputable def posOf (W : World) (c : Nat) : Addr := match W.cell? ⟨gOf c, 0, none⟩ with
  | some (.iface _ (.pointer (some a))) => a
  | _ => ⟨0, 0, none⟩

theorem pair_of_laid {W : World} {x y : Place} {r : List (String × DataW Unit)} (h : laidMet Tryd.prog ((x.name, errD x.text) :: (y.name, errD y.text) :: r) W)
    (hx : Tryd.prog.globalNamed x.name = some (gOf x.code)) (hy : Tryd.prog.globalNamed y.name = some (gOf y.code))
    (tx : (Tryd.prog.globals[gOf x.code]?).map (·.type) = some 30) (ty : (Tryd.prog.globals[gOf y.code]?).map (·.type) = some 30) :
    (W.cell? ⟨gOf x.code, 0, none⟩ = some (.iface 158 (.pointer (some (posOf W x.code)))) ∧ ∃ cs t, W.heap[(posOf W x.code).block]? = some (.cells cs t (0, 0))) ∧
    (W.cell? ⟨gOf y.code, 0, none⟩ = some (.iface 158 (.pointer (some (posOf W y.code)))) ∧ ∃ cs t, W.heap[(posOf W y.code).block]? = some (.cells cs t (0, 0))) ∧ posOf W x.code ≠ posOf W y.code := by
  obtain ⟨a0, a1, s0, s1, c0, c1, t0, t1, v0, v1, _, _, _, _, _, _, hne, r0, r1⟩ := laid_sentinels2 h hx tx hy ty Tryd.underlying30 row27 Tryd.underlying158 Tryd.underlying175 rfl rfl Tryd.underlying9 (by kernel_rfl) (by kernel_rfl)
  have k0 : W.cell? ⟨gOf x.code, 0, none⟩ = some (.iface 158 (.pointer (some a0))) := by simpa using World.var?_cell hx v0 0
  have k1 : W.cell? ⟨gOf y.code, 0, none⟩ = some (.iface 158 (.pointer (some a1))) := by simpa using World.var?_cell hy v1 0
  have e0 : posOf W x.code = a0 := by unfold posOf; rw [k0]
  have e1 : posOf W y.code = a1 := by unfold posOf; rw [k1]
  rw [e0, e1]
  exact ⟨⟨k0, c0, t0, r0⟩, ⟨k1, c1, t1, r1⟩, hne⟩

/-- what holds of each pair of the list -/
def Two (W : World) (c d : Nat) : Prop :=
  (W.cell? ⟨gOf c, 0, none⟩ = some (.iface 158 (.pointer (some (posOf W c)))) ∧ ∃ cs t, W.heap[(posOf W c).block]? = some (.cells cs t (0, 0))) ∧
    (W.cell? ⟨gOf d, 0, none⟩ = some (.iface 158 (.pointer (some (posOf W d)))) ∧ ∃ cs t, W.heap[(posOf W d).block]? = some (.cells cs t (0, 0))) ∧ posOf W c ≠ posOf W d

theorem pairs_of_laid {W : World} : ∀ (l : List Place), (∀ x ∈ l, Tryd.prog.globalNamed x.name = some (gOf x.code) ∧ (Tryd.prog.globals[gOf x.code]?).map (·.type) = some 30) → laidMet Tryd.prog (laidOf l) W → (l.map (·.code)).Pairwise (Two W)
  | [], _, _ => List.Pairwise.nil
  | x :: l, hl, h => by
    refine List.Pairwise.cons ?_ (pairs_of_laid l (fun y hy => hl y (List.mem_cons_of_mem _ hy)) h.tail)
    intro d hd
    obtain ⟨y, hy, rfl⟩ := List.mem_map.1 hd
    obtain ⟨r, hr⟩ := laid_pair (y := (y.name, errD y.text)) h (List.mem_map.2 ⟨y, hy, rfl⟩)
    have h1 := hl x (List.mem_cons_self ..)
    have h2 := hl y (List.mem_cons_of_mem _ hy)
    exact pair_of_laid hr h1.1 h2.1 h1.2 h2.2

theorem Sents.of_pairs {W : World} {L : List Nat} (h2 : 2 ≤ L.length) (h : L.Pairwise (Two W)) : Sents L (posOf W) W := by
  have all : ∀ (L : List Nat), 2 ≤ L.length → L.Pairwise (Two W) → ∀ c ∈ L, W.cell? ⟨gOf c, 0, none⟩ = some (.iface 158 (.pointer (some (posOf W c)))) ∧ ∃ cs t, W.heap[(posOf W c).block]? = some (.cells cs t (0, 0)) := by
    intro L h2 h c hc
    match L, h2, h, hc with
    | x :: y :: r, _, .cons hx hr, hc =>
      rcases List.mem_cons.1 hc with rfl | hc
      · exact (hx y (List.mem_cons_self ..)).1
      · exact (hx c hc).2.1
  refine ⟨fun c hc => (all L h2 h c hc).1, fun c hc => (all L h2 h c hc).2, fun c hc d hd hne => ?_⟩
  have := List.Pairwise.forall_of_forall_of_flip (R := fun c d => c ≠ d → posOf W c ≠ posOf W d) (l := L) (fun x _ hx => absurd rfl hx) (h.imp fun k _ => k.2.2) (h.imp fun k _ e => k.2.2 e.symm)
  exact this hc hd hne

def all7 : List Place := [
  ⟨101, "skolem/api.ErrText", [110, 111, 116, 32, 97, 115, 32, 105, 116, 32, 105, 115, 32, 119, 114, 105, 116, 116, 101, 110]⟩, ⟨102, "skolem/api.ErrLimit", [109, 111, 114, 101, 32, 116, 104, 97, 110, 32, 109, 97, 121, 32, 98, 101]⟩, ⟨103, "skolem/api.ErrBudget", [116, 104, 101, 32, 98, 117, 100, 103, 101, 116, 32, 105, 115, 32, 117, 115, 101, 100, 32, 117, 112]⟩, ⟨104, "skolem/api.ErrRange", [97, 32, 110, 117, 109, 98, 101, 114, 32, 111, 117, 116, 32, 111, 102, 32, 105, 116, 115, 32, 114, 97, 110, 103, 101]⟩,
  ⟨105, "skolem/api.ErrBlocks", [109, 111, 114, 101, 32, 116, 104, 97, 110, 32, 116, 119, 111, 32, 98, 108, 111, 99, 107, 115]⟩, ⟨106, "skolem/api.ErrProof", [97, 32, 115, 116, 101, 112, 32, 116, 104, 97, 116, 32, 100, 111, 101, 115, 32, 110, 111, 116, 32, 102, 111, 108, 108, 111, 119]⟩, ⟨107, "skolem/api.ErrCert", [110, 111, 32, 99, 101, 114, 116, 105, 102, 105, 99, 97, 116, 101, 32, 111, 102, 32, 105, 116]⟩]
def all2 : List Place := [⟨102, "skolem/api.ErrLimit", [109, 111, 114, 101, 32, 116, 104, 97, 110, 32, 109, 97, 121, 32, 98, 101]⟩, ⟨104, "skolem/api.ErrRange", [97, 32, 110, 117, 109, 98, 101, 114, 32, 111, 117, 116, 32, 111, 102, 32, 105, 116, 115, 32, 114, 97, 110, 103, 101]⟩]

theorem sents7 {W : World} (h : laidMetH Tryd.prog Rows.graphPlaysRow.laid W) : Sents [101, 102, 103, 104, 105, 106, 107] (posOf W) W := by
  have h' : laidMet Tryd.prog (laidOf all7) W := h
  refine Sents.of_pairs (by decide) (pairs_of_laid all7 ?_ h')
  intro x hx
  simp only [all7, List.mem_cons, List.not_mem_nil, or_false] at hx
  rcases hx with rfl | rfl | rfl | rfl | rfl | rfl | rfl <;> exact ⟨by kernel_rfl, by kernel_rfl⟩
theorem sents2 {W : World} (h : laidMetH Tryd.prog Rows.graphFoldsRow.laid W) : Sents [102, 104] (posOf W) W := by
  have h' : laidMet Tryd.prog (laidOf all2) W := h
  refine Sents.of_pairs (by decide) (pairs_of_laid all2 ?_ h')
  intro x hx
  simp only [all2, List.mem_cons, List.not_mem_nil, or_false] at hx
  rcases hx with rfl | rfl <;> exact ⟨by kernel_rfl, by kernel_rfl⟩

end Go.Proofs.YtkjlgamggkencaaDoor
