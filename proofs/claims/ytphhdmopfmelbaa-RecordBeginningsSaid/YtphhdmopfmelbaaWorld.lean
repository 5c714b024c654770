/-
  A world as plain data: what it is as a value, how it reads. No walk.
-/
import Derived.Test.YtphhdmopfmelbaaMade
namespace Go.Proofs.Ytphhdmopfmelbaa
open Go.RowKit Go.Proofs.YtphhdmopfmelbaaW.PrintWords
set_option linter.unusedVariables false
set_option linter.unusedSimpArgs false

/-- A world as lists. -/
structure WD where
  fields : List (List Int)
  infos : List Int
  marks : List Bool
  states : List Int
  frozen : List Bool
/-- Its five slices. -/
structure WV where
  A0 : Option Addr
  c0 : Nat
  A1 : Option Addr
  c1 : Nat
  A2 : Option Addr
  c2 : Nat
  A3 : Option Addr
  c3 : Nat
  A4 : Option Addr
  c4 : Nat
abbrev WV.cells (v : WV) (d : WD) : List Value := [.slice v.A0 d.fields.length v.c0, .slice v.A1 d.infos.length v.c1, .slice v.A2 d.marks.length v.c2, .slice v.A3 d.states.length v.c3, .slice v.A4 d.frozen.length v.c4]
abbrev WV.val (v : WV) (d : WD) : Value := .agg #[.slice v.A0 d.fields.length v.c0, .slice v.A1 d.infos.length v.c1, .slice v.A2 d.marks.length v.c2, .slice v.A3 d.states.length v.c3, .slice v.A4 d.frozen.length v.c4]
abbrev KInt := Kd.int .i64
abbrev KRow := Kd.slice 3 (Kd.int .i64)
structure WV.Reads (w : World) (v : WV) (d : WD) : Prop where
  h0 : KRow.C w v.A0 d.fields.length d.fields
  k0 : d.fields.length ≤ v.c0
  h1 : KInt.C w v.A1 d.infos.length d.infos
  k1 : d.infos.length ≤ v.c1
  h2 : Kd.bool.C w v.A2 d.marks.length d.marks
  k2 : d.marks.length ≤ v.c2
  h3 : KInt.C w v.A3 d.states.length d.states
  k3 : d.states.length ≤ v.c3
  h4 : Kd.bool.C w v.A4 d.frozen.length d.frozen
  k4 : d.frozen.length ≤ v.c4
theorem WV.Reads.below {w w' : World} {v : WV} {d : WD} (h : v.Reads w d) (hb : Below w.heap.size w w') : v.Reads w' d :=
  ⟨Kd.C_below h.h0 hb, h.k0, Kd.C_below h.h1 hb, h.k1, Kd.C_below h.h2 hb, h.k2, Kd.C_below h.h3 hb, h.k3, Kd.C_below h.h4 hb, h.k4⟩

/-- Rows of one-cell elements as my own word has it. -/
theorem row1_of_C {α : Type} {enc : α → Value} {h1 : ∀ x, (enc x).oneCell' = true} {w : World} {A : Option Addr} {n : Nat} {xs : List α} (h : (Kd.scalar enc h1).C w A n xs) : Row1 w A n (xs.map enc) := by
  refine ⟨by simpa using h.1, fun hn => ?_⟩
  obtain ⟨ad, e, hc⟩ := h.2.2 hn
  refine ⟨ad, e, fun j u hu => ?_⟩
  rw [List.getElem?_map] at hu
  obtain ⟨x, hx, rfl⟩ := Option.map_eq_some_iff.1 hu
  obtain ⟨c, _, hK, hcell⟩ := hc j x hx
  have hK' : c = [enc x] := hK
  subst hK'
  simpa [Kd.scalar] using hcell 0 _ rfl
theorem int_at {w : World} {A : Option Addr} {n : Nat} {xs : List Int} (h : KInt.C w A n xs) {j : Nat} (hj : j < xs.length) : ∃ ad, A = some ad ∧ w.cell? (ad.add j) = some (.int .i64 xs[j]) :=
  (row1_of_C h).at_ (by simp [List.getElem?_eq_getElem hj])
theorem bool_at {w : World} {A : Option Addr} {n : Nat} {xs : List Bool} (h : Kd.bool.C w A n xs) {j : Nat} (hj : j < xs.length) : ∃ ad, A = some ad ∧ w.cell? (ad.add j) = some (.bool xs[j]) :=
  (row1_of_C h).at_ (by simp [List.getElem?_eq_getElem hj])
theorem row_at {w : World} {A : Option Addr} {n : Nat} {xs : List (List Int)} (h : KRow.C w A n xs) {j : Nat} (hj : j < xs.length) :
    ∃ ad, A = some ad ∧ ∃ A' c', w.cell? (ad.add j) = some (.slice A' xs[j].length c') ∧ xs[j].length ≤ c' ∧ KInt.C w A' xs[j].length xs[j] := by
  obtain ⟨ad, e, hc⟩ := h.2.2 (by have := h.1; omega)
  obtain ⟨c, _, ⟨A', c', hK, hl, hr⟩, hcell⟩ := hc j _ (List.getElem?_eq_getElem hj)
  subst hK
  refine ⟨ad, e, A', c', ?_, hl, hr⟩
  simpa [Kd.slice] using hcell 0 _ rfl
end Go.Proofs.Ytphhdmopfmelbaa
