/-
  A region that draws its order, whose operations make memory, but for some that store: each is shown once, whatever came up ahead of it. No program in sight.
-/
import Derived.Test.YtphhdmopfmelbaaGrow
namespace Go.Proofs.Ytphhdmopfmelbaa
open Go.RowKit Go.Proofs.YtphhdmopfmelbaaW.PrintWords Go.Proofs.YtphhdmopfmelbaaW.PrintLast
set_option linter.unusedVariables false
set_option linter.unusedSimpArgs false

section
variable {P : Program} {ops : Array Oper} {Q : Exit → Act → World → Prop} {md : Region.Mode} {T : Bool × List (List Nat × List Nat)}
structure FlowI (a0 : Act) (w0 : World) (D : List (Nat × Tmp)) (E : List Nat) (Pr : Nat → (Nat → Bool) → (Nat → Value) → World → Prop) (b : Nat → Bool) (a : Act) (w : World) (V : Nat → Value) : Prop where
  frame : a = putSel a0 b (vrows D V)
  below : Below w0.heap.size w0 w
  pr : ∀ i ∈ D.map (·.1) ++ E, b i = true → Pr i b V w
/-- An operation with a value. -/
def FlowStep (P : Program) (ops : Array Oper) (Q : Exit → Act → World → Prop) (a0 : Act) (w0 : World) (B : List Nat) (D : List (Nat × Tmp)) (E : List Nat) (Pr : Nat → (Nat → Bool) → (Nat → Value) → World → Prop) (e : Nat × Tmp) : Prop :=
  ∀ b V a w, (∀ s ∈ E, (B.getD s 0).testBit e.1 = true → b s = false) → (∀ e' ∈ D, (B.getD e.1 0).testBit e'.1 = true → a.tmps[e'.2]? = some (V e'.1) ∧ Pr e'.1 b V w) → (∀ s, (∀ e' ∈ D, e'.2 ≠ s) → a.tmps[s]? = a0.tmps[s]?) → Below w0.heap.size w0 w →
    ∃ oi, ops[e.1]? = some oi ∧ oi.dst = some e.2 ∧ ∀ K : Act → World → Prop,
      Shut (∀ v w', Below w.heap.size w w' → Pr e.1 b (setV V e.1 v) w' → K (a.put (some e.2) v) w') →
      if Region.wanted oi (yielded ops a.tmps) = true then Oper.wp P oi a w K Q else K (a.put oi.dst undef) w
/-- A store. -/
def FlowStore (P : Program) (ops : Array Oper) (Q : Exit → Act → World → Prop) (a0 : Act) (w0 : World) (B : List Nat) (D : List (Nat × Tmp)) (E : List Nat) (Pr : Nat → (Nat → Bool) → (Nat → Value) → World → Prop) (s : Nat) : Prop :=
  ∀ b V a w, b s = false → (∀ e' ∈ D, (B.getD s 0).testBit e'.1 = true → a.tmps[e'.2]? = some (V e'.1) ∧ Pr e'.1 b V w) → (∀ t, (∀ e' ∈ D, e'.2 ≠ t) → a.tmps[t]? = a0.tmps[t]?) → Below w0.heap.size w0 w →
    ∃ oi, ops[s]? = some oi ∧ oi.dst = none ∧ ∀ K : Act → World → Prop,
      Shut (∀ w', Below w0.heap.size w0 w' → Pr s (up b s) V w' → (∀ i ∈ D.map (·.1) ++ E, i ≠ s → b i = true → Pr i b V w → Pr i (up b s) V w') → K a w') →
      if Region.wanted oi (yielded ops a.tmps) = true then Oper.wp P oi a w K Q else K (a.put oi.dst undef) w

theorem flow_region {l : Array Bool} {fuel : Nat} {a0 : Act} {w0 : World} {B : List Nat} (D : List (Nat × Tmp)) (E : List Nat) (Pr : Nat → (Nat → Bool) → (Nat → Value) → World → Prop) (hT : rtab md ops = T) (hB : bitsOf T.2 = B) (hw : waitsOk T.2 B = true) (hk : baseOk T.2 (D.map (·.1) ++ E) = true)
    (hl : (lof T.2.length (D.map (·.1) ++ E) (fun _ => false) == l.toList && (D.map (·.1) ++ E).length == fuel) = true)
    (hD2 : decide (D.map (·.2)).Nodup = true) (hsz : (D.all fun e => decide (e.2 < a0.tmps.size)) = true)
    (dep : ∀ i ∈ D.map (·.1) ++ E, ∀ b b' V V' w, (∀ s ∈ E, b s = b' s) → (∀ j, (j = i ∨ (B.getD i 0).testBit j = true) → V j = V' j) → Pr i b V w → Pr i b' V' w) (stab : ∀ i ∈ D.map (·.1) ++ E, ∀ b V w w', Pr i b V w → Below w.heap.size w w' → Pr i b V w')
    (hs : ∀ e ∈ D, FlowStep P ops Q a0 w0 B D E Pr e) (hE : ∀ s ∈ E, FlowStore P ops Q a0 w0 B D E Pr s)
    (hfin : ∀ b V a w, (∀ i ∈ D.map (·.1) ++ E, b i = true) → a = putSel a0 (fun _ => true) (vrows D V) → Below w0.heap.size w0 w → (∀ i ∈ D.map (·.1) ++ E, Pr i b V w) → Q .normal a w) :
    wpAnyLast P md ops Q (fun _ => True) [] fuel l a0 w0 := by
  have hnd := baseOk_nodup hk
  rw [List.nodup_append] at hnd
  have hD := hnd.1
  have hne : ∀ e ∈ D, ∀ s ∈ E, e.1 ≠ s := fun e he s hs h => hnd.2.2 e.1 (List.mem_map.2 ⟨e, he, rfl⟩) s hs h
  have hD2' := of_decide_eq_true hD2
  have hsz' : ∀ e ∈ D, e.2 < a0.tmps.size := fun e he => by simpa using List.all_eq_true.1 hsz e he
  have hO : ∀ i ∈ D.map (·.1) ++ E, (D.map (·.1) ++ E).contains i = true := fun i hi => List.contains_iff_mem.2 hi
  have hmD : ∀ e ∈ D, e.1 ∈ D.map (·.1) ++ E := fun e he => List.mem_append_left _ (List.mem_map.2 ⟨e, he, rfl⟩)
  have hmE : ∀ s ∈ E, s ∈ D.map (·.1) ++ E := fun s hs => List.mem_append_right _ hs
  refine inv_ (B := B) (D.map (·.1) ++ E) (fun b a w => ∃ V, FlowI a0 w0 D E Pr b a w V) hT hw hk hl ?_ ?_ ?_
  · refine ⟨fun _ => undef, ?_, Below.refl _ _, fun _ _ h => absurd h (by simp)⟩
    have : ∀ (L : List (Nat × Tmp × Value)) (a : Act), putSel a (fun _ => false) L = a := fun L => by
      induction L with
      | nil => intro a; rfl
      | cons x L ih => intro a; simp [putSel, ih]
    rw [this]
  · rintro i hi b a w ⟨V, h⟩ hb hon hoff
    have hdeps : ∀ e' ∈ D, (B.getD i 0).testBit e'.1 = true → a.tmps[e'.2]? = some (V e'.1) ∧ Pr e'.1 b V w := fun e' he' hbit => by
      have hb' := hon e'.1 (by rw [hO _ (hmD e' he'), hbit]; rfl)
      exact ⟨by rw [h.frame]; exact putSel_at hD2' he' hb' (hsz' e' he'), h.pr e'.1 (hmD e' he') hb'⟩
    have hout : ∀ s, (∀ e' ∈ D, e'.2 ≠ s) → a.tmps[s]? = a0.tmps[s]? := fun s hs => by rw [h.frame]; exact putSel_out hs
    have hoff' : ∀ j ∈ D.map (·.1) ++ E, b j = true → (B.getD j 0).testBit i = false := fun j hj hbj => by
      cases hbit : (B.getD j 0).testBit i with
      | false => rfl
      | true =>
        have := hoff j (by rw [hO j hj, hbit]; rfl)
        rw [hbj] at this; cases this
    rcases List.mem_append.1 hi with hi | hi
    · obtain ⟨e, he, rfl⟩ := List.mem_map.1 hi
      obtain ⟨oi, h1, h2, h3⟩ := hs e he b V a w (fun s hsE hbit => hoff s (by rw [hO s (hmE s hsE), hbit]; rfl)) hdeps hout h.below
      refine ⟨oi, h1, fun K hK => h3 K fun v w' hbl hpr => hK _ _ ⟨setV V e.1 v, ?_, h.below.trans (hbl.mono h.below.size), fun j hj hu => ?_⟩⟩
      · rw [h.frame]
        obtain ⟨k, hk⟩ := List.getElem?_of_mem he
        refine putSel_upk (v0 := V e.1) k hb (by simp [vrows, hk]) (vrows_set hD V hk v) ?_
        rw [List.all_eq_true]
        intro x hx
        have key : ∀ j, j ≠ k → ∀ y, D[j]? = some y → (!(y.1 == e.1) && !(y.2 == e.2)) = true := fun j hj y hy => by
          simp only [Bool.and_eq_true, Bool.not_eq_true', beq_eq_false_iff_ne]
          constructor
          · intro hh
            have g1 : (D.map (·.1))[k]? = some e.1 := by simp [hk]
            have g2 : (D.map (·.1))[j]? = some e.1 := by simp [hy, hh]
            obtain ⟨l1, e1⟩ := List.getElem?_eq_some_iff.1 g1
            obtain ⟨l2, e2⟩ := List.getElem?_eq_some_iff.1 g2
            exact hj ((List.getElem_inj hD).1 (e1.trans e2.symm)).symm
          · intro hh
            have g1 : (D.map (·.2))[k]? = some e.2 := by simp [hk]
            have g2 : (D.map (·.2))[j]? = some e.2 := by simp [hy, hh]
            obtain ⟨l1, e1⟩ := List.getElem?_eq_some_iff.1 g1
            obtain ⟨l2, e2⟩ := List.getElem?_eq_some_iff.1 g2
            exact hj ((List.getElem_inj hD2').1 (e1.trans e2.symm)).symm
        rcases List.mem_append.1 hx with hx | hx
        · obtain ⟨j, hj⟩ := List.getElem?_of_mem hx
          rw [List.getElem?_take] at hj
          split at hj
          · simp only [vrows, List.getElem?_map] at hj
            obtain ⟨y, hy, rfl⟩ := Option.map_eq_some_iff.1 hj
            exact key j (by omega) y hy
          · cases hj
        · obtain ⟨j, hj⟩ := List.getElem?_of_mem hx
          rw [List.getElem?_drop] at hj
          simp only [vrows, List.getElem?_map] at hj
          obtain ⟨y, hy, rfl⟩ := Option.map_eq_some_iff.1 hj
          exact key _ (by omega) y hy
      · have hbE : ∀ s ∈ E, b s = up b e.1 s := fun s hs => (up_ne (hne e he s hs).symm).symm
        by_cases hje : j = e.1
        · rw [hje]
          exact dep e.1 (hmD e he) b _ _ _ w' hbE (fun _ _ => rfl) hpr
        · have hbj : b j = true := by rwa [up_ne hje] at hu
          refine dep j hj b _ V _ w' hbE (fun q hq => (setV_ne V v (fun hqe => ?_)).symm) (stab j hj b V w w' (h.pr j hj hbj) hbl)
          rcases hq with hq | hq
          · exact hje (hq.symm.trans hqe)
          · rw [hqe, hoff' j hj hbj] at hq; cases hq
    · obtain ⟨oi, h1, h2, h3⟩ := hE i hi b V a w hb hdeps hout h.below
      refine ⟨oi, h1, fun K hK => h3 K fun w' hbl hpr hrest => hK _ _ ⟨V, ?_, hbl, fun j hj hu => ?_⟩⟩
      · rw [h.frame]
        refine (putSel_same ?_).symm
        rw [List.all_eq_true]
        intro x hx
        obtain ⟨e, he, rfl⟩ := List.mem_map.1 hx
        simpa using hne e he i hi
      · by_cases hji : j = i
        · rw [hji]; exact hpr
        · have hbj : b j = true := by rwa [up_ne hji] at hu
          exact hrest j hj hji hbj (h.pr j hj hbj)
  · rintro b a w hall ⟨V, h⟩
    have hb : ∀ i ∈ D.map (·.1) ++ E, b i = true := fun i hi => hall i (hO i hi)
    refine hfin b V a w hb ?_ h.below (fun i hi => h.pr i hi (hb i hi))
    rw [h.frame]
    have : ∀ (L : List (Nat × Tmp × Value)) (a : Act), (∀ x ∈ L, b x.1 = true) → putSel a b L = putSel a (fun _ => true) L := fun L => by
      induction L with
      | nil => intro a _; rfl
      | cons x L ih =>
        intro a hx
        simp only [putSel, hx x (by simp), if_true]
        exact ih _ (fun y hy => hx y (by simp [hy]))
    refine this _ _ (fun x hx => ?_)
    obtain ⟨e, he, rfl⟩ := List.mem_map.1 hx
    exact hb _ (hmD e he)
end
end Go.Proofs.Ytphhdmopfmelbaa
