/-
  A region that draws its order, of which all operations but a last one make memory alone: each is shown once. No program in sight.
-/
import Derived.Test.YtphhdmopfmelbaaBase
import Derived.Test.YtphhdmopfmelbaaWInvWords
import Derived.Lib.Hide
import Derived.ArgAppend
import Derived.Deep.Upon
namespace Go.Proofs.Ytphhdmopfmelbaa
open Go.RowKit Go.Proofs.YtphhdmopfmelbaaW.PrintWords Go.Proofs.YtphhdmopfmelbaaW.PrintLast
set_option linter.unusedVariables false
set_option linter.unusedSimpArgs false

/-- All that each operation waits for, as bits. -/
def bitsOf (T : List (List Nat × List Nat)) : List Nat := T.foldl (fun acc r => acc ++ [r.1.foldl (fun m n => m ||| (1 <<< n) ||| acc.getD n 0) 0]) []
def setV (V : Nat → Value) (i : Nat) (v : Value) : Nat → Value := fun j => if j = i then v else V j
theorem setV_self (V : Nat → Value) (i : Nat) (v : Value) : setV V i v i = v := by simp [setV]
theorem setV_ne (V : Nat → Value) {i j : Nat} (v : Value) (h : j ≠ i) : setV V i v j = V j := by simp [setV, h]
/-- The growing operations with where their values go. -/
def vrows (D : List (Nat × Tmp)) (V : Nat → Value) : List (Nat × Tmp × Value) := D.map fun e => (e.1, e.2, V e.1)
theorem vrows_set {D : List (Nat × Tmp)} (hD : (D.map (·.1)).Nodup) (V : Nat → Value) {k i : Nat} {t : Tmp} (hk : D[k]? = some (i, t)) (v : Value) : (vrows D V).set k (i, t, v) = vrows D (setV V i v) := by
  apply List.ext_getElem?
  intro j
  by_cases hj : j = k
  · subst hj
    have hl := (List.getElem?_eq_some_iff.1 hk).1
    rw [List.getElem?_set_self (by simpa [vrows] using hl)]
    simp [vrows, hk, setV_self]
  · rw [List.getElem?_set_ne (Ne.symm hj)]
    simp only [vrows, List.getElem?_map]
    cases he : D[j]? with
    | none => rfl
    | some e =>
      have : e.1 ≠ i := fun h => hj (by
        have h1 : (D.map (·.1))[j]? = some i := by simp [he, h]
        have h2 : (D.map (·.1))[k]? = some i := by simp [hk]
        obtain ⟨l1, e1⟩ := List.getElem?_eq_some_iff.1 h1
        obtain ⟨l2, e2⟩ := List.getElem?_eq_some_iff.1 h2
        exact (List.getElem_inj hD).1 (e1.trans e2.symm))
      simp [setV_ne _ _ this]

/-- The block of what an owner holds. -/
def ob (ow : Nat → Bool) (V : Nat → Value) (i : Nat) : Option Nat := if ow i = true then (V i).ownBlock else none
section
variable {P : Program} {ops : Array Oper} {Q : Exit → Act → World → Prop} {md : Region.Mode} {T : Bool × List (List Nat × List Nat)} {ow : Nat → Bool}
/-- What holds while they grow. -/
structure GrowI (ow : Nat → Bool) (a0 : Act) (w0 : World) (B : List Nat) (D : List (Nat × Tmp)) (ch : Nat → Nat) (Pr : Nat → (Nat → Value) → World → Prop) (b : Nat → Bool) (a : Act) (w : World) (V : Nat → Value) : Prop where
  frame : a = putSel a0 b (vrows D V)
  below : Below w0.heap.size w0 w
  pr : ∀ e ∈ D, b e.1 = true → Pr e.1 V w
  lt : ∀ e ∈ D, b e.1 = true → ∀ k, ob ow V e.1 = some k → w0.heap.size ≤ k ∧ k < w.heap.size
  apart : ∀ e ∈ D, ∀ e' ∈ D, b e.1 = true → b e'.1 = true → ch e.1 ≠ ch e'.1 → ∀ k, ob ow V e.1 = some k → ob ow V e'.1 ≠ some k
/-- One operation's step. -/
def GrowStep (ow : Nat → Bool) (P : Program) (ops : Array Oper) (Q : Exit → Act → World → Prop) (a0 : Act) (w0 : World) (B : List Nat) (D : List (Nat × Tmp)) (ch : Nat → Nat) (Pr : Nat → (Nat → Value) → World → Prop) (e : Nat × Tmp) : Prop :=
  ∀ V a w, (∀ e' ∈ D, (B.getD e.1 0).testBit e'.1 = true → a.tmps[e'.2]? = some (V e'.1) ∧ Pr e'.1 V w ∧ ∀ k, ob ow V e'.1 = some k → w0.heap.size ≤ k ∧ k < w.heap.size) → (∀ s, (∀ e' ∈ D, e'.2 ≠ s) → a.tmps[s]? = a0.tmps[s]?) → Below w0.heap.size w0 w →
    ∃ oi, ops[e.1]? = some oi ∧ oi.dst = some e.2 ∧ ∀ K : Act → World → Prop,
      Shut (∀ v w', Below w.heap.size w w' → Pr e.1 (setV V e.1 v) w' → (ow e.1 = true → ∀ k, v.ownBlock = some k → k < w'.heap.size ∧ (w.heap.size ≤ k ∨ ∃ e' ∈ D, (B.getD e.1 0).testBit e'.1 = true ∧ ch e'.1 = ch e.1 ∧ ob ow V e'.1 = some k)) → K (a.put (some e.2) v) w') →
      if Region.wanted oi (yielded ops a.tmps) = true then Oper.wp P oi a w K Q else K (a.put oi.dst undef) w

theorem putSel_at {b : Nat → Bool} {D : List (Nat × Tmp)} (hD2 : (D.map (·.2)).Nodup) {V : Nat → Value} {a0 : Act} {i : Nat} {t : Tmp} (he : (i, t) ∈ D) (hb : b i = true) (ht : t < a0.tmps.size) : (putSel a0 b (vrows D V)).tmps[t]? = some (V i) := by
  obtain ⟨k, hk⟩ := List.getElem?_of_mem he
  refine putSel_on (e := (i, t, V i)) k (by simp [vrows, hk]) ?_ hb (by rw [Nat.ble_eq]; exact ht)
  rw [List.all_eq_true]
  intro x hx
  obtain ⟨j, hj⟩ := List.getElem?_of_mem hx
  rw [List.getElem?_drop] at hj
  simp only [vrows, List.getElem?_map] at hj
  obtain ⟨y, hy, rfl⟩ := Option.map_eq_some_iff.1 hj
  simp only [Bool.not_eq_true', beq_eq_false_iff_ne]
  intro h
  have h1 : (D.map (·.2))[k + 1 + j]? = some t := by simp [hy, h]
  have h2 : (D.map (·.2))[k]? = some t := by simp [hk]
  obtain ⟨l1, e1⟩ := List.getElem?_eq_some_iff.1 h1
  obtain ⟨l2, e2⟩ := List.getElem?_eq_some_iff.1 h2
  have := (List.getElem_inj hD2).1 (e1.trans e2.symm)
  omega
theorem putSel_out {b : Nat → Bool} {D : List (Nat × Tmp)} {V : Nat → Value} {a0 : Act} {s : Tmp} (h : ∀ e ∈ D, e.2 ≠ s) : (putSel a0 b (vrows D V)).tmps[s]? = a0.tmps[s]? := by
  refine putSel_off ?_
  rw [List.all_eq_true]
  intro x hx
  obtain ⟨e, he, rfl⟩ := List.mem_map.1 hx
  simpa using h e he
theorem grow_step {a0 : Act} {w0 : World} {B : List Nat} {D : List (Nat × Tmp)} {ch : Nat → Nat} {Pr : Nat → (Nat → Value) → World → Prop} {b : Nat → Bool} {a : Act} {w : World} {V : Nat → Value}
    (hD : (D.map (·.1)).Nodup) (hD2 : (D.map (·.2)).Nodup) (hsz : ∀ e ∈ D, e.2 < a0.tmps.size)
    (dep : ∀ e ∈ D, ∀ V V' w, (∀ j, (j = e.1 ∨ (B.getD e.1 0).testBit j = true) → V j = V' j) → Pr e.1 V w → Pr e.1 V' w) (stab : ∀ e ∈ D, ∀ V w w', Pr e.1 V w → Below w.heap.size w w' → Pr e.1 V w')
    {e : Nat × Tmp} (he : e ∈ D) (hs : GrowStep ow P ops Q a0 w0 B D ch Pr e) (h : GrowI ow a0 w0 B D ch Pr b a w V) (hb : b e.1 = false)
    (hon : ∀ e' ∈ D, (B.getD e.1 0).testBit e'.1 = true → b e'.1 = true) (hoff : ∀ e' ∈ D, (B.getD e'.1 0).testBit e.1 = true → b e'.1 = false) :
    ∃ oi, ops[e.1]? = some oi ∧ ∀ K : Act → World → Prop, Shut (∀ a' w', (∃ V', GrowI ow a0 w0 B D ch Pr (up b e.1) a' w' V') → K a' w') → if Region.wanted oi (yielded ops a.tmps) = true then Oper.wp P oi a w K Q else K (a.put oi.dst undef) w := by
  obtain ⟨oi, h1, h2, h3⟩ := hs V a w (fun e' he' hbit => by
      have hb' := hon e' he' hbit
      exact ⟨by rw [h.frame]; exact putSel_at hD2 he' hb' (hsz e' he'), h.pr e' he' hb', h.lt e' he' hb'⟩) (fun s hs => by rw [h.frame]; exact putSel_out hs) h.below
  refine ⟨oi, h1, fun K hK => h3 K fun v w' hbl hpr hown => hK _ _ ⟨setV V e.1 v, ?_⟩⟩
  have hw0 : w0.heap.size ≤ w.heap.size := h.below.size
  have hne : ∀ e' ∈ D, b e'.1 = true → e'.1 ≠ e.1 := fun e' _ hb' h => by rw [h, hb] at hb'; cases hb'
  have hup : ∀ e' ∈ D, up b e.1 e'.1 = true → e' = e ∨ (e'.1 ≠ e.1 ∧ b e'.1 = true) := fun e' he' hu => by
    by_cases hh : e'.1 = e.1
    · left
      obtain ⟨k, hk⟩ := List.getElem?_of_mem he
      obtain ⟨k', hk'⟩ := List.getElem?_of_mem he'
      have g1 : (D.map (·.1))[k]? = some e.1 := by simp [hk]
      have g2 : (D.map (·.1))[k']? = some e.1 := by simp [hk', hh]
      obtain ⟨l1, e1⟩ := List.getElem?_eq_some_iff.1 g1
      obtain ⟨l2, e2⟩ := List.getElem?_eq_some_iff.1 g2
      have := (List.getElem_inj hD).1 (e1.trans e2.symm)
      subst this
      rw [hk] at hk'
      exact (Option.some.inj hk').symm
    · exact .inr ⟨hh, by rwa [up_ne hh] at hu⟩
  have hself : ∀ k, ob ow (setV V e.1 v) e.1 = some k → ow e.1 = true ∧ v.ownBlock = some k := fun k hk => by
    unfold ob at hk
    rw [setV_self] at hk
    split at hk
    · exact ⟨‹_›, hk⟩
    · cases hk
  have hother : ∀ j, j ≠ e.1 → ob ow (setV V e.1 v) j = ob ow V j := fun j hj => by unfold ob; rw [setV_ne V v hj]
  have hownlt : ow e.1 = true → ∀ k, v.ownBlock = some k → w0.heap.size ≤ k ∧ k < w'.heap.size := fun ho k hk => by
    obtain ⟨hlt, hx⟩ := hown ho k hk
    refine ⟨?_, hlt⟩
    rcases hx with hx | ⟨e', he', hbit, _, hk'⟩
    · omega
    · exact (h.lt e' he' (hon e' he' hbit) k hk').1
  have hap : ow e.1 = true → ∀ e' ∈ D, b e'.1 = true → ch e.1 ≠ ch e'.1 → ∀ k, v.ownBlock = some k → ob ow V e'.1 ≠ some k := fun ho e' he' hb' hch k hk hk' => by
    rcases (hown ho k hk).2 with hx | ⟨e2, he2, hbit, hc2, hk2⟩
    · have := (h.lt e' he' hb' k hk').2; omega
    · exact h.apart e2 he2 e' he' (hon e2 he2 hbit) hb' (by rw [hc2]; exact hch) k hk2 hk'
  refine ⟨?_, h.below.trans (hbl.mono hw0), fun e' he' hu => ?_, fun e' he' hu k hk => ?_, fun e' he' e2 he2 hu hu2 hch k hk => ?_⟩
  · rw [h.frame]
    obtain ⟨k, hk⟩ := List.getElem?_of_mem he
    refine putSel_upk (v0 := V e.1) k hb (by simp [vrows, hk]) (vrows_set hD V hk v) ?_
    rw [List.all_eq_true]
    intro x hx
    have key : ∀ j, j ≠ k → ∀ y, D[j]? = some y → (!(y.1 == e.1) && !(y.2 == e.2)) = true := fun j hj y hy => by
      simp only [Bool.and_eq_true, Bool.not_eq_true', beq_eq_false_iff_ne]
      constructor
      · intro hh
        have g1 : (D.map (·.1))[k]? = some e.1 := by simp [hk]
        have g2 : (D.map (·.1))[j]? = some e.1 := by simp [hy, hh]
        obtain ⟨l1, e1⟩ := List.getElem?_eq_some_iff.1 g1
        obtain ⟨l2, e2⟩ := List.getElem?_eq_some_iff.1 g2
        exact hj ((List.getElem_inj hD).1 (e1.trans e2.symm)).symm
      · intro hh
        have g1 : (D.map (·.2))[k]? = some e.2 := by simp [hk]
        have g2 : (D.map (·.2))[j]? = some e.2 := by simp [hy, hh]
        obtain ⟨l1, e1⟩ := List.getElem?_eq_some_iff.1 g1
        obtain ⟨l2, e2⟩ := List.getElem?_eq_some_iff.1 g2
        exact hj ((List.getElem_inj hD2).1 (e1.trans e2.symm)).symm
    rcases List.mem_append.1 hx with hx | hx
    · obtain ⟨j, hj⟩ := List.getElem?_of_mem hx
      rw [List.getElem?_take] at hj
      split at hj
      · simp only [vrows, List.getElem?_map] at hj
        obtain ⟨y, hy, rfl⟩ := Option.map_eq_some_iff.1 hj
        exact key j (by omega) y hy
      · cases hj
    · obtain ⟨j, hj⟩ := List.getElem?_of_mem hx
      rw [List.getElem?_drop] at hj
      simp only [vrows, List.getElem?_map] at hj
      obtain ⟨y, hy, rfl⟩ := Option.map_eq_some_iff.1 hj
      exact key _ (by omega) y hy
  · rcases hup e' he' hu with rfl | ⟨hh, hb'⟩
    · exact hpr
    · refine dep e' he' V _ w' (fun j hj => (setV_ne V v (fun hji => ?_)).symm) (stab e' he' V w w' (h.pr e' he' hb') hbl)
      rcases hj with hj | hj
      · exact hh (hj.symm.trans hji)
      · rw [hji] at hj
        have := hoff e' he' hj
        rw [hb'] at this; cases this
  · rcases hup e' he' hu with rfl | ⟨hh, hb'⟩
    · exact hownlt (hself k hk).1 k (hself k hk).2
    · rw [hother _ hh] at hk
      have := h.lt e' he' hb' k hk
      have := hbl.size
      omega
  · rcases hup e' he' hu with rfl | ⟨hh, hb'⟩
    · rcases hup e2 he2 hu2 with rfl | ⟨hh2, hb2⟩
      · exact absurd rfl hch
      · rw [hother _ hh2]
        exact hap (hself k hk).1 e2 he2 hb2 hch k (hself k hk).2
    · rw [hother _ hh] at hk
      rcases hup e2 he2 hu2 with rfl | ⟨hh2, hb2⟩
      · intro hk2
        exact hap (hself k hk2).1 e' he' hb' (Ne.symm hch) k (hself k hk2).2 hk
      · rw [hother _ hh2]
        exact h.apart e' he' e2 he2 hb' hb2 hch k hk

/-- The operations behind them, one behind the other. -/
def seqWp (P : Program) (ops : Array Oper) (Q : Exit → Act → World → Prop) : List Nat → Act → World → Prop
  | [], a, w => Q .normal a w
  | i :: r, a, w => ∃ oi, ops[i]? = some oi ∧ if Region.wanted oi (yielded ops a.tmps) = true then Oper.wp P oi a w (seqWp P ops Q r) Q else seqWp P ops Q r (a.put oi.dst undef) w
theorem seq_value {i : Nat} {r : List Nat} {oi : Oper} {N : Tmp} {a : Act} {w w1 : World} (v : Value) (ho : ops[i]? = some oi) (hg : oi.guard = none) (hN : oi.dst = some N) (hrun : (execOp a.eval oi).run P w = .ok (.value v) w1)
    (h : seqWp P ops Q r (a.put (some N) v) w1) : seqWp P ops Q (i :: r) a w := by
  refine ⟨oi, ho, ?_⟩
  rw [if_pos (by simp [Region.wanted, hg])]
  unfold Oper.wp
  rw [hrun]
  show seqWp P ops Q r (a.put oi.dst v) w1
  rw [hN]
  exact h
theorem seq_skip {i : Nat} {r : List Nat} {oi : Oper} {a : Act} {w w1 : World} (ho : ops[i]? = some oi) (hg : oi.guard = none) (hN : oi.dst = none) (hrun : (execOp a.eval oi).run P w = .ok .skip w1)
    (h : seqWp P ops Q r a w1) : seqWp P ops Q (i :: r) a w := by
  refine ⟨oi, ho, ?_⟩
  rw [if_pos (by simp [Region.wanted, hg])]
  unfold Oper.wp
  rw [hrun]
  show seqWp P ops Q r (a.put oi.dst undef) w1
  rw [hN]
  exact h
theorem seq_nil {a : Act} {w : World} (h : wpList P #[] Q [] a w) : seqWp P ops Q [] a w := h
/-- Each waits for those ahead of it. -/
def pairB (B : List Nat) : List Nat → Bool
  | [] => true
  | i :: r => (r.all fun j => (B.getD j 0).testBit i) && pairB B r
theorem pairB_mem {B : List Nat} : ∀ {l pre rest : List Nat} {i j : Nat}, pairB B l = true → l = pre ++ i :: rest → j ∈ rest → (B.getD j 0).testBit i = true
  | [], pre, rest, i, j, _, h, _ => by simp at h
  | x :: l, [], rest, i, j, hp, h, hj => by
    simp only [List.nil_append, List.cons.injEq] at h
    obtain ⟨rfl, rfl⟩ := h
    simp only [pairB, Bool.and_eq_true, List.all_eq_true] at hp
    exact hp.1 j hj
  | x :: l, y :: pre, rest, i, j, hp, h, hj => by
    simp only [List.cons_append, List.cons.injEq] at h
    simp only [pairB, Bool.and_eq_true] at hp
    exact pairB_mem hp.2 h.2 hj
/-- The whole: D's operations grow, 'tail' are those behind them all, one behind the other. -/
theorem grow_region {l : Array Bool} {fuel : Nat} {a0 : Act} {w0 : World} {B : List Nat} (D : List (Nat × Tmp)) (tail : List Nat) (ow : Nat → Bool) (ch : Nat → Nat) (Pr : Nat → (Nat → Value) → World → Prop) (hT : rtab md ops = T) (hB : bitsOf T.2 = B) (hw : waitsOk T.2 B = true) (hk : baseOk T.2 (D.map (·.1) ++ tail) = true)
    (hl : (lof T.2.length (D.map (·.1) ++ tail) (fun _ => false) == l.toList && (D.map (·.1) ++ tail).length == fuel) = true)
    (hD2 : decide (D.map (·.2)).Nodup = true) (hsz : (D.all fun e => decide (e.2 < a0.tmps.size)) = true) (hlast : (tail.all fun t => D.all fun e => (B.getD t 0).testBit e.1) = true) (hpair : (pairB B tail && !tail.isEmpty) = true)
    (dep : ∀ e ∈ D, ∀ V V' w, (∀ j, (j = e.1 ∨ (B.getD e.1 0).testBit j = true) → V j = V' j) → Pr e.1 V w → Pr e.1 V' w) (stab : ∀ e ∈ D, ∀ V w w', Pr e.1 V w → Below w.heap.size w w' → Pr e.1 V w')
    (hs : ∀ e ∈ D, GrowStep ow P ops Q a0 w0 B D ch Pr e)
    (hfin : ∀ V a w, a = putSel a0 (fun _ => true) (vrows D V) → Below w0.heap.size w0 w → (∀ e ∈ D, Pr e.1 V w) → (∀ e ∈ D, ∀ e' ∈ D, ch e.1 ≠ ch e'.1 → ∀ k, ob ow V e.1 = some k → ob ow V e'.1 ≠ some k) → (∀ e ∈ D, ∀ k, ob ow V e.1 = some k → w0.heap.size ≤ k ∧ k < w.heap.size) →
      seqWp P ops Q tail a w) :
    wpAnyLast P md ops Q (fun _ => True) [] fuel l a0 w0 := by
  have hnd := baseOk_nodup hk
  rw [List.nodup_append] at hnd
  have hD := hnd.1
  rw [Bool.and_eq_true] at hpair
  have hne : tail ≠ [] := by
    intro h
    rw [h] at hpair
    simp at hpair
  have hnl : ∀ e ∈ D, ∀ t ∈ tail, e.1 ≠ t := fun e he t ht h => hnd.2.2 e.1 (List.mem_map.2 ⟨e, he, rfl⟩) t ht h
  have hD2' := of_decide_eq_true hD2
  have hsz' : ∀ e ∈ D, e.2 < a0.tmps.size := fun e he => by simpa using List.all_eq_true.1 hsz e he
  have hlast' : ∀ t ∈ tail, ∀ e ∈ D, (B.getD t 0).testBit e.1 = true := fun t ht e he => List.all_eq_true.1 (List.all_eq_true.1 hlast t ht) e he
  have hO : ∀ e ∈ D, (D.map (·.1) ++ tail).contains e.1 = true := fun e he => by
    rw [List.contains_iff_mem]
    exact List.mem_append_left _ (List.mem_map.2 ⟨e, he, rfl⟩)
  have hOl : ∀ t ∈ tail, (D.map (·.1) ++ tail).contains t = true := fun t ht => by
    rw [List.contains_iff_mem]
    exact List.mem_append_right _ ht
  refine inv_ (B := B) (D.map (·.1) ++ tail) (fun b a w => ∃ pre rest, tail = pre ++ rest ∧ (∀ i ∈ pre, b i = true) ∧ (∀ i ∈ rest, b i = false) ∧ (pre = [] → ∃ V, GrowI ow a0 w0 B D ch Pr b a w V) ∧ (pre ≠ [] → seqWp P ops Q rest a w)) hT hw hk hl ?_ ?_ ?_
  · refine ⟨[], tail, rfl, fun _ h => absurd h (by simp), fun _ _ => rfl, fun _ => ⟨fun _ => undef, ?_, Below.refl _ _, fun _ _ h => absurd h (by simp), fun _ _ h => absurd h (by simp), fun _ _ _ _ h => absurd h (by simp)⟩, fun h => absurd rfl h⟩
    have : ∀ (L : List (Nat × Tmp × Value)) (a : Act), putSel a (fun _ => false) L = a := fun L => by
      induction L with
      | nil => intro a; rfl
      | cons x L ih => intro a; simp [putSel, ih]
    rw [this]
  · intro i hi b a w hI hb hon hoff
    obtain ⟨pre, rest, htail, hpre, hrest, hg, hq⟩ := hI
    rcases List.mem_append.1 hi with hi | hi
    · obtain ⟨e, he, rfl⟩ := List.mem_map.1 hi
      have hp0 : pre = [] := by
        cases pre with
        | nil => rfl
        | cons x pre =>
          have hx : x ∈ tail := by rw [htail]; simp
          have h1 := hpre x (by simp)
          rw [hoff x (by rw [hOl x hx, hlast' x hx e he]; rfl)] at h1
          cases h1
      obtain ⟨V, hV⟩ := hg hp0
      obtain ⟨oi, h1, h2⟩ := grow_step hD hD2' hsz' dep stab he (hs e he) hV hb (fun e' he' hbit => hon e'.1 (by rw [hO e' he', hbit]; rfl)) (fun e' he' hbit => hoff e'.1 (by rw [hO e' he', hbit]; rfl))
      refine ⟨oi, h1, fun K hK => h2 K fun a' w' hg => hK a' w' ⟨[], tail, rfl, fun _ h => absurd h (by simp), fun t ht => ?_, fun _ => hg, fun h => absurd rfl h⟩⟩
      rw [up_ne (hnl e he t ht).symm]
      subst hp0
      exact hrest t (by rw [← List.nil_append rest, ← htail]; exact ht)
    · have hir : i ∈ rest := by
        rw [htail] at hi
        rcases List.mem_append.1 hi with h | h
        · have := hpre i h
          rw [hb] at this; cases this
        · exact h
      cases rest with
      | nil => simp at hir
      | cons x rest =>
        have hxi : x = i := by
          rcases List.mem_cons.1 hir with h | h
          · exact h.symm
          · have h1 := pairB_mem hpair.1 htail h
            have hx : x ∈ tail := by rw [htail]; simp
            have h2 := hon x (by rw [hOl x hx, h1]; rfl)
            rw [hrest x (by simp)] at h2; cases h2
        subst hxi
        have hseq : seqWp P ops Q (x :: rest) a w := by
          by_cases hp0 : pre = []
          · obtain ⟨V, hV⟩ := hg hp0
            have hall : ∀ e ∈ D, b e.1 = true := fun e he => hon e.1 (by rw [hO e he, hlast' x hi e he]; rfl)
            have hfr : a = putSel a0 (fun _ => true) (vrows D V) := by
              rw [hV.frame]
              have : ∀ (L : List (Nat × Tmp × Value)) (a : Act), (∀ x ∈ L, b x.1 = true) → putSel a b L = putSel a (fun _ => true) L := fun L => by
                induction L with
                | nil => intro a _; rfl
                | cons x L ih =>
                  intro a hx
                  simp only [putSel, hx x (by simp), if_true]
                  exact ih _ (fun y hy => hx y (by simp [hy]))
              refine this _ _ (fun x hx => ?_)
              obtain ⟨e, he, rfl⟩ := List.mem_map.1 hx
              exact hall e he
            have h1 := hfin V a w hfr hV.below (fun e he => hV.pr e he (hall e he)) (fun e he e' he' hc => hV.apart e he e' he' (hall e he) (hall e' he') hc) (fun e he => hV.lt e he (hall e he))
            rw [htail, hp0] at h1
            exact h1
          · exact hq hp0
        obtain ⟨oi, ho, hstep⟩ := hseq
        have hpn : (pre ++ [x]) ≠ [] := by simp
        have hnt : (pre ++ x :: rest).Nodup := by rw [← htail]; exact hnd.2.1
        have hxr : x ∉ rest := fun h => by
          have := (List.nodup_append.1 hnt).2.1
          simp only [List.nodup_cons] at this
          exact this.1 h
        refine ⟨oi, ho, fun K hK => ?_⟩
        have key : ∀ a' w', seqWp P ops Q rest a' w' → K a' w' := fun a' w' h => hK.out a' w' ⟨pre ++ [x], rest, by rw [htail]; simp, fun j hj => by
            by_cases hjx : j = x
            · rw [hjx]; exact up_self _ _
            · rw [up_ne hjx]
              rcases List.mem_append.1 hj with hj | hj
              · exact hpre j hj
              · simp at hj; exact absurd hj hjx, fun j hj => by
            have hjx : j ≠ x := by
              intro hh
              rw [hh] at hj
              exact hxr hj
            rw [up_ne hjx]
            exact hrest j (by simp [hj]), fun h => absurd h hpn, fun _ => h⟩
        by_cases hwt : Region.wanted oi (yielded ops a.tmps) = true
        · rw [if_pos hwt] at hstep ⊢
          exact Oper.wp_mono key hstep
        · rw [if_neg hwt] at hstep ⊢
          exact key _ _ hstep
  · rintro b a w hall ⟨pre, rest, htail, hpre, hrest, hg, hq⟩
    have hr0 : rest = [] := by
      cases rest with
      | nil => rfl
      | cons x rest =>
        have h1 := hrest x (by simp)
        rw [hall x (hOl x (by rw [htail]; simp))] at h1
        cases h1
    subst hr0
    rw [List.append_nil] at htail
    exact hq (htail ▸ hne)
end

/-! ### append to a new empty slice -/
theorem run_append_lit {P : Program} {w : World} {s : Nat} (t ty e : TypeId) (z : Value) (bytes : Nat) (ht : P.underlying t = some (.slice e)) (hinfo : (P.info? e).map (fun i => (i.zero, i.size, i.bytes)) = some (some z, 1, bytes)) (hz : z.cells.size = 1) (hs : Blk w s e [])
    {A : Option Addr} {n c : Nat} {us : List Value} (hr : Row1 w A n us) (h1 : ∀ u ∈ us, u.oneCell' = true) (h63 : n ≤ maxLen) (hb : n * bytes ≤ 140737488355328) (base : Nat) (hbase : base ≤ s) :
    ∃ v w', (Builtin.append_ #[t, t] ty #[.slice (some ⟨s, 0, none⟩) 0 0, .slice A n c]).run P w = .ok v w' ∧ Below w.heap.size w w' ∧ w'.ownsRow base e 1 v n us ∧ ∀ k, v.ownBlock = some k → k < w'.heap.size ∧ (w.heap.size ≤ k ∨ k = s) := by
  obtain ⟨i0, hi, hzz⟩ := Option.map_eq_some_iff.1 hinfo
  simp only [Prod.mk.injEq] at hzz
  obtain ⟨hz0, hz1, hz2⟩ := hzz
  have hlt := hs.lt
  rcases Nat.eq_zero_or_pos n with rfl | hn
  · have hus : us = [] := List.eq_nil_of_length_eq_zero hr.1
    subst hus
    have hown : w.ownsRow base e 1 (.slice (some ⟨s, 0, none⟩) 0 0) 0 [] := ⟨by simp, .inr ⟨s, 0, #[], rfl, hbase, hs, Nat.le_refl _, by simp [maxLen], by simp, by simp⟩⟩
    have hrun : (Builtin.append_ #[t, t] ty #[.slice (some ⟨s, 0, none⟩) 0 0, .slice A 0 c]).run P w = .ok (.slice (some ⟨s, 0, none⟩) 0 0) w := by
      cases A with
      | none =>
        simp [Builtin.append_, run_underlying ht, sizeOf, typeInfo, hi, Builtin.lenOf, Builtin.firstCells, storeCells, loadCells, loadCellsFrom, hz1, Result.andThen]
      | some ad =>
        simp [Builtin.append_, run_underlying ht, sizeOf, typeInfo, hi, Builtin.lenOf, Builtin.firstCells, storeCells, loadCells, loadCellsFrom, hz1, Result.andThen]
    exact ⟨_, w, hrun, Below.refl _ _, hown, fun k hk => by
      simp [Value.ownBlock] at hk
      subst hk
      exact ⟨hlt, .inr rfl⟩⟩
  · obtain ⟨ad, rfl, hc⟩ := hr.2 hn
    obtain ⟨v, w', hrun, hown, hg⟩ := run_append_arg_grows (P := P) w t ty e i0 z 1 bytes ht hi hz0 hz1 hz2 hz (by decide) ⟨s, 0, none⟩ 0 0 [] (by simp) (by simp) ad n c us (by have := hr.1; omega) hc (by omega) (by omega) (by rw [Nat.zero_add]; exact hb)
    refine ⟨v, w', by simpa using hrun, ⟨hg.os, hg.tape, hg.output, hg.size, fun k hk => hg.block k hk (by simp)⟩, ?_, fun k hk => ?_⟩
    · have : w'.ownsRow w.heap.size e 1 v n us := by simpa using hown
      exact own_weaken this (by omega)
    · have := World.ownsRow.lt hown k hk
      exact ⟨this.2, .inl this.1⟩
end Go.Proofs.Ytphhdmopfmelbaa
