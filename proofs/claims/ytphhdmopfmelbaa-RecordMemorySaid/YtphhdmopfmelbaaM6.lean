/- Joined texts: Grow Ref12D Flow Ref12G Ref12H. -/
import Derived.Test.YtphhdmopfmelbaaM1
import Derived.Test.YtphhdmopfmelbaaM3
import Derived.Test.YtphhdmopfmelbaaM4
import Derived.Test.YtphhdmopfmelbaaM5
import Derived.Test.YtphhdmopfmelbaaWInvWords
import Derived.Lib.Hide
import Derived.ArgAppend
import Derived.Deep.Upon

/-
  A region that draws its order, of which all operations but a last one make memory alone: each is shown once. No program in sight.
-/
namespace Go.Proofs.Ytphhdmopfmelbaa
open Go.RowKit Go.Proofs.YtphhdmopfmelbaaW.PrintWords Go.Proofs.YtphhdmopfmelbaaW.PrintLast
set_option linter.unusedVariables false
set_option linter.unusedSimpArgs false

/-- All that each operation waits for, as bits. -/
def bitsOf (T : List (List Nat × List Nat)) : List Nat := T.foldl (fun acc r => acc ++ [r.1.foldl (fun m n => m ||| (1 <<< n) ||| acc.getD n 0) 0]) []
def setV (V : Nat → Value) (i : Nat) (v : Value) : Nat → Value := fun j => if j = i then v else V j
theorem setV_self (V : Nat → Value) (i : Nat) (v : Value) : setV V i v i = v := by simp [setV]
theorem setV_ne (V : Nat → Value) {i j : Nat} (v : Value) (h : j ≠ i) : setV V i v j = V j := by simp [setV, h]
/-- The growing operations with where their values go. -/
def vrows (D : List (Nat × Tmp)) (V : Nat → Value) : List (Nat × Tmp × Value) := D.map fun e => (e.1, e.2, V e.1)
theorem vrows_set {D : List (Nat × Tmp)} (hD : (D.map (·.1)).Nodup) (V : Nat → Value) {k i : Nat} {t : Tmp} (hk : D[k]? = some (i, t)) (v : Value) : (vrows D V).set k (i, t, v) = vrows D (setV V i v) := by
  apply List.ext_getElem?
  intro j
  by_cases hj : j = k
  · subst hj
    have hl := (List.getElem?_eq_some_iff.1 hk).1
    rw [List.getElem?_set_self (by simpa [vrows] using hl)]
    simp [vrows, hk, setV_self]
  · rw [List.getElem?_set_ne (Ne.symm hj)]
    simp only [vrows, List.getElem?_map]
    cases he : D[j]? with
    | none => rfl
    | some e =>
      have : e.1 ≠ i := fun h => hj (by
        have h1 : (D.map (·.1))[j]? = some i := by simp [he, h]
        have h2 : (D.map (·.1))[k]? = some i := by simp [hk]
        obtain ⟨l1, e1⟩ := List.getElem?_eq_some_iff.1 h1
        obtain ⟨l2, e2⟩ := List.getElem?_eq_some_iff.1 h2
        exact (List.getElem_inj hD).1 (e1.trans e2.symm))
      simp [setV_ne _ _ this]

/-- The block of what an owner holds. -/
def ob (ow : Nat → Bool) (V : Nat → Value) (i : Nat) : Option Nat := if ow i = true then (V i).ownBlock else none
section
variable {P : Program} {ops : Array Oper} {Q : Exit → Act → World → Prop} {md : Region.Mode} {T : Bool × List (List Nat × List Nat)} {ow : Nat → Bool}
/-- What holds while they grow. -/
structure GrowI (ow : Nat → Bool) (a0 : Act) (w0 : World) (B : List Nat) (D : List (Nat × Tmp)) (ch : Nat → Nat) (Pr : Nat → (Nat → Value) → World → Prop) (b : Nat → Bool) (a : Act) (w : World) (V : Nat → Value) : Prop where
  frame : a = putSel a0 b (vrows D V)
  below : Below w0.heap.size w0 w
  pr : ∀ e ∈ D, b e.1 = true → Pr e.1 V w
  lt : ∀ e ∈ D, b e.1 = true → ∀ k, ob ow V e.1 = some k → w0.heap.size ≤ k ∧ k < w.heap.size
  apart : ∀ e ∈ D, ∀ e' ∈ D, b e.1 = true → b e'.1 = true → ch e.1 ≠ ch e'.1 → ∀ k, ob ow V e.1 = some k → ob ow V e'.1 ≠ some k
/-- One operation's step. -/
def GrowStep (ow : Nat → Bool) (P : Program) (ops : Array Oper) (Q : Exit → Act → World → Prop) (a0 : Act) (w0 : World) (B : List Nat) (D : List (Nat × Tmp)) (ch : Nat → Nat) (Pr : Nat → (Nat → Value) → World → Prop) (e : Nat × Tmp) : Prop :=
  ∀ V a w, (∀ e' ∈ D, (B.getD e.1 0).testBit e'.1 = true → a.tmps[e'.2]? = some (V e'.1) ∧ Pr e'.1 V w ∧ ∀ k, ob ow V e'.1 = some k → w0.heap.size ≤ k ∧ k < w.heap.size) → (∀ s, (∀ e' ∈ D, e'.2 ≠ s) → a.tmps[s]? = a0.tmps[s]?) → Below w0.heap.size w0 w →
    ∃ oi, ops[e.1]? = some oi ∧ oi.dst = some e.2 ∧ ∀ K : Act → World → Prop,
      Shut (∀ v w', Below w.heap.size w w' → Pr e.1 (setV V e.1 v) w' → (ow e.1 = true → ∀ k, v.ownBlock = some k → k < w'.heap.size ∧ (w.heap.size ≤ k ∨ ∃ e' ∈ D, (B.getD e.1 0).testBit e'.1 = true ∧ ch e'.1 = ch e.1 ∧ ob ow V e'.1 = some k)) → K (a.put (some e.2) v) w') →
      if Region.wanted oi (yielded ops a.tmps) = true then Oper.wp P oi a w K Q else K (a.put oi.dst undef) w

theorem putSel_at {b : Nat → Bool} {D : List (Nat × Tmp)} (hD2 : (D.map (·.2)).Nodup) {V : Nat → Value} {a0 : Act} {i : Nat} {t : Tmp} (he : (i, t) ∈ D) (hb : b i = true) (ht : t < a0.tmps.size) : (putSel a0 b (vrows D V)).tmps[t]? = some (V i) := by
  obtain ⟨k, hk⟩ := List.getElem?_of_mem he
  refine putSel_on (e := (i, t, V i)) k (by simp [vrows, hk]) ?_ hb (by rw [Nat.ble_eq]; exact ht)
  rw [List.all_eq_true]
  intro x hx
  obtain ⟨j, hj⟩ := List.getElem?_of_mem hx
  rw [List.getElem?_drop] at hj
  simp only [vrows, List.getElem?_map] at hj
  obtain ⟨y, hy, rfl⟩ := Option.map_eq_some_iff.1 hj
  simp only [Bool.not_eq_true', beq_eq_false_iff_ne]
  intro h
  have h1 : (D.map (·.2))[k + 1 + j]? = some t := by simp [hy, h]
  have h2 : (D.map (·.2))[k]? = some t := by simp [hk]
  obtain ⟨l1, e1⟩ := List.getElem?_eq_some_iff.1 h1
  obtain ⟨l2, e2⟩ := List.getElem?_eq_some_iff.1 h2
  have := (List.getElem_inj hD2).1 (e1.trans e2.symm)
  omega
theorem putSel_out {b : Nat → Bool} {D : List (Nat × Tmp)} {V : Nat → Value} {a0 : Act} {s : Tmp} (h : ∀ e ∈ D, e.2 ≠ s) : (putSel a0 b (vrows D V)).tmps[s]? = a0.tmps[s]? := by
  refine putSel_off ?_
  rw [List.all_eq_true]
  intro x hx
  obtain ⟨e, he, rfl⟩ := List.mem_map.1 hx
  simpa using h e he
theorem grow_step {a0 : Act} {w0 : World} {B : List Nat} {D : List (Nat × Tmp)} {ch : Nat → Nat} {Pr : Nat → (Nat → Value) → World → Prop} {b : Nat → Bool} {a : Act} {w : World} {V : Nat → Value}
    (hD : (D.map (·.1)).Nodup) (hD2 : (D.map (·.2)).Nodup) (hsz : ∀ e ∈ D, e.2 < a0.tmps.size)
    (dep : ∀ e ∈ D, ∀ V V' w, (∀ j, (j = e.1 ∨ (B.getD e.1 0).testBit j = true) → V j = V' j) → Pr e.1 V w → Pr e.1 V' w) (stab : ∀ e ∈ D, ∀ V w w', Pr e.1 V w → Below w.heap.size w w' → Pr e.1 V w')
    {e : Nat × Tmp} (he : e ∈ D) (hs : GrowStep ow P ops Q a0 w0 B D ch Pr e) (h : GrowI ow a0 w0 B D ch Pr b a w V) (hb : b e.1 = false)
    (hon : ∀ e' ∈ D, (B.getD e.1 0).testBit e'.1 = true → b e'.1 = true) (hoff : ∀ e' ∈ D, (B.getD e'.1 0).testBit e.1 = true → b e'.1 = false) :
    ∃ oi, ops[e.1]? = some oi ∧ ∀ K : Act → World → Prop, Shut (∀ a' w', (∃ V', GrowI ow a0 w0 B D ch Pr (up b e.1) a' w' V') → K a' w') → if Region.wanted oi (yielded ops a.tmps) = true then Oper.wp P oi a w K Q else K (a.put oi.dst undef) w := by
  obtain ⟨oi, h1, h2, h3⟩ := hs V a w (fun e' he' hbit => by
      have hb' := hon e' he' hbit
      exact ⟨by rw [h.frame]; exact putSel_at hD2 he' hb' (hsz e' he'), h.pr e' he' hb', h.lt e' he' hb'⟩) (fun s hs => by rw [h.frame]; exact putSel_out hs) h.below
  refine ⟨oi, h1, fun K hK => h3 K fun v w' hbl hpr hown => hK _ _ ⟨setV V e.1 v, ?_⟩⟩
  have hw0 : w0.heap.size ≤ w.heap.size := h.below.size
  have hne : ∀ e' ∈ D, b e'.1 = true → e'.1 ≠ e.1 := fun e' _ hb' h => by rw [h, hb] at hb'; cases hb'
  have hup : ∀ e' ∈ D, up b e.1 e'.1 = true → e' = e ∨ (e'.1 ≠ e.1 ∧ b e'.1 = true) := fun e' he' hu => by
    by_cases hh : e'.1 = e.1
    · left
      obtain ⟨k, hk⟩ := List.getElem?_of_mem he
      obtain ⟨k', hk'⟩ := List.getElem?_of_mem he'
      have g1 : (D.map (·.1))[k]? = some e.1 := by simp [hk]
      have g2 : (D.map (·.1))[k']? = some e.1 := by simp [hk', hh]
      obtain ⟨l1, e1⟩ := List.getElem?_eq_some_iff.1 g1
      obtain ⟨l2, e2⟩ := List.getElem?_eq_some_iff.1 g2
      have := (List.getElem_inj hD).1 (e1.trans e2.symm)
      subst this
      rw [hk] at hk'
      exact (Option.some.inj hk').symm
    · exact .inr ⟨hh, by rwa [up_ne hh] at hu⟩
  have hself : ∀ k, ob ow (setV V e.1 v) e.1 = some k → ow e.1 = true ∧ v.ownBlock = some k := fun k hk => by
    unfold ob at hk
    rw [setV_self] at hk
    split at hk
    · exact ⟨‹_›, hk⟩
    · cases hk
  have hother : ∀ j, j ≠ e.1 → ob ow (setV V e.1 v) j = ob ow V j := fun j hj => by unfold ob; rw [setV_ne V v hj]
  have hownlt : ow e.1 = true → ∀ k, v.ownBlock = some k → w0.heap.size ≤ k ∧ k < w'.heap.size := fun ho k hk => by
    obtain ⟨hlt, hx⟩ := hown ho k hk
    refine ⟨?_, hlt⟩
    rcases hx with hx | ⟨e', he', hbit, _, hk'⟩
    · omega
    · exact (h.lt e' he' (hon e' he' hbit) k hk').1
  have hap : ow e.1 = true → ∀ e' ∈ D, b e'.1 = true → ch e.1 ≠ ch e'.1 → ∀ k, v.ownBlock = some k → ob ow V e'.1 ≠ some k := fun ho e' he' hb' hch k hk hk' => by
    rcases (hown ho k hk).2 with hx | ⟨e2, he2, hbit, hc2, hk2⟩
    · have := (h.lt e' he' hb' k hk').2; omega
    · exact h.apart e2 he2 e' he' (hon e2 he2 hbit) hb' (by rw [hc2]; exact hch) k hk2 hk'
  refine ⟨?_, h.below.trans (hbl.mono hw0), fun e' he' hu => ?_, fun e' he' hu k hk => ?_, fun e' he' e2 he2 hu hu2 hch k hk => ?_⟩
  · rw [h.frame]
    obtain ⟨k, hk⟩ := List.getElem?_of_mem he
    refine putSel_upk (v0 := V e.1) k hb (by simp [vrows, hk]) (vrows_set hD V hk v) ?_
    rw [List.all_eq_true]
    intro x hx
    have key : ∀ j, j ≠ k → ∀ y, D[j]? = some y → (!(y.1 == e.1) && !(y.2 == e.2)) = true := fun j hj y hy => by
      simp only [Bool.and_eq_true, Bool.not_eq_true', beq_eq_false_iff_ne]
      constructor
      · intro hh
        have g1 : (D.map (·.1))[k]? = some e.1 := by simp [hk]
        have g2 : (D.map (·.1))[j]? = some e.1 := by simp [hy, hh]
        obtain ⟨l1, e1⟩ := List.getElem?_eq_some_iff.1 g1
        obtain ⟨l2, e2⟩ := List.getElem?_eq_some_iff.1 g2
        exact hj ((List.getElem_inj hD).1 (e1.trans e2.symm)).symm
      · intro hh
        have g1 : (D.map (·.2))[k]? = some e.2 := by simp [hk]
        have g2 : (D.map (·.2))[j]? = some e.2 := by simp [hy, hh]
        obtain ⟨l1, e1⟩ := List.getElem?_eq_some_iff.1 g1
        obtain ⟨l2, e2⟩ := List.getElem?_eq_some_iff.1 g2
        exact hj ((List.getElem_inj hD2).1 (e1.trans e2.symm)).symm
    rcases List.mem_append.1 hx with hx | hx
    · obtain ⟨j, hj⟩ := List.getElem?_of_mem hx
      rw [List.getElem?_take] at hj
      split at hj
      · simp only [vrows, List.getElem?_map] at hj
        obtain ⟨y, hy, rfl⟩ := Option.map_eq_some_iff.1 hj
        exact key j (by omega) y hy
      · cases hj
    · obtain ⟨j, hj⟩ := List.getElem?_of_mem hx
      rw [List.getElem?_drop] at hj
      simp only [vrows, List.getElem?_map] at hj
      obtain ⟨y, hy, rfl⟩ := Option.map_eq_some_iff.1 hj
      exact key _ (by omega) y hy
  · rcases hup e' he' hu with rfl | ⟨hh, hb'⟩
    · exact hpr
    · refine dep e' he' V _ w' (fun j hj => (setV_ne V v (fun hji => ?_)).symm) (stab e' he' V w w' (h.pr e' he' hb') hbl)
      rcases hj with hj | hj
      · exact hh (hj.symm.trans hji)
      · rw [hji] at hj
        have := hoff e' he' hj
        rw [hb'] at this; cases this
  · rcases hup e' he' hu with rfl | ⟨hh, hb'⟩
    · exact hownlt (hself k hk).1 k (hself k hk).2
    · rw [hother _ hh] at hk
      have := h.lt e' he' hb' k hk
      have := hbl.size
      omega
  · rcases hup e' he' hu with rfl | ⟨hh, hb'⟩
    · rcases hup e2 he2 hu2 with rfl | ⟨hh2, hb2⟩
      · exact absurd rfl hch
      · rw [hother _ hh2]
        exact hap (hself k hk).1 e2 he2 hb2 hch k (hself k hk).2
    · rw [hother _ hh] at hk
      rcases hup e2 he2 hu2 with rfl | ⟨hh2, hb2⟩
      · intro hk2
        exact hap (hself k hk2).1 e' he' hb' (Ne.symm hch) k (hself k hk2).2 hk
      · rw [hother _ hh2]
        exact h.apart e' he' e2 he2 hb' hb2 hch k hk

/-- The operations behind them, one behind the other. -/
def seqWp (P : Program) (ops : Array Oper) (Q : Exit → Act → World → Prop) : List Nat → Act → World → Prop
  | [], a, w => Q .normal a w
  | i :: r, a, w => ∃ oi, ops[i]? = some oi ∧ if Region.wanted oi (yielded ops a.tmps) = true then Oper.wp P oi a w (seqWp P ops Q r) Q else seqWp P ops Q r (a.put oi.dst undef) w
theorem seq_value {i : Nat} {r : List Nat} {oi : Oper} {N : Tmp} {a : Act} {w w1 : World} (v : Value) (ho : ops[i]? = some oi) (hg : oi.guard = none) (hN : oi.dst = some N) (hrun : (execOp a.eval oi).run P w = .ok (.value v) w1)
    (h : seqWp P ops Q r (a.put (some N) v) w1) : seqWp P ops Q (i :: r) a w := by
  refine ⟨oi, ho, ?_⟩
  rw [if_pos (by simp [Region.wanted, hg])]
  unfold Oper.wp
  rw [hrun]
  show seqWp P ops Q r (a.put oi.dst v) w1
  rw [hN]
  exact h
theorem seq_skip {i : Nat} {r : List Nat} {oi : Oper} {a : Act} {w w1 : World} (ho : ops[i]? = some oi) (hg : oi.guard = none) (hN : oi.dst = none) (hrun : (execOp a.eval oi).run P w = .ok .skip w1)
    (h : seqWp P ops Q r a w1) : seqWp P ops Q (i :: r) a w := by
  refine ⟨oi, ho, ?_⟩
  rw [if_pos (by simp [Region.wanted, hg])]
  unfold Oper.wp
  rw [hrun]
  show seqWp P ops Q r (a.put oi.dst undef) w1
  rw [hN]
  exact h
theorem seq_nil {a : Act} {w : World} (h : wpList P #[] Q [] a w) : seqWp P ops Q [] a w := h
/-- Each waits for those ahead of it. -/
def pairB (B : List Nat) : List Nat → Bool
  | [] => true
  | i :: r => (r.all fun j => (B.getD j 0).testBit i) && pairB B r
theorem pairB_mem {B : List Nat} : ∀ {l pre rest : List Nat} {i j : Nat}, pairB B l = true → l = pre ++ i :: rest → j ∈ rest → (B.getD j 0).testBit i = true
  | [], pre, rest, i, j, _, h, _ => by simp at h
  | x :: l, [], rest, i, j, hp, h, hj => by
    simp only [List.nil_append, List.cons.injEq] at h
    obtain ⟨rfl, rfl⟩ := h
    simp only [pairB, Bool.and_eq_true, List.all_eq_true] at hp
    exact hp.1 j hj
  | x :: l, y :: pre, rest, i, j, hp, h, hj => by
    simp only [List.cons_append, List.cons.injEq] at h
    simp only [pairB, Bool.and_eq_true] at hp
    exact pairB_mem hp.2 h.2 hj
/-- The whole: D's operations grow, 'tail' are those behind them all, one behind the other. -/
theorem grow_region {l : Array Bool} {fuel : Nat} {a0 : Act} {w0 : World} {B : List Nat} (D : List (Nat × Tmp)) (tail : List Nat) (ow : Nat → Bool) (ch : Nat → Nat) (Pr : Nat → (Nat → Value) → World → Prop) (hT : rtab md ops = T) (hB : bitsOf T.2 = B) (hw : waitsOk T.2 B = true) (hk : baseOk T.2 (D.map (·.1) ++ tail) = true)
    (hl : (lof T.2.length (D.map (·.1) ++ tail) (fun _ => false) == l.toList && (D.map (·.1) ++ tail).length == fuel) = true)
    (hD2 : decide (D.map (·.2)).Nodup = true) (hsz : (D.all fun e => decide (e.2 < a0.tmps.size)) = true) (hlast : (tail.all fun t => D.all fun e => (B.getD t 0).testBit e.1) = true) (hpair : (pairB B tail && !tail.isEmpty) = true)
    (dep : ∀ e ∈ D, ∀ V V' w, (∀ j, (j = e.1 ∨ (B.getD e.1 0).testBit j = true) → V j = V' j) → Pr e.1 V w → Pr e.1 V' w) (stab : ∀ e ∈ D, ∀ V w w', Pr e.1 V w → Below w.heap.size w w' → Pr e.1 V w')
    (hs : ∀ e ∈ D, GrowStep ow P ops Q a0 w0 B D ch Pr e)
    (hfin : ∀ V a w, a = putSel a0 (fun _ => true) (vrows D V) → Below w0.heap.size w0 w → (∀ e ∈ D, Pr e.1 V w) → (∀ e ∈ D, ∀ e' ∈ D, ch e.1 ≠ ch e'.1 → ∀ k, ob ow V e.1 = some k → ob ow V e'.1 ≠ some k) → (∀ e ∈ D, ∀ k, ob ow V e.1 = some k → w0.heap.size ≤ k ∧ k < w.heap.size) →
      seqWp P ops Q tail a w) :
    wpAnyLast P md ops Q (fun _ => True) [] fuel l a0 w0 := by
  have hnd := baseOk_nodup hk
  rw [List.nodup_append] at hnd
  have hD := hnd.1
  rw [Bool.and_eq_true] at hpair
  have hne : tail ≠ [] := by
    intro h
    rw [h] at hpair
    simp at hpair
  have hnl : ∀ e ∈ D, ∀ t ∈ tail, e.1 ≠ t := fun e he t ht h => hnd.2.2 e.1 (List.mem_map.2 ⟨e, he, rfl⟩) t ht h
  have hD2' := of_decide_eq_true hD2
  have hsz' : ∀ e ∈ D, e.2 < a0.tmps.size := fun e he => by simpa using List.all_eq_true.1 hsz e he
  have hlast' : ∀ t ∈ tail, ∀ e ∈ D, (B.getD t 0).testBit e.1 = true := fun t ht e he => List.all_eq_true.1 (List.all_eq_true.1 hlast t ht) e he
  have hO : ∀ e ∈ D, (D.map (·.1) ++ tail).contains e.1 = true := fun e he => by
    rw [List.contains_iff_mem]
    exact List.mem_append_left _ (List.mem_map.2 ⟨e, he, rfl⟩)
  have hOl : ∀ t ∈ tail, (D.map (·.1) ++ tail).contains t = true := fun t ht => by
    rw [List.contains_iff_mem]
    exact List.mem_append_right _ ht
  refine inv_ (B := B) (D.map (·.1) ++ tail) (fun b a w => ∃ pre rest, tail = pre ++ rest ∧ (∀ i ∈ pre, b i = true) ∧ (∀ i ∈ rest, b i = false) ∧ (pre = [] → ∃ V, GrowI ow a0 w0 B D ch Pr b a w V) ∧ (pre ≠ [] → seqWp P ops Q rest a w)) hT hw hk hl ?_ ?_ ?_
  · refine ⟨[], tail, rfl, fun _ h => absurd h (by simp), fun _ _ => rfl, fun _ => ⟨fun _ => undef, ?_, Below.refl _ _, fun _ _ h => absurd h (by simp), fun _ _ h => absurd h (by simp), fun _ _ _ _ h => absurd h (by simp)⟩, fun h => absurd rfl h⟩
    have : ∀ (L : List (Nat × Tmp × Value)) (a : Act), putSel a (fun _ => false) L = a := fun L => by
      induction L with
      | nil => intro a; rfl
      | cons x L ih => intro a; simp [putSel, ih]
    rw [this]
  · intro i hi b a w hI hb hon hoff
    obtain ⟨pre, rest, htail, hpre, hrest, hg, hq⟩ := hI
    rcases List.mem_append.1 hi with hi | hi
    · obtain ⟨e, he, rfl⟩ := List.mem_map.1 hi
      have hp0 : pre = [] := by
        cases pre with
        | nil => rfl
        | cons x pre =>
          have hx : x ∈ tail := by rw [htail]; simp
          have h1 := hpre x (by simp)
          rw [hoff x (by rw [hOl x hx, hlast' x hx e he]; rfl)] at h1
          cases h1
      obtain ⟨V, hV⟩ := hg hp0
      obtain ⟨oi, h1, h2⟩ := grow_step hD hD2' hsz' dep stab he (hs e he) hV hb (fun e' he' hbit => hon e'.1 (by rw [hO e' he', hbit]; rfl)) (fun e' he' hbit => hoff e'.1 (by rw [hO e' he', hbit]; rfl))
      refine ⟨oi, h1, fun K hK => h2 K fun a' w' hg => hK a' w' ⟨[], tail, rfl, fun _ h => absurd h (by simp), fun t ht => ?_, fun _ => hg, fun h => absurd rfl h⟩⟩
      rw [up_ne (hnl e he t ht).symm]
      subst hp0
      exact hrest t (by rw [← List.nil_append rest, ← htail]; exact ht)
    · have hir : i ∈ rest := by
        rw [htail] at hi
        rcases List.mem_append.1 hi with h | h
        · have := hpre i h
          rw [hb] at this; cases this
        · exact h
      cases rest with
      | nil => simp at hir
      | cons x rest =>
        have hxi : x = i := by
          rcases List.mem_cons.1 hir with h | h
          · exact h.symm
          · have h1 := pairB_mem hpair.1 htail h
            have hx : x ∈ tail := by rw [htail]; simp
            have h2 := hon x (by rw [hOl x hx, h1]; rfl)
            rw [hrest x (by simp)] at h2; cases h2
        subst hxi
        have hseq : seqWp P ops Q (x :: rest) a w := by
          by_cases hp0 : pre = []
          · obtain ⟨V, hV⟩ := hg hp0
            have hall : ∀ e ∈ D, b e.1 = true := fun e he => hon e.1 (by rw [hO e he, hlast' x hi e he]; rfl)
            have hfr : a = putSel a0 (fun _ => true) (vrows D V) := by
              rw [hV.frame]
              have : ∀ (L : List (Nat × Tmp × Value)) (a : Act), (∀ x ∈ L, b x.1 = true) → putSel a b L = putSel a (fun _ => true) L := fun L => by
                induction L with
                | nil => intro a _; rfl
                | cons x L ih =>
                  intro a hx
                  simp only [putSel, hx x (by simp), if_true]
                  exact ih _ (fun y hy => hx y (by simp [hy]))
              refine this _ _ (fun x hx => ?_)
              obtain ⟨e, he, rfl⟩ := List.mem_map.1 hx
              exact hall e he
            have h1 := hfin V a w hfr hV.below (fun e he => hV.pr e he (hall e he)) (fun e he e' he' hc => hV.apart e he e' he' (hall e he) (hall e' he') hc) (fun e he => hV.lt e he (hall e he))
            rw [htail, hp0] at h1
            exact h1
          · exact hq hp0
        obtain ⟨oi, ho, hstep⟩ := hseq
        have hpn : (pre ++ [x]) ≠ [] := by simp
        have hnt : (pre ++ x :: rest).Nodup := by rw [← htail]; exact hnd.2.1
        have hxr : x ∉ rest := fun h => by
          have := (List.nodup_append.1 hnt).2.1
          simp only [List.nodup_cons] at this
          exact this.1 h
        refine ⟨oi, ho, fun K hK => ?_⟩
        have key : ∀ a' w', seqWp P ops Q rest a' w' → K a' w' := fun a' w' h => hK.out a' w' ⟨pre ++ [x], rest, by rw [htail]; simp, fun j hj => by
            by_cases hjx : j = x
            · rw [hjx]; exact up_self _ _
            · rw [up_ne hjx]
              rcases List.mem_append.1 hj with hj | hj
              · exact hpre j hj
              · simp at hj; exact absurd hj hjx, fun j hj => by
            have hjx : j ≠ x := by
              intro hh
              rw [hh] at hj
              exact hxr hj
            rw [up_ne hjx]
            exact hrest j (by simp [hj]), fun h => absurd h hpn, fun _ => h⟩
        by_cases hwt : Region.wanted oi (yielded ops a.tmps) = true
        · rw [if_pos hwt] at hstep ⊢
          exact Oper.wp_mono key hstep
        · rw [if_neg hwt] at hstep ⊢
          exact key _ _ hstep
  · rintro b a w hall ⟨pre, rest, htail, hpre, hrest, hg, hq⟩
    have hr0 : rest = [] := by
      cases rest with
      | nil => rfl
      | cons x rest =>
        have h1 := hrest x (by simp)
        rw [hall x (hOl x (by rw [htail]; simp))] at h1
        cases h1
    subst hr0
    rw [List.append_nil] at htail
    exact hq (htail ▸ hne)
end

/-! ### append to a new empty slice -/
theorem run_append_lit {P : Program} {w : World} {s : Nat} (t ty e : TypeId) (z : Value) (bytes : Nat) (ht : P.underlying t = some (.slice e)) (hinfo : (P.info? e).map (fun i => (i.zero, i.size, i.bytes)) = some (some z, 1, bytes)) (hz : z.cells.size = 1) (hs : Blk w s e [])
    {A : Option Addr} {n c : Nat} {us : List Value} (hr : Row1 w A n us) (h1 : ∀ u ∈ us, u.oneCell' = true) (h63 : n ≤ maxLen) (hb : n * bytes ≤ 140737488355328) (base : Nat) (hbase : base ≤ s) :
    ∃ v w', (Builtin.append_ #[t, t] ty #[.slice (some ⟨s, 0, none⟩) 0 0, .slice A n c]).run P w = .ok v w' ∧ Below w.heap.size w w' ∧ w'.ownsRow base e 1 v n us ∧ ∀ k, v.ownBlock = some k → k < w'.heap.size ∧ (w.heap.size ≤ k ∨ k = s) := by
  obtain ⟨i0, hi, hzz⟩ := Option.map_eq_some_iff.1 hinfo
  simp only [Prod.mk.injEq] at hzz
  obtain ⟨hz0, hz1, hz2⟩ := hzz
  have hlt := hs.lt
  rcases Nat.eq_zero_or_pos n with rfl | hn
  · have hus : us = [] := List.eq_nil_of_length_eq_zero hr.1
    subst hus
    have hown : w.ownsRow base e 1 (.slice (some ⟨s, 0, none⟩) 0 0) 0 [] := ⟨by simp, .inr ⟨s, 0, #[], rfl, hbase, hs, Nat.le_refl _, by simp [maxLen], by simp, by simp⟩⟩
    have hrun : (Builtin.append_ #[t, t] ty #[.slice (some ⟨s, 0, none⟩) 0 0, .slice A 0 c]).run P w = .ok (.slice (some ⟨s, 0, none⟩) 0 0) w := by
      cases A with
      | none =>
        simp [Builtin.append_, run_underlying ht, sizeOf, typeInfo, hi, Builtin.lenOf, Builtin.firstCells, storeCells, loadCells, loadCellsFrom, hz1, Result.andThen]
      | some ad =>
        simp [Builtin.append_, run_underlying ht, sizeOf, typeInfo, hi, Builtin.lenOf, Builtin.firstCells, storeCells, loadCells, loadCellsFrom, hz1, Result.andThen]
    exact ⟨_, w, hrun, Below.refl _ _, hown, fun k hk => by
      simp [Value.ownBlock] at hk
      subst hk
      exact ⟨hlt, .inr rfl⟩⟩
  · obtain ⟨ad, rfl, hc⟩ := hr.2 hn
    obtain ⟨v, w', hrun, hown, hg⟩ := run_append_arg_grows (P := P) w t ty e i0 z 1 bytes ht hi hz0 hz1 hz2 hz (by decide) ⟨s, 0, none⟩ 0 0 [] (by simp) (by simp) ad n c us (by have := hr.1; omega) hc (by omega) (by omega) (by rw [Nat.zero_add]; exact hb)
    refine ⟨v, w', by simpa using hrun, ⟨hg.os, hg.tape, hg.output, hg.size, fun k hk => hg.block k hk (by simp)⟩, ?_, fun k hk => ?_⟩
    · have : w'.ownsRow w.heap.size e 1 v n us := by simpa using hown
      exact own_weaken this (by omega)
    · have := World.ownsRow.lt hown k hk
      exact ⟨this.2, .inl this.1⟩
end Go.Proofs.Ytphhdmopfmelbaa

/- larchref12: Copy. Written by p_copy.py. -/
namespace Go.Proofs.Ytphhdmopfmelbaa
open Go.RowKit Go.Proofs.YtphhdmopfmelbaaW.PrintWords Go.Proofs.YtphhdmopfmelbaaW.PrintLast
set_option linter.unusedVariables false
set_option linter.unusedSimpArgs false

theorem one_int (l : List Int) : ∀ u ∈ l.map (Value.int .i64), u.oneCell' = true := fun u hu => by
  obtain ⟨x, _, rfl⟩ := List.mem_map.1 hu
  rfl
theorem one_bool (l : List Bool) : ∀ u ∈ l.map Value.bool, u.oneCell' = true := fun u hu => by
  obtain ⟨x, _, rfl⟩ := List.mem_map.1 hu
  rfl
theorem append_exec {P : Program} {o : Oper} {a : Act} {s x : Operand} {t : TypeId} {v u r : Value} {w w1 : World} (ho : o.op = .call { callee := .builtin .append, args := #[s, x], argTypes := #[t, t] }) (hs : a.eval s = v) (hx : a.eval x = u)
    (hr : (Builtin.append_ #[t, t] o.type #[v, u]).run P w = .ok r w1) : (execOp a.eval o).run P w = .ok (.value r) w1 := by
  unfold execOp
  simp only [ho, resolve, invoke, builtin, Sem.run_bind, Sem.run_pure, Result.andThen_ok, List.map_toArray, List.map_cons, List.map_nil, hs, hx, hr]
theorem store_exec {P : Program} {o : Oper} {a : Act} {p x : Operand} {t : TypeId} {v u : Value} {w w1 : World} (ho : o.op = .store t p x) (hp : a.eval p = v) (hx : a.eval x = u)
    (hr : (Instr.storeAt t v u).run P w = .ok () w1) : (execOp a.eval o).run P w = .ok .skip w1 := by
  unfold execOp
  simp only [ho, Sem.run_bind, Sem.run_pure, Result.andThen_ok, hp, hx, hr]

theorem wsizeR : (Try.prog.info? TRW).map (·.size) = some 5 := by kernel_rfl
theorem res_endR {w1 : World} {g : Nat} (hb : Blk w1 g TRW zero5) (a b c d f : Value) (wz : World)
    (e : wz = ((((w1.setCell ⟨g, 0, none⟩ a).setCell ⟨g, 1, none⟩ b).setCell ⟨g, 2, none⟩ c).setCell ⟨g, 3, none⟩ d).setCell ⟨g, 4, none⟩ f) :
    Blk wz g TRW [a, b, c, d, f] ∧ Fr w1 wz (fun k => k = g) := by
  subst e
  exact ⟨((((hb.set 0 a).set 1 b).set 2 c).set 3 d).set 4 f,
    (((((Fr.refl w1 (fun k => k = g)).setCell ⟨g, 0, none⟩ a (fun _ => rfl)).setCell ⟨g, 1, none⟩ b (fun _ => rfl)).setCell ⟨g, 2, none⟩ c (fun _ => rfl)).setCell ⟨g, 3, none⟩ d (fun _ => rfl)).setCell ⟨g, 4, none⟩ f (fun _ => rfl)⟩
theorem copy_start {B : Nat} {d : WD} {iv mv sv zv : Value} {w w' : World} {g : Nat} (h1 : w.ownsRow B TII 1 iv d.infos.length (d.infos.map (Value.int .i64))) (h2 : w.ownsRow B TBB 1 mv d.marks.length (d.marks.map Value.bool))
    (h3 : w.ownsRow B TII 1 sv d.states.length (d.states.map (Value.int .i64))) (h4 : w.ownsRow B TBB 1 zv d.frozen.length (d.frozen.map Value.bool)) (hd1 : ∀ k, iv.ownBlock = some k → sv.ownBlock ≠ some k) (hd2 : ∀ k, mv.ownBlock = some k → zv.ownBlock ≠ some k)
    {cs : List Value} (hg : Blk w g TRW cs) (hf : Fr w w' (fun k => k = g)) : OutW B ⟨[], d.infos, d.marks, d.states, d.frozen⟩ (.slice none 0 0) iv mv sv zv [] w' := by
  have key : ∀ {e n : Nat} {v : Value} {us : List Value}, w.ownsRow B e 1 v n us → e ≠ TRW → w'.ownsRow B e 1 v n us := fun ho he => owns_fr ho hf (fun k hk e2 => by
    obtain ⟨c, hc⟩ := owns_typed ho k hk
    subst e2
    exact he (hc.inj hg).1)
  exact ⟨World.ownsRow_nil _ _ _ _, fun i u r h => by simp at h, fun i j u u' _ h => by simp at h, key h1 (by decide), key h2 (by decide), key h3 (by decide), key h4 (by decide),
    fun _ _ u hu => by simp at hu, fun _ _ u hu => by simp at hu, hd1, hd2⟩

/-- While the rows of fields are copied. -/
structure CopyAt (w0 : World) (v : WV) (d : WD) (pb g : Nat) (j : Nat) (fv iv mv sv zv : Value) (us : List Value) (w : World) : Prop where
  below : Below w0.heap.size w0 w
  par : Blk w pb TRW (v.cells d)
  res : Blk w (pb + 1) TRW zero5
  box : Blk w g TRW [fv, iv, mv, sv, zv]
  out : OutW w0.heap.size ⟨d.fields.take j, d.infos, d.marks, d.states, d.frozen⟩ fv iv mv sv zv us w
  lo : w0.heap.size ≤ g
  ne : g ≠ pb ∧ g ≠ pb + 1
theorem CopyAt.more {w0 : World} {v : WV} {d : WD} {pb g j : Nat} {fv iv mv sv zv : Value} {us : List Value} {w w' : World} (h : CopyAt w0 v d pb g j fv iv mv sv zv us w) (hb : Below w.heap.size w w') : CopyAt w0 v d pb g j fv iv mv sv zv us w' :=
  let k {b : Nat} {xs : List Value} (hx : Blk w b TRW xs) : Blk w' b TRW xs := (Fr.of_below0 (S := fun _ => False) hb).blk hx id
  ⟨h.below.trans (hb.mono h.below.size), k h.par, k h.res, k h.box, h.out.below hb, h.lo, h.ne⟩
theorem copy_round {w0 : World} {v : WV} {d : WD} {pb g j : Nat} {fv iv mv sv zv v1 u : Value} {us : List Value} {w wz w1 : World} (h : CopyAt w0 v d pb g j fv iv mv sv zv us w) (hj : j < d.fields.length) (hb : Below w.heap.size w wz)
    (hu : wz.ownsRow w.heap.size TII 1 u d.fields[j].length (d.fields[j].map (Value.int .i64))) (hg : wz.grownBy w1 fv.ownBlock) (ho : w1.ownsRow w0.heap.size TRI 1 v1 (j + 1) (us ++ [u])) :
    CopyAt w0 v d pb g (j + 1) v1 iv mv sv zv (us ++ [u]) (w1.setCell ⟨g, 0, none⟩ v1) := by
  have hz := h.more hb
  have hs0 := h.below.size
  have hlen : (d.fields.take j).length = j := by simp; omega
  have hf := Fr.of_grown hg
  have hne : ∀ {k ys}, Blk wz k TRW ys → ¬ some k = fv.ownBlock := fun hx e2 => by
    obtain ⟨c, hc⟩ := owns_typed hz.out.f _ e2.symm
    have := ((show Blk wz _ TRI c from hc).inj hx).1
    exact absurd this (by decide)
  have hbox := hf.blk hz.box (hne hz.box)
  have hs : Fr w1 (w1.setCell ⟨g, 0, none⟩ v1) (fun k => k = g) := (Fr.refl w1 _).setCell _ _ (fun _ => rfl)
  have hp := hz.out.pushF (r := d.fields[j]) (v' := v1) hg (own_weaken hu hs0) (fun k hk hx => by
    have h1 := (World.ownsRow.lt hu k hk).1
    have h2 := (h.out.foot hx).2.1
    omega) (by simpa [hlen] using ho)
  have htk : d.fields.take j ++ [d.fields[j]] = d.fields.take (j + 1) := take_one' d.fields j hj
  simp only [htk] at hp
  exact ⟨(hz.below.trans (hf.below hz.below.size (fun k hk => (World.ownsRow.lt hz.out.f k hk.symm).1))).trans (hs.below (Nat.le_trans hz.below.size hf.size) (fun k hk => by rw [hk]; exact h.lo)),
    hs.blk (hf.blk hz.par (hne hz.par)) (fun e => h.ne.1 e.symm), hs.blk (hf.blk hz.res (hne hz.res)) (fun e => h.ne.2 e.symm), hbox.set 0 v1, hp.other hs (fun k hk => ⟨TRW, _, hk ▸ hbox, by decide, by decide, by decide⟩), h.lo, h.ne⟩

theorem copy_last {w0 : World} {v : WV} {d : WD} {pb g : Nat} {fv iv mv sv zv : Value} {us : List Value} {w w' : World} (hpl : w0.heap.size ≤ pb + 1) (h : CopyAt w0 v d pb g d.fields.length fv iv mv sv zv us w) (hf : Fr w w' (fun k => k = pb + 1)) :
    OutW w0.heap.size d fv iv mv sv zv us w' ∧ Below w0.heap.size w0 w' := by
  have h1 := h.out
  rw [List.take_length] at h1
  exact ⟨h1.other hf (fun k hk => ⟨TRW, _, hk ▸ h.res, by decide, by decide, by decide⟩), h.below.trans (hf.below h.below.size (fun k hk => by rw [hk]; exact hpl))⟩
theorem copy_box {w0 : World} {v : WV} {d : WD} {pb g j : Nat} {fv iv mv sv zv : Value} {us : List Value} {w w1 : World} (h : CopyAt w0 v d pb g j fv iv mv sv zv us w) (hg : w.grownBy w1 fv.ownBlock) : Blk w1 g TRW [fv, iv, mv, sv, zv] :=
  (Fr.of_grown hg).blk h.box (fun e2 => by
    obtain ⟨c, hc⟩ := owns_typed h.out.f _ e2.symm
    have := ((show Blk w _ TRI c from hc).inj h.box).1
    exact absurd this (by decide))

set_option maxHeartbeats 4000000 in
set_option maxRecDepth 100000 in
theorem ref_Copy (w : World) (v : WV) (d : WD) (hv : v.Reads w d) (hl : d.fields.length ≤ 1000000000 ∧ d.infos.length * 8 ≤ 140737488351232 ∧ d.marks.length ≤ 140737488351232 ∧ d.states.length * 8 ≤ 140737488351232 ∧ d.frozen.length ≤ 140737488351232) (hr : ∀ r ∈ d.fields, r.length * 8 ≤ 140737488351232) :
    Calls Try.prog 43 #[v.val d] w fun e w' => ∃ fv iv mv sv zv us, e = .returned (.agg #[fv, iv, mv, sv, zv]) ∧ OutW w.heap.size d fv iv mv sv zv us w' ∧ Below w.heap.size w w' := by
  refine calls_hide fun Q HQ => ?_
  have HQ' := Lib.hid HQ
  have HV := Lib.hid hv
  have HRr := Lib.hid hr
  have HL := Lib.hid hl
  have hba := (((Below.refl w.heap.size w).alloc (Nat.le_refl _) (.cells (v.cells d).toArray TRW)).alloc (by simp) (.cells #[.slice none 0 0, .slice none 0 0, .slice none 0 0, .slice none 0 0, .slice none 0 0] TRW)).drew
  have hb1 := ((Blk.new w TRW (v.cells d)).alloc (.cells #[.slice none 0 0, .slice none 0 0, .slice none 0 0, .slice none 0 0, .slice none 0 0] TRW)).drew
  have hb2 := (Blk.new (w.alloc (.cells (v.cells d).toArray TRW)) TRW zero5).drew
  rw [World.size_alloc] at hb2
  have HBA := Lib.hid hba
  have HB1 := Lib.hid hb1
  have HB2 := Lib.hid (show Blk ((w.alloc (.cells (v.cells d).toArray TRW)).alloc (.cells #[.slice none 0 0, .slice none 0 0, .slice none 0 0, .slice none 0 0, .slice none 0 0] TRW)).drew (w.heap.size + 1) TRW zero5 from hb2)
  clear HQ hv hr hl hba hb1 hb2
  go_enter Try.func43, Try.ntmps43
  go_wp2
  refine start_ (n := 19) (S := fun _ => True) (ds := []) #[false, false, false, false, false, false, false, false, false, false, false, false, false, false, false, false, false, false, false] (by kernel_rfl) rfl rfl trivial (fun _ => ?_)
  generalize ((w.alloc (.cells (v.cells d).toArray TRW)).alloc (.cells #[.slice none 0 0, .slice none 0 0, .slice none 0 0, .slice none 0 0, .slice none 0 0] TRW)).drew = wA at *
  have HC1 := Lib.hid (fun w' (hb : Below wA.heap.size wA w') => show w'.cell? ⟨w.heap.size, 1, none⟩ = some (.slice v.A1 d.infos.length v.c1) from pw_cell_below hb (HB1.out.cell 1))
  have HC2 := Lib.hid (fun w' (hb : Below wA.heap.size wA w') => show w'.cell? ⟨w.heap.size, 2, none⟩ = some (.slice v.A2 d.marks.length v.c2) from pw_cell_below hb (HB1.out.cell 2))
  have HC3 := Lib.hid (fun w' (hb : Below wA.heap.size wA w') => show w'.cell? ⟨w.heap.size, 3, none⟩ = some (.slice v.A3 d.states.length v.c3) from pw_cell_below hb (HB1.out.cell 3))
  have HC4 := Lib.hid (fun w' (hb : Below wA.heap.size wA w') => show w'.cell? ⟨w.heap.size, 4, none⟩ = some (.slice v.A4 d.frozen.length v.c4) from pw_cell_below hb (HB1.out.cell 4))
  have HR1 := Lib.hid (fun w' (hb : Below wA.heap.size wA w') => ((row1_of_C HV.out.h1).below HBA.out).below hb)
  have HR2 := Lib.hid (fun w' (hb : Below wA.heap.size wA w') => ((row1_of_C HV.out.h2).below HBA.out).below hb)
  have HR3 := Lib.hid (fun w' (hb : Below wA.heap.size wA w') => ((row1_of_C HV.out.h3).below HBA.out).below hb)
  have HR4 := Lib.hid (fun w' (hb : Below wA.heap.size wA w') => ((row1_of_C HV.out.h4).below HBA.out).below hb)
  have hpb : ∃ pb, pb = w.heap.size := ⟨_, rfl⟩
  obtain ⟨pb, hpb⟩ := hpb
  rw [← hpb]
  rw [← hpb] at HC1 HC2 HC3 HC4
  have HPB := Lib.hid hpb
  clear hpb
  refine grow_region (md := .any) (w0 := wA) (B := [0, 0, 2, 7, 0, 0, 32, 127, 0, 0, 512, 2047, 0, 0, 8192, 32767, 65535, 0, 262143]) [(0, 5), (1, 6), (2, 7), (3, 8), (4, 9), (5, 10), (6, 11), (7, 12), (8, 13), (9, 14), (10, 15), (11, 16), (12, 17), (13, 18), (14, 19), (15, 20), (16, 21), (17, 3)] [18] (fun i => [0, 3, 4, 7, 8, 11, 12, 15].contains i) (fun i => if i < 16 then i / 4 + 1 else 0) (fun i V w' => match i with
      | 0 => ∃ s, V 0 = .slice (some ⟨s, 0, none⟩) 0 0 ∧ Blk w' s TII [] ∧ wA.heap.size ≤ s
      | 1 => V 1 = .pointer (some ⟨pb, 1, none⟩)
      | 2 => V 2 = .slice v.A1 d.infos.length v.c1
      | 3 => w'.ownsRow wA.heap.size TII 1 (V 3) d.infos.length (d.infos.map (Value.int .i64))
      | 4 => ∃ s, V 4 = .slice (some ⟨s, 0, none⟩) 0 0 ∧ Blk w' s TBB [] ∧ wA.heap.size ≤ s
      | 5 => V 5 = .pointer (some ⟨pb, 2, none⟩)
      | 6 => V 6 = .slice v.A2 d.marks.length v.c2
      | 7 => w'.ownsRow wA.heap.size TBB 1 (V 7) d.marks.length (d.marks.map (Value.bool))
      | 8 => ∃ s, V 8 = .slice (some ⟨s, 0, none⟩) 0 0 ∧ Blk w' s TII [] ∧ wA.heap.size ≤ s
      | 9 => V 9 = .pointer (some ⟨pb, 3, none⟩)
      | 10 => V 10 = .slice v.A3 d.states.length v.c3
      | 11 => w'.ownsRow wA.heap.size TII 1 (V 11) d.states.length (d.states.map (Value.int .i64))
      | 12 => ∃ s, V 12 = .slice (some ⟨s, 0, none⟩) 0 0 ∧ Blk w' s TBB [] ∧ wA.heap.size ≤ s
      | 13 => V 13 = .pointer (some ⟨pb, 4, none⟩)
      | 14 => V 14 = .slice v.A4 d.frozen.length v.c4
      | 15 => w'.ownsRow wA.heap.size TBB 1 (V 15) d.frozen.length (d.frozen.map (Value.bool))
      | 16 => V 16 = .agg #[.slice none 0 0, V 3, V 7, V 11, V 15]
      | 17 => ∃ g, V 17 = .pointer (some ⟨g, 0, none⟩) ∧ Blk w' g TRW zero5 ∧ wA.heap.size ≤ g
      | _ => True) rfl (by kernel_rfl) (by kernel_rfl) (by kernel_rfl) (by kernel_rfl) (by kernel_rfl) (by kernel_rfl) (by kernel_rfl) (by kernel_rfl) ?_ ?_ ?_ ?_
  · intro e he V V' w' h hp
    simp only [List.mem_cons, List.not_mem_nil, or_false] at he
    rcases he with rfl | rfl | rfl | rfl | rfl | rfl | rfl | rfl | rfl | rfl | rfl | rfl | rfl | rfl | rfl | rfl | rfl | rfl
    · simp only [← h 0 (.inl rfl)]; exact hp
    · simp only [← h 1 (.inl rfl)]; exact hp
    · simp only [← h 2 (.inl rfl)]; exact hp
    · simp only [← h 3 (.inl rfl)]; exact hp
    · simp only [← h 4 (.inl rfl)]; exact hp
    · simp only [← h 5 (.inl rfl)]; exact hp
    · simp only [← h 6 (.inl rfl)]; exact hp
    · simp only [← h 7 (.inl rfl)]; exact hp
    · simp only [← h 8 (.inl rfl)]; exact hp
    · simp only [← h 9 (.inl rfl)]; exact hp
    · simp only [← h 10 (.inl rfl)]; exact hp
    · simp only [← h 11 (.inl rfl)]; exact hp
    · simp only [← h 12 (.inl rfl)]; exact hp
    · simp only [← h 13 (.inl rfl)]; exact hp
    · simp only [← h 14 (.inl rfl)]; exact hp
    · simp only [← h 15 (.inl rfl)]; exact hp
    · simp only [← h 16 (.inl rfl), ← h 3 (.inr (by kernel_rfl)), ← h 7 (.inr (by kernel_rfl)), ← h 11 (.inr (by kernel_rfl)), ← h 15 (.inr (by kernel_rfl))]; exact hp
    · simp only [← h 17 (.inl rfl)]; exact hp
  · intro e he V w1 w2 hp hb
    simp only [List.mem_cons, List.not_mem_nil, or_false] at he
    rcases he with rfl | rfl | rfl | rfl | rfl | rfl | rfl | rfl | rfl | rfl | rfl | rfl | rfl | rfl | rfl | rfl | rfl | rfl
    · exact let ⟨s, h1, h2, h3⟩ := hp; ⟨s, h1, (Fr.of_below0 (S := fun _ => False) hb).blk h2 id, h3⟩
    · exact hp
    · exact hp
    · exact owns_fr hp (Fr.of_below0 (S := fun _ => False) hb) (fun _ _ => id)
    · exact let ⟨s, h1, h2, h3⟩ := hp; ⟨s, h1, (Fr.of_below0 (S := fun _ => False) hb).blk h2 id, h3⟩
    · exact hp
    · exact hp
    · exact owns_fr hp (Fr.of_below0 (S := fun _ => False) hb) (fun _ _ => id)
    · exact let ⟨s, h1, h2, h3⟩ := hp; ⟨s, h1, (Fr.of_below0 (S := fun _ => False) hb).blk h2 id, h3⟩
    · exact hp
    · exact hp
    · exact owns_fr hp (Fr.of_below0 (S := fun _ => False) hb) (fun _ _ => id)
    · exact let ⟨s, h1, h2, h3⟩ := hp; ⟨s, h1, (Fr.of_below0 (S := fun _ => False) hb).blk h2 id, h3⟩
    · exact hp
    · exact hp
    · exact owns_fr hp (Fr.of_below0 (S := fun _ => False) hb) (fun _ _ => id)
    · exact hp
    · exact let ⟨s, h1, h2, h3⟩ := hp; ⟨s, h1, (Fr.of_below0 (S := fun _ => False) hb).blk h2 id, h3⟩
  · intro e he
    simp only [List.mem_cons, List.not_mem_nil, or_false] at he
    rcases he with rfl | rfl | rfl | rfl | rfl | rfl | rfl | rfl | rfl | rfl | rfl | rfl | rfl | rfl | rfl | rfl | rfl | rfl
    · intro V a w' hd ho hB
      refine ⟨_, rfl, rfl, fun K hK => ?_⟩
      refine value_ (w1 := w'.alloc (.cells #[] 3)) (v := .slice (some ⟨w'.heap.size, 0, none⟩) 0 0) rfl rfl ?_ (hK.out _ _ ((Below.refl _ _).alloc (Nat.le_refl _) _) ⟨w'.heap.size, setV_self _ _ _, Blk.new w' TII [], hB.size⟩ (fun _ k hk => ?_))
      · clear hd ho hK; go_simp
      · have hk' : k = w'.heap.size := by simpa [Value.ownBlock] using hk.symm
        subst hk'
        exact ⟨by simp, .inl (Nat.le_refl _)⟩
    · intro V a w' hd ho hB
      have e1 : a.tmps[1]? = some (.pointer (some ⟨pb, 0, none⟩)) := (ho 1 (by decide)).trans rfl
      refine ⟨_, rfl, rfl, fun K hK => ?_⟩
      clear hd ho
      refine value_ (w1 := w') (v := .pointer (some ⟨pb, 1, none⟩)) rfl rfl ?_ (hK.out _ _ (Below.refl _ _) (setV_self _ _ _) (fun h => absurd h (by decide)))
      go_simp
    · intro V a w' hd ho hB
      obtain ⟨e6, p6, o6⟩ := hd (1, 6) (by decide) (by kernel_rfl)
      rw [show V 1 = .pointer (some ⟨pb, 1, none⟩) from p6] at e6
      have hc := (HC1.out w' hB)
      refine ⟨_, rfl, rfl, fun K hK => ?_⟩
      clear hd ho
      refine value_ (w1 := w') (v := .slice v.A1 d.infos.length v.c1) rfl rfl ?_ (hK.out _ _ (Below.refl _ _) (setV_self _ _ _) (fun h => absurd h (by decide)))
      go_simp
    · intro V a w' hd ho hB
      obtain ⟨e5, p5, o5⟩ := hd (0, 5) (by decide) (by kernel_rfl)
      obtain ⟨e7, p7, o7⟩ := hd (2, 7) (by decide) (by kernel_rfl)
      rw [show V 2 = .slice v.A1 d.infos.length v.c1 from p7] at e7
      refine ⟨_, rfl, rfl, fun K hK => ?_⟩
      obtain ⟨s, hs, hbk, hle⟩ := p5
      rw [hs] at e5
      obtain ⟨v1, w1, hrun, hbl, hown, hfp⟩ := run_append_lit (P := Try.prog) (w := w') (s := s) 23 23 3 (.int .i64 0) 8 Try.underlying23 pinfo_int rfl hbk (HR1.out w' hB) (one_int _) (by simp only [maxLen]; have := HL.out; omega) (by have := HL.out; omega) wA.heap.size hle
      refine value_ (w1 := w1) (v := v1) rfl rfl (append_exec rfl (eval_of e5) (eval_of e7) hrun) (hK.out _ _ hbl (by show w1.ownsRow _ _ _ (setV V 3 v1 3) _ _; rw [setV_self]; exact hown) (fun _ k hk => ?_))
      obtain ⟨h1, h2⟩ := hfp k hk
      refine ⟨h1, ?_⟩
      rcases h2 with h2 | h2
      · exact .inl h2
      · exact .inr ⟨(0, 5), by decide, by kernel_rfl, rfl, by show (V 0).ownBlock = _; rw [hs, h2]; rfl⟩
    · intro V a w' hd ho hB
      refine ⟨_, rfl, rfl, fun K hK => ?_⟩
      refine value_ (w1 := w'.alloc (.cells #[] 4)) (v := .slice (some ⟨w'.heap.size, 0, none⟩) 0 0) rfl rfl ?_ (hK.out _ _ ((Below.refl _ _).alloc (Nat.le_refl _) _) ⟨w'.heap.size, setV_self _ _ _, Blk.new w' TBB [], hB.size⟩ (fun _ k hk => ?_))
      · clear hd ho hK; go_simp
      · have hk' : k = w'.heap.size := by simpa [Value.ownBlock] using hk.symm
        subst hk'
        exact ⟨by simp, .inl (Nat.le_refl _)⟩
    · intro V a w' hd ho hB
      have e1 : a.tmps[1]? = some (.pointer (some ⟨pb, 0, none⟩)) := (ho 1 (by decide)).trans rfl
      refine ⟨_, rfl, rfl, fun K hK => ?_⟩
      clear hd ho
      refine value_ (w1 := w') (v := .pointer (some ⟨pb, 2, none⟩)) rfl rfl ?_ (hK.out _ _ (Below.refl _ _) (setV_self _ _ _) (fun h => absurd h (by decide)))
      go_simp
    · intro V a w' hd ho hB
      obtain ⟨e10, p10, o10⟩ := hd (5, 10) (by decide) (by kernel_rfl)
      rw [show V 5 = .pointer (some ⟨pb, 2, none⟩) from p10] at e10
      have hc := (HC2.out w' hB)
      refine ⟨_, rfl, rfl, fun K hK => ?_⟩
      clear hd ho
      refine value_ (w1 := w') (v := .slice v.A2 d.marks.length v.c2) rfl rfl ?_ (hK.out _ _ (Below.refl _ _) (setV_self _ _ _) (fun h => absurd h (by decide)))
      go_simp
    · intro V a w' hd ho hB
      obtain ⟨e9, p9, o9⟩ := hd (4, 9) (by decide) (by kernel_rfl)
      obtain ⟨e11, p11, o11⟩ := hd (6, 11) (by decide) (by kernel_rfl)
      rw [show V 6 = .slice v.A2 d.marks.length v.c2 from p11] at e11
      refine ⟨_, rfl, rfl, fun K hK => ?_⟩
      obtain ⟨s, hs, hbk, hle⟩ := p9
      rw [hs] at e9
      obtain ⟨v1, w1, hrun, hbl, hown, hfp⟩ := run_append_lit (P := Try.prog) (w := w') (s := s) 24 24 4 (.bool false) 1 Try.underlying24 pinfo_bool rfl hbk (HR2.out w' hB) (one_bool _) (by simp only [maxLen]; have := HL.out; omega) (by have := HL.out; omega) wA.heap.size hle
      refine value_ (w1 := w1) (v := v1) rfl rfl (append_exec rfl (eval_of e9) (eval_of e11) hrun) (hK.out _ _ hbl (by show w1.ownsRow _ _ _ (setV V 7 v1 7) _ _; rw [setV_self]; exact hown) (fun _ k hk => ?_))
      obtain ⟨h1, h2⟩ := hfp k hk
      refine ⟨h1, ?_⟩
      rcases h2 with h2 | h2
      · exact .inl h2
      · exact .inr ⟨(4, 9), by decide, by kernel_rfl, rfl, by show (V 4).ownBlock = _; rw [hs, h2]; rfl⟩
    · intro V a w' hd ho hB
      refine ⟨_, rfl, rfl, fun K hK => ?_⟩
      refine value_ (w1 := w'.alloc (.cells #[] 3)) (v := .slice (some ⟨w'.heap.size, 0, none⟩) 0 0) rfl rfl ?_ (hK.out _ _ ((Below.refl _ _).alloc (Nat.le_refl _) _) ⟨w'.heap.size, setV_self _ _ _, Blk.new w' TII [], hB.size⟩ (fun _ k hk => ?_))
      · clear hd ho hK; go_simp
      · have hk' : k = w'.heap.size := by simpa [Value.ownBlock] using hk.symm
        subst hk'
        exact ⟨by simp, .inl (Nat.le_refl _)⟩
    · intro V a w' hd ho hB
      have e1 : a.tmps[1]? = some (.pointer (some ⟨pb, 0, none⟩)) := (ho 1 (by decide)).trans rfl
      refine ⟨_, rfl, rfl, fun K hK => ?_⟩
      clear hd ho
      refine value_ (w1 := w') (v := .pointer (some ⟨pb, 3, none⟩)) rfl rfl ?_ (hK.out _ _ (Below.refl _ _) (setV_self _ _ _) (fun h => absurd h (by decide)))
      go_simp
    · intro V a w' hd ho hB
      obtain ⟨e14, p14, o14⟩ := hd (9, 14) (by decide) (by kernel_rfl)
      rw [show V 9 = .pointer (some ⟨pb, 3, none⟩) from p14] at e14
      have hc := (HC3.out w' hB)
      refine ⟨_, rfl, rfl, fun K hK => ?_⟩
      clear hd ho
      refine value_ (w1 := w') (v := .slice v.A3 d.states.length v.c3) rfl rfl ?_ (hK.out _ _ (Below.refl _ _) (setV_self _ _ _) (fun h => absurd h (by decide)))
      go_simp
    · intro V a w' hd ho hB
      obtain ⟨e13, p13, o13⟩ := hd (8, 13) (by decide) (by kernel_rfl)
      obtain ⟨e15, p15, o15⟩ := hd (10, 15) (by decide) (by kernel_rfl)
      rw [show V 10 = .slice v.A3 d.states.length v.c3 from p15] at e15
      refine ⟨_, rfl, rfl, fun K hK => ?_⟩
      obtain ⟨s, hs, hbk, hle⟩ := p13
      rw [hs] at e13
      obtain ⟨v1, w1, hrun, hbl, hown, hfp⟩ := run_append_lit (P := Try.prog) (w := w') (s := s) 23 23 3 (.int .i64 0) 8 Try.underlying23 pinfo_int rfl hbk (HR3.out w' hB) (one_int _) (by simp only [maxLen]; have := HL.out; omega) (by have := HL.out; omega) wA.heap.size hle
      refine value_ (w1 := w1) (v := v1) rfl rfl (append_exec rfl (eval_of e13) (eval_of e15) hrun) (hK.out _ _ hbl (by show w1.ownsRow _ _ _ (setV V 11 v1 11) _ _; rw [setV_self]; exact hown) (fun _ k hk => ?_))
      obtain ⟨h1, h2⟩ := hfp k hk
      refine ⟨h1, ?_⟩
      rcases h2 with h2 | h2
      · exact .inl h2
      · exact .inr ⟨(8, 13), by decide, by kernel_rfl, rfl, by show (V 8).ownBlock = _; rw [hs, h2]; rfl⟩
    · intro V a w' hd ho hB
      refine ⟨_, rfl, rfl, fun K hK => ?_⟩
      refine value_ (w1 := w'.alloc (.cells #[] 4)) (v := .slice (some ⟨w'.heap.size, 0, none⟩) 0 0) rfl rfl ?_ (hK.out _ _ ((Below.refl _ _).alloc (Nat.le_refl _) _) ⟨w'.heap.size, setV_self _ _ _, Blk.new w' TBB [], hB.size⟩ (fun _ k hk => ?_))
      · clear hd ho hK; go_simp
      · have hk' : k = w'.heap.size := by simpa [Value.ownBlock] using hk.symm
        subst hk'
        exact ⟨by simp, .inl (Nat.le_refl _)⟩
    · intro V a w' hd ho hB
      have e1 : a.tmps[1]? = some (.pointer (some ⟨pb, 0, none⟩)) := (ho 1 (by decide)).trans rfl
      refine ⟨_, rfl, rfl, fun K hK => ?_⟩
      clear hd ho
      refine value_ (w1 := w') (v := .pointer (some ⟨pb, 4, none⟩)) rfl rfl ?_ (hK.out _ _ (Below.refl _ _) (setV_self _ _ _) (fun h => absurd h (by decide)))
      go_simp
    · intro V a w' hd ho hB
      obtain ⟨e18, p18, o18⟩ := hd (13, 18) (by decide) (by kernel_rfl)
      rw [show V 13 = .pointer (some ⟨pb, 4, none⟩) from p18] at e18
      have hc := (HC4.out w' hB)
      refine ⟨_, rfl, rfl, fun K hK => ?_⟩
      clear hd ho
      refine value_ (w1 := w') (v := .slice v.A4 d.frozen.length v.c4) rfl rfl ?_ (hK.out _ _ (Below.refl _ _) (setV_self _ _ _) (fun h => absurd h (by decide)))
      go_simp
    · intro V a w' hd ho hB
      obtain ⟨e17, p17, o17⟩ := hd (12, 17) (by decide) (by kernel_rfl)
      obtain ⟨e19, p19, o19⟩ := hd (14, 19) (by decide) (by kernel_rfl)
      rw [show V 14 = .slice v.A4 d.frozen.length v.c4 from p19] at e19
      refine ⟨_, rfl, rfl, fun K hK => ?_⟩
      obtain ⟨s, hs, hbk, hle⟩ := p17
      rw [hs] at e17
      obtain ⟨v1, w1, hrun, hbl, hown, hfp⟩ := run_append_lit (P := Try.prog) (w := w') (s := s) 24 24 4 (.bool false) 1 Try.underlying24 pinfo_bool rfl hbk (HR4.out w' hB) (one_bool _) (by simp only [maxLen]; have := HL.out; omega) (by have := HL.out; omega) wA.heap.size hle
      refine value_ (w1 := w1) (v := v1) rfl rfl (append_exec rfl (eval_of e17) (eval_of e19) hrun) (hK.out _ _ hbl (by show w1.ownsRow _ _ _ (setV V 15 v1 15) _ _; rw [setV_self]; exact hown) (fun _ k hk => ?_))
      obtain ⟨h1, h2⟩ := hfp k hk
      refine ⟨h1, ?_⟩
      rcases h2 with h2 | h2
      · exact .inl h2
      · exact .inr ⟨(12, 17), by decide, by kernel_rfl, rfl, by show (V 12).ownBlock = _; rw [hs, h2]; rfl⟩
    · intro V a w' hd ho hB
      obtain ⟨e8, p8, o8⟩ := hd (3, 8) (by decide) (by kernel_rfl)
      obtain ⟨e12, p12, o12⟩ := hd (7, 12) (by decide) (by kernel_rfl)
      obtain ⟨e16, p16, o16⟩ := hd (11, 16) (by decide) (by kernel_rfl)
      obtain ⟨e20, p20, o20⟩ := hd (15, 20) (by decide) (by kernel_rfl)
      obtain ⟨A1, c1, x1, _, _⟩ := owns_slice p8
      obtain ⟨A2, c2, x2, _, _⟩ := owns_slice p12
      obtain ⟨A3, c3, x3, _, _⟩ := owns_slice p16
      obtain ⟨A4, c4, x4, _, _⟩ := owns_slice p20
      rw [x1] at e8
      rw [x2] at e12
      rw [x3] at e16
      rw [x4] at e20
      refine ⟨_, rfl, rfl, fun K hK => ?_⟩
      refine value_ (w1 := w') (v := .agg #[.slice none 0 0, V 3, V 7, V 11, V 15]) rfl rfl ?_ (hK.out _ _ (Below.refl _ _) (setV_self _ _ _) (fun h => absurd h (by decide)))
      clear hd ho hK
      rw [x1, x2, x3, x4]
      go_simp
    · intro V a w' hd ho hB
      refine ⟨_, rfl, rfl, fun K hK => ?_⟩
      refine value_ (w1 := w'.alloc (.cells zero5.toArray TRW)) (v := .pointer (some ⟨w'.heap.size, 0, none⟩)) rfl rfl ?_ (hK.out _ _ ((Below.refl _ _).alloc (Nat.le_refl _) _) ⟨w'.heap.size, setV_self _ _ _, Blk.new w' TRW zero5, hB.size⟩ (fun h => absurd h (by decide)))
      clear hd ho hK
      go_simp
  · intro V a w' hfr hB hP hap hlt
    have P0 := hP (0, 5) (by decide)
    have P1 := hP (1, 6) (by decide)
    have P2 := hP (2, 7) (by decide)
    have P3 := hP (3, 8) (by decide)
    have P4 := hP (4, 9) (by decide)
    have P5 := hP (5, 10) (by decide)
    have P6 := hP (6, 11) (by decide)
    have P7 := hP (7, 12) (by decide)
    have P8 := hP (8, 13) (by decide)
    have P9 := hP (9, 14) (by decide)
    have P10 := hP (10, 15) (by decide)
    have P11 := hP (11, 16) (by decide)
    have P12 := hP (12, 17) (by decide)
    have P13 := hP (13, 18) (by decide)
    have P14 := hP (14, 19) (by decide)
    have P15 := hP (15, 20) (by decide)
    have P16 := hP (16, 21) (by decide)
    have P17 := hP (17, 3) (by decide)
    clear hP
    obtain ⟨g, hg, hgb, hgl⟩ := P17
    subst hfr
    simp only [vrows, List.map_cons, List.map_nil, putSel, if_true, Act.put, List.setIfInBounds_toArray, List.set_cons_zero, List.set_cons_succ]
    have hst := run_store_run (P := Try.prog) (w := w') (g := g) (o := 0) TRW (.agg #[.slice none 0 0, V 3, V 7, V 11, V 15]) [.slice none 0 0, V 3, V 7, V 11, V 15] hgb rfl wsizeR (by simp [zero5]) (by obtain ⟨A1, c1, x1, _, _⟩ := owns_slice P3; obtain ⟨A2, c2, x2, _, _⟩ := owns_slice P7; obtain ⟨A3, c3, x3, _, _⟩ := owns_slice P11; obtain ⟨A4, c4, x4, _, _⟩ := owns_slice P15; rw [x1, x2, x3, x4]; intro q hq; simp only [List.mem_cons, List.not_mem_nil, or_false] at hq; rcases hq with rfl | rfl | rfl | rfl | rfl <;> rfl)
    refine seq_skip rfl rfl rfl (store_exec rfl (eval_of (by first | rfl | exact congrArg some hg)) (eval_of (by exact congrArg some P16)) hst) ?_
    obtain ⟨hgz, hfz⟩ := res_endR hgb (.slice none 0 0) (V 3) (V 7) (V 11) (V 15) _ rfl
    have HOUT := Lib.hid (copy_start P3 P7 P11 P15 (hap (3, 8) (by decide) (11, 16) (by decide) (by decide)) (hap (7, 12) (by decide) (15, 20) (by decide) (by decide)) hgb hfz)
    have hpb := HPB.out
    have HPL := Lib.hid (show w.heap.size ≤ pb + 1 by omega)
    have hBW := (HBA.out.trans (hB.mono HBA.out.size)).trans (hfz.below (Nat.le_trans HBA.out.size hB.size) (fun k hk => by rw [hk]; exact Nat.le_trans HBA.out.size hgl))
    have hPW := hfz.blk ((Fr.of_below0 (S := fun _ => False) hB).blk HB1.out id) (fun h => by have := HB1.out.lt; omega)
    have hRW := hfz.blk ((Fr.of_below0 (S := fun _ => False) hB).blk HB2.out id) (fun h => by have := HB2.out.lt; omega)
    have HAT := Lib.hid (show CopyAt w v d pb g 0 (.slice none 0 0) (V 3) (V 7) (V 11) (V 15) [] (w'.setCells g 0 [.slice none 0 0, V 3, V 7, V 11, V 15]) from ⟨hBW, by rw [hpb]; exact hPW, by rw [hpb]; exact hRW, hgz, HOUT.out.lower HBA.out.size, Nat.le_trans HBA.out.size hgl, by have := HB1.out.lt; omega, by have := HB2.out.lt; omega⟩)
    rw [hg]
    clear hpb hBW hPW hRW hst hgz hfz hgb hap hlt P0 P1 P2 P3 P4 P5 P6 P7 P8 P9 P10 P11 P12 P13 P14 P15 P16 HC1 HC2 HC3 HC4 HR1 HR2 HR3 HR4 hB hg HB1 HB2 HPB HOUT
    skip
    generalize w'.setCells g 0 [.slice none 0 0, V 3, V 7, V 11, V 15] = wB at *
    generalize V 3 = iv at *
    generalize V 7 = mv at *
    generalize V 11 = sv at *
    generalize V 15 = zv at *
    refine seq_nil ?_
    go_wp2
    go_loopw [4] (fun k wr => ∃ j : Nat, j ≤ d.fields.length ∧ k = .int .i64 j ∧ ∃ fv us, CopyAt w v d pb g j fv iv mv sv zv us wr) (fun k _ => d.fields.length - (intOf k).toNat)
    case atStart => exact ⟨0, Nat.zero_le _, rfl, _, _, HAT.out⟩
    case round =>
      clear HAT
      obtain ⟨j, hj, rfl, fv, us, hat⟩ := hrel
      have HAT := Lib.hid hat
      have hp0 : wr.cell? ⟨pb, 0, none⟩ = some (.slice v.A0 d.fields.length v.c0) := hat.par.cell 0
      have hg0 : wr.cell? ⟨g, 0, none⟩ = some fv := hat.box.cell 0
      have hlb : d.fields.length ≤ 1000000000 := HL.out.1
      clear hat hgl
      by_cases hlt : j < d.fields.length
      · obtain ⟨ad, hA, A', c', hr0, _, hrow⟩ := row_at HV.out.h0 hlt
        have hrl := HRr.out _ (List.getElem_mem hlt)
        have HROW := Lib.hid (fun w' (hb : Below wr.drew.heap.size wr.drew w') => ((row1_of_C hrow).below HAT.out.below).below (w := wr.drew) hb)
        have HR0 := Lib.hid (fun w' (hb : Below wr.drew.heap.size wr.drew w') => pw_cell_below (w := wr.drew) hb (pw_cell_below HAT.out.below hr0))
        have HP0 := Lib.hid (fun w' (hb : Below wr.drew.heap.size wr.drew w') => pw_cell_below (w := wr.drew) hb hp0)
        have HG0 := Lib.hid (fun w' (hb : Below wr.drew.heap.size wr.drew w') => pw_cell_below (w := wr.drew) hb hg0)
        have HFIN := Lib.hid (fun wz w1 u v1 => copy_round (wz := wz) (w1 := w1) (u := u) (v1 := v1) HAT.out hlt)
        have HEX := Lib.hid (owns_slice HAT.out.out.f)
        generalize d.fields[j] = row at *
        obtain ⟨A0, c0, A1, c1, A2, c2, A3, c3, A4, c4⟩ := v
        simp only at hA hp0
        subst hA
        clear hr0 hrow
        go_wp2
        refine start_ (n := 13) (S := fun _ => True) (ds := []) #[false, false, false, false, false, false, false, false, false, false, false, false, false] (by kernel_rfl) rfl rfl trivial (fun _ => ?_)
        have HBQ := Lib.hid (show ∀ w', Below wr.drew.heap.size wr.drew w' → Below wr.heap.size wr w' from fun _ h => ⟨h.os, h.tape, h.output, h.size, h.block⟩)
        have HSZ := Lib.hid (show wr.drew.heap.size = wr.heap.size from rfl)
        generalize wr.drew = wq at *
        refine grow_region (md := .any) (w0 := wq) (B := [0, 1, 0, 0, 8, 0, 56, 120, 252, 508, 1023, 2047, 4095]) [(0, 29), (1, 30), (2, 31), (3, 32), (4, 33), (5, 34), (6, 35), (7, 36), (8, 37), (9, 38)] [10, 11, 12] (fun i => [2, 8].contains i) (fun i => 1) (fun i V w' => match i with
            | 0 => V 0 = .pointer (some ⟨g, 0, none⟩)
            | 1 => V 1 = fv
            | 2 => ∃ s, V 2 = .slice (some ⟨s, 0, none⟩) 0 0 ∧ Blk w' s TII [] ∧ wq.heap.size ≤ s
            | 3 => V 3 = .pointer (some ⟨pb, 0, none⟩)
            | 4 => V 4 = .slice (some ad) d.fields.length c0
            | 5 => V 5 = .int .i64 j
            | 6 => V 6 = .pointer (some (ad.add j))
            | 7 => V 7 = .slice A' row.length c'
            | 8 => w'.ownsRow wq.heap.size TII 1 (V 8) row.length (row.map (Value.int .i64))
            | 9 => ∃ s, V 9 = .slice (some ⟨s, 0, none⟩) 1 1 ∧ Blk w' s TRI [V 8]
            | _ => True) rfl (by kernel_rfl) (by kernel_rfl) (by kernel_rfl) (by kernel_rfl) (by kernel_rfl) (by kernel_rfl) (by kernel_rfl) (by kernel_rfl) ?_ ?_ ?_ ?_
        · intro e he V V' w' h hp
          simp only [List.mem_cons, List.not_mem_nil, or_false] at he
          rcases he with rfl | rfl | rfl | rfl | rfl | rfl | rfl | rfl | rfl | rfl
          · simp only [← h 0 (.inl rfl)]; exact hp
          · simp only [← h 1 (.inl rfl)]; exact hp
          · simp only [← h 2 (.inl rfl)]; exact hp
          · simp only [← h 3 (.inl rfl)]; exact hp
          · simp only [← h 4 (.inl rfl)]; exact hp
          · simp only [← h 5 (.inl rfl)]; exact hp
          · simp only [← h 6 (.inl rfl)]; exact hp
          · simp only [← h 7 (.inl rfl)]; exact hp
          · simp only [← h 8 (.inl rfl)]; exact hp
          · simp only [← h 9 (.inl rfl), ← h 8 (.inr (by kernel_rfl))]; exact hp
        · intro e he V w1 w2 hp hb
          simp only [List.mem_cons, List.not_mem_nil, or_false] at he
          rcases he with rfl | rfl | rfl | rfl | rfl | rfl | rfl | rfl | rfl | rfl
          · exact hp
          · exact hp
          · exact let ⟨s, h1, h2, h3⟩ := hp; ⟨s, h1, (Fr.of_below0 (S := fun _ => False) hb).blk h2 id, h3⟩
          · exact hp
          · exact hp
          · exact hp
          · exact hp
          · exact hp
          · exact owns_fr hp (Fr.of_below0 (S := fun _ => False) hb) (fun _ _ => id)
          · exact let ⟨s, h1, h2⟩ := hp; ⟨s, h1, (Fr.of_below0 (S := fun _ => False) hb).blk h2 id⟩
        · intro e he
          simp only [List.mem_cons, List.not_mem_nil, or_false] at he
          rcases he with rfl | rfl | rfl | rfl | rfl | rfl | rfl | rfl | rfl | rfl
          · intro V a w' hd ho hB
            have e3 : a.tmps[3]? = some (.pointer (some ⟨g, 0, none⟩)) := (ho 3 (by decide)).trans rfl
            refine ⟨_, rfl, rfl, fun K hK => ?_⟩
            clear hd ho
            refine value_ (w1 := w') (v := .pointer (some ⟨g, 0, none⟩)) rfl rfl ?_ (hK.out _ _ (Below.refl _ _) (setV_self _ _ _) (fun h => absurd h (by decide)))
            go_simp
          · intro V a w' hd ho hB
            obtain ⟨e29, p29, o29⟩ := hd (0, 29) (by decide) (by kernel_rfl)
            rw [show V 0 = .pointer (some ⟨g, 0, none⟩) from p29] at e29
            have hc := HG0.out w' hB
            obtain ⟨Af, cf, xf, _, _⟩ := HEX.out
            refine ⟨_, rfl, rfl, fun K hK => ?_⟩
            clear hd ho
            refine value_ (w1 := w') (v := fv) rfl rfl ?_ (hK.out _ _ (Below.refl _ _) (setV_self _ _ _) (fun h => absurd h (by decide)))
            rw [xf] at hc ⊢
            go_simp
          · intro V a w' hd ho hB
            refine ⟨_, rfl, rfl, fun K hK => ?_⟩
            refine value_ (w1 := w'.alloc (.cells #[] 3)) (v := .slice (some ⟨w'.heap.size, 0, none⟩) 0 0) rfl rfl ?_ (hK.out _ _ ((Below.refl _ _).alloc (Nat.le_refl _) _) ⟨w'.heap.size, setV_self _ _ _, Blk.new w' TII [], hB.size⟩ (fun _ k hk => ?_))
            · clear hd ho hK; go_simp
            · have hk' : k = w'.heap.size := by simpa [Value.ownBlock] using hk.symm
              subst hk'
              exact ⟨by simp, .inl (Nat.le_refl _)⟩
          · intro V a w' hd ho hB
            have e1 : a.tmps[1]? = some (.pointer (some ⟨pb, 0, none⟩)) := (ho 1 (by decide)).trans rfl
            refine ⟨_, rfl, rfl, fun K hK => ?_⟩
            clear hd ho
            refine value_ (w1 := w') (v := .pointer (some ⟨pb, 0, none⟩)) rfl rfl ?_ (hK.out _ _ (Below.refl _ _) (setV_self _ _ _) (fun h => absurd h (by decide)))
            go_simp
          · intro V a w' hd ho hB
            obtain ⟨e32, p32, o32⟩ := hd (3, 32) (by decide) (by kernel_rfl)
            rw [show V 3 = .pointer (some ⟨pb, 0, none⟩) from p32] at e32
            have hc := HP0.out w' hB
            refine ⟨_, rfl, rfl, fun K hK => ?_⟩
            clear hd ho
            refine value_ (w1 := w') (v := .slice (some ad) d.fields.length c0) rfl rfl ?_ (hK.out _ _ (Below.refl _ _) (setV_self _ _ _) (fun h => absurd h (by decide)))
            go_simp
          · intro V a w' hd ho hB
            have e4 : a.tmps[4]? = some (.int .i64 j) := (ho 4 (by decide)).trans rfl
            refine ⟨_, rfl, rfl, fun K hK => ?_⟩
            clear hd ho
            refine value_ (w1 := w') (v := .int .i64 j) rfl rfl ?_ (hK.out _ _ (Below.refl _ _) (setV_self _ _ _) (fun h => absurd h (by decide)))
            go_simp
          · intro V a w' hd ho hB
            obtain ⟨e33, p33, o33⟩ := hd (4, 33) (by decide) (by kernel_rfl)
            rw [show V 4 = .slice (some ad) d.fields.length c0 from p33] at e33
            obtain ⟨e34, p34, o34⟩ := hd (5, 34) (by decide) (by kernel_rfl)
            rw [show V 5 = .int .i64 j from p34] at e34
            refine ⟨_, rfl, rfl, fun K hK => ?_⟩
            clear hd ho
            refine value_ (w1 := w') (v := .pointer (some (ad.add j))) rfl rfl ?_ (hK.out _ _ (Below.refl _ _) (setV_self _ _ _) (fun h => absurd h (by decide)))
            go_simp
          · intro V a w' hd ho hB
            obtain ⟨e35, p35, o35⟩ := hd (6, 35) (by decide) (by kernel_rfl)
            rw [show V 6 = .pointer (some (ad.add j)) from p35] at e35
            have hc := HR0.out w' hB
            refine ⟨_, rfl, rfl, fun K hK => ?_⟩
            clear hd ho
            refine value_ (w1 := w') (v := .slice A' row.length c') rfl rfl ?_ (hK.out _ _ (Below.refl _ _) (setV_self _ _ _) (fun h => absurd h (by decide)))
            go_simp
          · intro V a w' hd ho hB
            obtain ⟨e31, p31, o31⟩ := hd (2, 31) (by decide) (by kernel_rfl)
            obtain ⟨e36, p36, o36⟩ := hd (7, 36) (by decide) (by kernel_rfl)
            rw [show V 7 = .slice A' row.length c' from p36] at e36
            refine ⟨_, rfl, rfl, fun K hK => ?_⟩
            obtain ⟨s, hs, hbk, hle⟩ := p31
            rw [hs] at e31
            obtain ⟨v1, w1, hrun, hbl, hown, hfp⟩ := run_append_lit (P := Try.prog) (w := w') (s := s) 23 23 3 (.int .i64 0) 8 Try.underlying23 pinfo_int rfl hbk (HROW.out w' hB) (one_int _) (by simp only [maxLen]; omega) (by omega) wq.heap.size hle
            refine value_ (w1 := w1) (v := v1) rfl rfl (append_exec rfl (eval_of e31) (eval_of e36) hrun) (hK.out _ _ hbl (by show w1.ownsRow _ _ _ (setV V 8 v1 8) _ _; rw [setV_self]; exact hown) (fun _ k hk => ?_))
            obtain ⟨h1, h2⟩ := hfp k hk
            refine ⟨h1, ?_⟩
            rcases h2 with h2 | h2
            · exact .inl h2
            · exact .inr ⟨(2, 31), by decide, by kernel_rfl, rfl, by show (V 2).ownBlock = _; rw [hs, h2]; rfl⟩
          · intro V a w' hd ho hB
            obtain ⟨e37, p37, o37⟩ := hd (8, 37) (by decide) (by kernel_rfl)
            obtain ⟨A1, c1, x1, _, _⟩ := owns_slice p37
            rw [x1] at e37
            refine ⟨_, rfl, rfl, fun K hK => ?_⟩
            refine value_ (w1 := w'.alloc (.cells #[V 8] TRI)) (v := .slice (some ⟨w'.heap.size, 0, none⟩) 1 1) rfl rfl ?_ (hK.out _ _ ((Below.refl _ _).alloc (Nat.le_refl _) _) ⟨w'.heap.size, setV_self _ _ _, Blk.new w' TRI [V 8]⟩ (fun h => absurd h (by decide)))
            clear hd ho hK
            rw [x1]
            go_simp
        · intro V a w' hfr hB hP hap hlt
          have P0 := hP (0, 29) (by decide)
          have P1 := hP (1, 30) (by decide)
          have P2 := hP (2, 31) (by decide)
          have P3 := hP (3, 32) (by decide)
          have P4 := hP (4, 33) (by decide)
          have P5 := hP (5, 34) (by decide)
          have P6 := hP (6, 35) (by decide)
          have P7 := hP (7, 36) (by decide)
          have P8 := hP (8, 37) (by decide)
          have P9 := hP (9, 38) (by decide)
          clear hP
          obtain ⟨s, hs, hsb⟩ := P9
          have hbr := HBQ.out _ hB
          have hz := HAT.out.more hbr
          obtain ⟨Af, cf, xf, _, _⟩ := HEX.out
          obtain ⟨Au, cu, xu, _, _⟩ := owns_slice P8
          obtain ⟨i0, hi, hz0, hz1, hz2⟩ := info_parts pinfo_row
          have hlen : (d.fields.take j).length = j := by simp; omega
          obtain ⟨v1, w1, hrun, hown, hgrow, _, _⟩ := run_append_own_at (P := Try.prog) w' w.heap.size 22 22 TRI i0 (.slice none 0 0) 1 24 Try.underlying22 hi hz0 hz1 hz2 rfl (by decide) fv (d.fields.take j).length us hz.out.f ⟨s, 0, none⟩ 1 1 [V 8] rfl (fun q u hq => by rw [Go.Proofs.YtphhdmopfmelbaaW.PrintWords.add_plain]; exact (hsb.cell q).trans hq) (by rw [xu]; intro u hu; simp only [List.mem_singleton] at hu; subst hu; rfl) (by simp only [maxLen]; omega) (by omega) hz.below.size
          rw [hlen] at hown
          have hnx := HFIN.out w' w1 (V 8) v1 hbr (by have := P8; rw [HSZ.out] at this; exact this) hgrow hown
          have hbx := copy_box hz hgrow
          obtain ⟨A9, c9, x9, _, _⟩ := owns_slice hown
          have hst := run_store_run (P := Try.prog) (w := w1) (g := g) (o := 0) 22 v1 [v1] hbx (by rw [x9]; rfl) (by kernel_rfl) (by simp) (by rw [x9]; intro q hq; simp only [List.mem_singleton] at hq; subst hq; rfl)
          have HNX := Lib.hid (show CopyAt _ _ _ _ _ _ _ _ _ _ _ _ (w1.setCells g 0 [v1]) from hnx)
          subst hfr
          simp only [vrows, List.map_cons, List.map_nil, putSel, if_true, Act.put, List.setIfInBounds_toArray, List.set_cons_zero, List.set_cons_succ]
          refine seq_value v1 rfl rfl rfl (append_exec rfl (eval_of (by exact congrArg some P1)) (eval_of (by exact congrArg some hs)) hrun) ?_
          simp only [Act.put, List.setIfInBounds_toArray, List.set_cons_zero, List.set_cons_succ]
          refine seq_value (w1 := w1) (.pointer (some ⟨g, 0, none⟩)) rfl rfl rfl ?_ ?_
          · clear hnx hbx hgrow hown hrun hz hst; go_simp
          simp only [Act.put, List.setIfInBounds_toArray, List.set_cons_zero, List.set_cons_succ]
          refine seq_skip rfl rfl rfl (store_exec rfl (eval_of rfl) (eval_of rfl) hst) ?_
          generalize w1.setCells g 0 [v1] = wN at *
          clear hst hnx hbx hgrow hown hrun hz hbr hap P0 P1 P2 P3 P4 P5 P6 P7 P8 hB hs hsb HFIN HEX HP0 HG0 HR0 HROW HBQ HSZ xf xu x9 hlen hp0 hg0 HAT
          refine seq_nil ?_
          go_wp2
          go_roundw
          case rel => exact ⟨j + 1, by omega, by go_num, _, _, HNX.out⟩
          case measure => simp [intOf]; omega
      · have hje : j = d.fields.length := by omega
        subst hje
        have h1 := HAT.out
        have hb0 := h1.box.cell 0
        have hb1 := h1.box.cell 1
        have hb2 := h1.box.cell 2
        have hb3 := h1.box.cell 3
        have hb4 := h1.box.cell 4
        have hr0 := h1.res.cell 0
        have hr1 := h1.res.cell 1
        have hr2 := h1.res.cell 2
        have hr3 := h1.res.cell 3
        have hr4 := h1.res.cell 4
        have hf0 := h1.res.free ⟨pb + 1, 0, none⟩ rfl
        have hf1 := h1.res.free ⟨pb + 1, 1, none⟩ rfl
        have hf2 := h1.res.free ⟨pb + 1, 2, none⟩ rfl
        have hf3 := h1.res.free ⟨pb + 1, 3, none⟩ rfl
        have hf4 := h1.res.free ⟨pb + 1, 4, none⟩ rfl
        simp only [List.getElem?_cons_zero, List.getElem?_cons_succ] at hb0 hb1 hb2 hb3 hb4 hr0 hr1 hr2 hr3 hr4
        have HEND := Lib.hid (fun w' hf => copy_last HPL.out h1 (w' := w') hf)
        have HX := Lib.hid h1.out
        obtain ⟨Af, cf, ef, _, _⟩ := owns_slice HX.out.f
        obtain ⟨Ai, ci, ei, _, _⟩ := owns_slice HX.out.i
        obtain ⟨Am, cm, em, _, _⟩ := owns_slice HX.out.m
        obtain ⟨As, cs, es, _, _⟩ := owns_slice HX.out.s
        obtain ⟨Az, cz, ez, _, _⟩ := owns_slice HX.out.z
        clear HX
        simp only [List.take_length] at ef ei em es ez
        subst ef ei em es ez
        have HRES := Lib.hid h1.res
        clear h1 hlt hj HAT
        have HBLK := Lib.hid (fun wz e => res_endR HRES.out (.slice Af d.fields.length cf) (.slice Ai d.infos.length ci) (.slice Am d.marks.length cm) (.slice As d.states.length cs) (.slice Az d.frozen.length cz) wz e)
        go_wp2
        (try simp only [Exit.inBlock, Exit.then])
        refine bodyPost_ret (results_cell_row rfl _ _ (pb + 1) TRW _ (0, 0) _ rfl (HBLK.out _ rfl).1 Try.underlying43 rfl wsizeR) rfl ?_
        exact HQ'.out _ _ ⟨_, _, _, _, _, us, rfl, HEND.out _ (HBLK.out _ rfl).2⟩
end Go.Proofs.Ytphhdmopfmelbaa

/-
  A region that draws its order, whose operations make memory, but for some that store: each is shown once, whatever came up ahead of it. No program in sight.
-/
namespace Go.Proofs.Ytphhdmopfmelbaa
open Go.RowKit Go.Proofs.YtphhdmopfmelbaaW.PrintWords Go.Proofs.YtphhdmopfmelbaaW.PrintLast
set_option linter.unusedVariables false
set_option linter.unusedSimpArgs false

section
variable {P : Program} {ops : Array Oper} {Q : Exit → Act → World → Prop} {md : Region.Mode} {T : Bool × List (List Nat × List Nat)}
structure FlowI (a0 : Act) (w0 : World) (D : List (Nat × Tmp)) (E : List Nat) (Pr : Nat → (Nat → Bool) → (Nat → Value) → World → Prop) (b : Nat → Bool) (a : Act) (w : World) (V : Nat → Value) : Prop where
  frame : a = putSel a0 b (vrows D V)
  below : Below w0.heap.size w0 w
  pr : ∀ i ∈ D.map (·.1) ++ E, b i = true → Pr i b V w
/-- An operation with a value. -/
def FlowStep (P : Program) (ops : Array Oper) (Q : Exit → Act → World → Prop) (a0 : Act) (w0 : World) (B : List Nat) (D : List (Nat × Tmp)) (E : List Nat) (Pr : Nat → (Nat → Bool) → (Nat → Value) → World → Prop) (e : Nat × Tmp) : Prop :=
  ∀ b V a w, (∀ s ∈ E, (B.getD s 0).testBit e.1 = true → b s = false) → (∀ e' ∈ D, (B.getD e.1 0).testBit e'.1 = true → a.tmps[e'.2]? = some (V e'.1) ∧ Pr e'.1 b V w) → (∀ s, (∀ e' ∈ D, e'.2 ≠ s) → a.tmps[s]? = a0.tmps[s]?) → Below w0.heap.size w0 w →
    ∃ oi, ops[e.1]? = some oi ∧ oi.dst = some e.2 ∧ ∀ K : Act → World → Prop,
      Shut (∀ v w', Below w.heap.size w w' → Pr e.1 b (setV V e.1 v) w' → K (a.put (some e.2) v) w') →
      if Region.wanted oi (yielded ops a.tmps) = true then Oper.wp P oi a w K Q else K (a.put oi.dst undef) w
/-- A store. -/
def FlowStore (P : Program) (ops : Array Oper) (Q : Exit → Act → World → Prop) (a0 : Act) (w0 : World) (B : List Nat) (D : List (Nat × Tmp)) (E : List Nat) (Pr : Nat → (Nat → Bool) → (Nat → Value) → World → Prop) (s : Nat) : Prop :=
  ∀ b V a w, b s = false → (∀ e' ∈ D, (B.getD s 0).testBit e'.1 = true → a.tmps[e'.2]? = some (V e'.1) ∧ Pr e'.1 b V w) → (∀ t, (∀ e' ∈ D, e'.2 ≠ t) → a.tmps[t]? = a0.tmps[t]?) → Below w0.heap.size w0 w →
    ∃ oi, ops[s]? = some oi ∧ oi.dst = none ∧ ∀ K : Act → World → Prop,
      Shut (∀ w', Below w0.heap.size w0 w' → Pr s (up b s) V w' → (∀ i ∈ D.map (·.1) ++ E, i ≠ s → b i = true → Pr i b V w → Pr i (up b s) V w') → K a w') →
      if Region.wanted oi (yielded ops a.tmps) = true then Oper.wp P oi a w K Q else K (a.put oi.dst undef) w

theorem flow_region {l : Array Bool} {fuel : Nat} {a0 : Act} {w0 : World} {B : List Nat} (D : List (Nat × Tmp)) (E : List Nat) (Pr : Nat → (Nat → Bool) → (Nat → Value) → World → Prop) (hT : rtab md ops = T) (hB : bitsOf T.2 = B) (hw : waitsOk T.2 B = true) (hk : baseOk T.2 (D.map (·.1) ++ E) = true)
    (hl : (lof T.2.length (D.map (·.1) ++ E) (fun _ => false) == l.toList && (D.map (·.1) ++ E).length == fuel) = true)
    (hD2 : decide (D.map (·.2)).Nodup = true) (hsz : (D.all fun e => decide (e.2 < a0.tmps.size)) = true)
    (dep : ∀ i ∈ D.map (·.1) ++ E, ∀ b b' V V' w, (∀ s ∈ E, b s = b' s) → (∀ j, (j = i ∨ (B.getD i 0).testBit j = true) → V j = V' j) → Pr i b V w → Pr i b' V' w) (stab : ∀ i ∈ D.map (·.1) ++ E, ∀ b V w w', Pr i b V w → Below w.heap.size w w' → Pr i b V w')
    (hs : ∀ e ∈ D, FlowStep P ops Q a0 w0 B D E Pr e) (hE : ∀ s ∈ E, FlowStore P ops Q a0 w0 B D E Pr s)
    (hfin : ∀ b V a w, (∀ i ∈ D.map (·.1) ++ E, b i = true) → a = putSel a0 (fun _ => true) (vrows D V) → Below w0.heap.size w0 w → (∀ i ∈ D.map (·.1) ++ E, Pr i b V w) → Q .normal a w) :
    wpAnyLast P md ops Q (fun _ => True) [] fuel l a0 w0 := by
  have hnd := baseOk_nodup hk
  rw [List.nodup_append] at hnd
  have hD := hnd.1
  have hne : ∀ e ∈ D, ∀ s ∈ E, e.1 ≠ s := fun e he s hs h => hnd.2.2 e.1 (List.mem_map.2 ⟨e, he, rfl⟩) s hs h
  have hD2' := of_decide_eq_true hD2
  have hsz' : ∀ e ∈ D, e.2 < a0.tmps.size := fun e he => by simpa using List.all_eq_true.1 hsz e he
  have hO : ∀ i ∈ D.map (·.1) ++ E, (D.map (·.1) ++ E).contains i = true := fun i hi => List.contains_iff_mem.2 hi
  have hmD : ∀ e ∈ D, e.1 ∈ D.map (·.1) ++ E := fun e he => List.mem_append_left _ (List.mem_map.2 ⟨e, he, rfl⟩)
  have hmE : ∀ s ∈ E, s ∈ D.map (·.1) ++ E := fun s hs => List.mem_append_right _ hs
  refine inv_ (B := B) (D.map (·.1) ++ E) (fun b a w => ∃ V, FlowI a0 w0 D E Pr b a w V) hT hw hk hl ?_ ?_ ?_
  · refine ⟨fun _ => undef, ?_, Below.refl _ _, fun _ _ h => absurd h (by simp)⟩
    have : ∀ (L : List (Nat × Tmp × Value)) (a : Act), putSel a (fun _ => false) L = a := fun L => by
      induction L with
      | nil => intro a; rfl
      | cons x L ih => intro a; simp [putSel, ih]
    rw [this]
  · rintro i hi b a w ⟨V, h⟩ hb hon hoff
    have hdeps : ∀ e' ∈ D, (B.getD i 0).testBit e'.1 = true → a.tmps[e'.2]? = some (V e'.1) ∧ Pr e'.1 b V w := fun e' he' hbit => by
      have hb' := hon e'.1 (by rw [hO _ (hmD e' he'), hbit]; rfl)
      exact ⟨by rw [h.frame]; exact putSel_at hD2' he' hb' (hsz' e' he'), h.pr e'.1 (hmD e' he') hb'⟩
    have hout : ∀ s, (∀ e' ∈ D, e'.2 ≠ s) → a.tmps[s]? = a0.tmps[s]? := fun s hs => by rw [h.frame]; exact putSel_out hs
    have hoff' : ∀ j ∈ D.map (·.1) ++ E, b j = true → (B.getD j 0).testBit i = false := fun j hj hbj => by
      cases hbit : (B.getD j 0).testBit i with
      | false => rfl
      | true =>
        have := hoff j (by rw [hO j hj, hbit]; rfl)
        rw [hbj] at this; cases this
    rcases List.mem_append.1 hi with hi | hi
    · obtain ⟨e, he, rfl⟩ := List.mem_map.1 hi
      obtain ⟨oi, h1, h2, h3⟩ := hs e he b V a w (fun s hsE hbit => hoff s (by rw [hO s (hmE s hsE), hbit]; rfl)) hdeps hout h.below
      refine ⟨oi, h1, fun K hK => h3 K fun v w' hbl hpr => hK _ _ ⟨setV V e.1 v, ?_, h.below.trans (hbl.mono h.below.size), fun j hj hu => ?_⟩⟩
      · rw [h.frame]
        obtain ⟨k, hk⟩ := List.getElem?_of_mem he
        refine putSel_upk (v0 := V e.1) k hb (by simp [vrows, hk]) (vrows_set hD V hk v) ?_
        rw [List.all_eq_true]
        intro x hx
        have key : ∀ j, j ≠ k → ∀ y, D[j]? = some y → (!(y.1 == e.1) && !(y.2 == e.2)) = true := fun j hj y hy => by
          simp only [Bool.and_eq_true, Bool.not_eq_true', beq_eq_false_iff_ne]
          constructor
          · intro hh
            have g1 : (D.map (·.1))[k]? = some e.1 := by simp [hk]
            have g2 : (D.map (·.1))[j]? = some e.1 := by simp [hy, hh]
            obtain ⟨l1, e1⟩ := List.getElem?_eq_some_iff.1 g1
            obtain ⟨l2, e2⟩ := List.getElem?_eq_some_iff.1 g2
            exact hj ((List.getElem_inj hD).1 (e1.trans e2.symm)).symm
          · intro hh
            have g1 : (D.map (·.2))[k]? = some e.2 := by simp [hk]
            have g2 : (D.map (·.2))[j]? = some e.2 := by simp [hy, hh]
            obtain ⟨l1, e1⟩ := List.getElem?_eq_some_iff.1 g1
            obtain ⟨l2, e2⟩ := List.getElem?_eq_some_iff.1 g2
            exact hj ((List.getElem_inj hD2').1 (e1.trans e2.symm)).symm
        rcases List.mem_append.1 hx with hx | hx
        · obtain ⟨j, hj⟩ := List.getElem?_of_mem hx
          rw [List.getElem?_take] at hj
          split at hj
          · simp only [vrows, List.getElem?_map] at hj
            obtain ⟨y, hy, rfl⟩ := Option.map_eq_some_iff.1 hj
            exact key j (by omega) y hy
          · cases hj
        · obtain ⟨j, hj⟩ := List.getElem?_of_mem hx
          rw [List.getElem?_drop] at hj
          simp only [vrows, List.getElem?_map] at hj
          obtain ⟨y, hy, rfl⟩ := Option.map_eq_some_iff.1 hj
          exact key _ (by omega) y hy
      · have hbE : ∀ s ∈ E, b s = up b e.1 s := fun s hs => (up_ne (hne e he s hs).symm).symm
        by_cases hje : j = e.1
        · rw [hje]
          exact dep e.1 (hmD e he) b _ _ _ w' hbE (fun _ _ => rfl) hpr
        · have hbj : b j = true := by rwa [up_ne hje] at hu
          refine dep j hj b _ V _ w' hbE (fun q hq => (setV_ne V v (fun hqe => ?_)).symm) (stab j hj b V w w' (h.pr j hj hbj) hbl)
          rcases hq with hq | hq
          · exact hje (hq.symm.trans hqe)
          · rw [hqe, hoff' j hj hbj] at hq; cases hq
    · obtain ⟨oi, h1, h2, h3⟩ := hE i hi b V a w hb hdeps hout h.below
      refine ⟨oi, h1, fun K hK => h3 K fun w' hbl hpr hrest => hK _ _ ⟨V, ?_, hbl, fun j hj hu => ?_⟩⟩
      · rw [h.frame]
        refine (putSel_same ?_).symm
        rw [List.all_eq_true]
        intro x hx
        obtain ⟨e, he, rfl⟩ := List.mem_map.1 hx
        simpa using hne e he i hi
      · by_cases hji : j = i
        · rw [hji]; exact hpr
        · have hbj : b j = true := by rwa [up_ne hji] at hu
          exact hrest j hj hji hbj (h.pr j hj hbj)
  · rintro b a w hall ⟨V, h⟩
    have hb : ∀ i ∈ D.map (·.1) ++ E, b i = true := fun i hi => hall i (hO i hi)
    refine hfin b V a w hb ?_ h.below (fun i hi => h.pr i hi (hb i hi))
    rw [h.frame]
    have : ∀ (L : List (Nat × Tmp × Value)) (a : Act), (∀ x ∈ L, b x.1 = true) → putSel a b L = putSel a (fun _ => true) L := fun L => by
      induction L with
      | nil => intro a _; rfl
      | cons x L ih =>
        intro a hx
        simp only [putSel, hx x (by simp), if_true]
        exact ih _ (fun y hy => hx y (by simp [hy]))
    refine this _ _ (fun x hx => ?_)
    obtain ⟨e, he, rfl⟩ := List.mem_map.1 hx
    exact hb _ (hmD e he)
end
end Go.Proofs.Ytphhdmopfmelbaa

/- larchref12: Do of any kind; what Play holds. No walk. -/
namespace Go.Proofs.Ytphhdmopfmelbaa
open Go.RowKit Go.Proofs.YtphhdmopfmelbaaW.PrintWords
set_option linter.unusedVariables false
set_option linter.unusedSimpArgs false

theorem ref_Do {B : Nat} {d : WD} {fv iv mv sv zv : Value} {us : List Value} {w : World} (h : OutW B d fv iv mv sv zv us w) (hF : d.Form) (k at_ a b c : Int) (f : d.Fit k at_ a b c) :
    Calls Try.prog 46 #[.agg #[fv, iv, mv, sv, zv], .agg #[.int .i64 k, .int .i64 at_, .int .i64 a, .int .i64 b, .int .i64 c]] w (DoPost B w fv iv mv sv zv us (doD d k at_ a b c) (kd k)) := by
  obtain ⟨i, rfl⟩ : ∃ i : Nat, at_ = i := ⟨at_.toNat, by have := f.at0; omega⟩
  have hk : k = 1 ∨ k = 2 ∨ k = 3 ∨ k = 4 ∨ k = 5 ∨ k = 6 ∨ k = 7 ∨ k = 8 ∨ k = 9 ∨ k = 10 ∨ k = 11 := by have := f.k0; have := f.k1; omega
  rcases hk with rfl | rfl | rfl | rfl | rfl | rfl | rfl | rfl | rfl | rfl | rfl
  · exact ref_do_1 h hF i a b c f
  · have := ref_do_2 h hF i a b c f
    by_cases hx : (d.fields.getD i []).getD a.toNat 0 = b
    · have e : doD d 2 i a b c = (1, { d with fields := d.fields.set i ((d.fields.getD i []).set a.toNat c) }) := by
        unfold doD; rw [if_neg (by decide), if_pos rfl, Int.toNat_natCast, if_pos hx]
      rw [e]; rwa [if_pos hx, if_pos hx] at this
    · have e : doD d 2 i a b c = (0, d) := by
        unfold doD; rw [if_neg (by decide), if_pos rfl, Int.toNat_natCast, if_neg hx]
      rw [e]; rwa [if_neg hx, if_neg hx] at this
  · exact ref_do_3 h hF i a b c f
  · have := ref_do_4 h hF i a b c f
    by_cases hx : d.infos.getD i 0 = b
    · have e : doD d 4 i a b c = (1, { d with infos := d.infos.set i c }) := by
        unfold doD; rw [if_neg (by decide), if_neg (by decide), if_neg (by decide), if_pos rfl, Int.toNat_natCast, if_pos hx]
      rw [e]; rwa [if_pos hx, if_pos hx] at this
    · have e : doD d 4 i a b c = (0, d) := by
        unfold doD; rw [if_neg (by decide), if_neg (by decide), if_neg (by decide), if_pos rfl, Int.toNat_natCast, if_neg hx]
      rw [e]; rwa [if_neg hx, if_neg hx] at this
  · exact ref_do_5 h hF i a b c f
  · exact ref_do_6 h hF i a b c f
  · exact ref_do_7 h hF i a b c f
  · exact ref_do_8 h hF i a b c f
  · exact ref_do_9 h hF i a b c f
  · exact ref_do_10 h hF i a b c f
  · exact ref_do_11 h hF i a b c f

/-- What the reference's Play holds in its second loop. -/
structure RJ (w0 : World) (dj : WD) (an ks : List Int) (g : Nat) (fv iv mv sv zv : Value) (us : List Value) (ov kv : Value) (w : World) : Prop where
  below : Below w0.heap.size w0 w
  res : Blk w (w0.heap.size + 1) TRW zero5
  box : Blk w g TRW [fv, iv, mv, sv, zv]
  out : OutW w0.heap.size dj fv iv mv sv zv us w
  ans : w.ownsRow w0.heap.size TII 1 ov an.length (an.map (Value.int .i64))
  kin : w.ownsRow w0.heap.size TII 1 kv ks.length (ks.map (Value.int .i64))
  d1 : ∀ k, ov.ownBlock = some k → ¬ OutFoot fv iv mv sv zv us k
  d2 : ∀ k, kv.ownBlock = some k → ¬ OutFoot fv iv mv sv zv us k
  d3 : ∀ k, ov.ownBlock = some k → kv.ownBlock ≠ some k
  ne : g ≠ w0.heap.size + 1
section
variable {w0 w w1 : World} {dj d' : WD} {an ks : List Int} {g : Nat} {fv iv mv sv zv ov kv v' : Value} {us : List Value}
theorem blk_not_foot (h : OutW w0.heap.size dj fv iv mv sv zv us w) {b : Nat} {xs : List Value} (hb : Blk w b TRW xs) : ¬ OutFoot fv iv mv sv zv us b := fun hk => by
  obtain ⟨_, _, T, ys, hb2, hT⟩ := h.foot hk
  have := (hb.inj hb2).1
  rcases hT with rfl | rfl | rfl <;> exact absurd this (by decide)
theorem RJ.more (h : RJ w0 dj an ks g fv iv mv sv zv us ov kv w) (hb : Below w.heap.size w w1) : RJ w0 dj an ks g fv iv mv sv zv us ov kv w1 :=
  have hf : Fr w w1 (fun _ => False) := Fr.of_below0 hb
  ⟨h.below.trans (hb.mono h.below.size), hf.blk h.res id, hf.blk h.box id, h.out.below hb, owns_fr h.ans hf (fun _ _ => id), owns_fr h.kin hf (fun _ _ => id), h.d1, h.d2, h.d3, h.ne⟩
theorem RJ.act (h : RJ w0 dj an ks g fv iv mv sv zv us ov kv w) (ho : OutW w0.heap.size d' fv iv mv sv zv us w1) (hf : Fr w w1 (OutFoot fv iv mv sv zv us)) : RJ w0 d' an ks g fv iv mv sv zv us ov kv w1 :=
  ⟨h.below.trans (hf.below h.below.size (fun k hk => (h.out.foot hk).1)), hf.blk h.res (blk_not_foot h.out h.res), hf.blk h.box (blk_not_foot h.out h.box), ho, owns_fr h.ans hf (fun k hk => h.d1 k hk), owns_fr h.kin hf (fun k hk => h.d2 k hk), h.d1, h.d2, h.d3, h.ne⟩
theorem RJ.pushA (h : RJ w0 dj an ks g fv iv mv sv zv us ov kv w) (hg : w.grownBy w1 ov.ownBlock) {n : Int} (ho : w1.ownsRow w0.heap.size TII 1 v' (an.length + 1) (an.map (Value.int .i64) ++ [.int .i64 n]))
    (hat : v'.ownBlock = ov.ownBlock ∨ ∃ b, v'.ownBlock = some b ∧ w.heap.size ≤ b) : RJ w0 dj (an ++ [n]) ks g fv iv mv sv zv us v' kv w1 := by
  have hf := Fr.of_grown hg
  have hT : ∀ {b xs}, Blk w b TRW xs → some b ≠ ov.ownBlock := fun hb e => by
    obtain ⟨ys, hy⟩ := owns_typed h.ans _ e.symm
    exact absurd (hb.inj hy).1 (by decide)
  refine ⟨h.below.trans (hf.below h.below.size (fun k hk => (World.ownsRow.lt h.ans k hk.symm).1)), hf.blk h.res (hT h.res), hf.blk h.box (hT h.box), h.out.fr hf (fun k hk e => h.d1 k e.symm hk), by simpa using ho, owns_fr h.kin hf (fun k hk e => h.d3 k e.symm hk), fun k hk hx => ?_, h.d2, fun k hk hx => ?_, h.ne⟩
  · rcases own_new hat hk with h1 | h1
    · exact h.d1 k h1 hx
    · have := (h.out.foot hx).2.1; omega
  · rcases own_new hat hk with h1 | h1
    · exact h.d3 k h1 hx
    · have := (World.ownsRow.lt h.kin k hx).2; omega
theorem RJ.pushK (h : RJ w0 dj an ks g fv iv mv sv zv us ov kv w) (hg : w.grownBy w1 kv.ownBlock) {n : Int} (ho : w1.ownsRow w0.heap.size TII 1 v' (ks.length + 1) (ks.map (Value.int .i64) ++ [.int .i64 n]))
    (hat : v'.ownBlock = kv.ownBlock ∨ ∃ b, v'.ownBlock = some b ∧ w.heap.size ≤ b) : RJ w0 dj an (ks ++ [n]) g fv iv mv sv zv us ov v' w1 := by
  have hf := Fr.of_grown hg
  have hT : ∀ {b xs}, Blk w b TRW xs → some b ≠ kv.ownBlock := fun hb e => by
    obtain ⟨ys, hy⟩ := owns_typed h.kin _ e.symm
    exact absurd (hb.inj hy).1 (by decide)
  refine ⟨h.below.trans (hf.below h.below.size (fun k hk => (World.ownsRow.lt h.kin k hk.symm).1)), hf.blk h.res (hT h.res), hf.blk h.box (hT h.box), h.out.fr hf (fun k hk e => h.d2 k e.symm hk), owns_fr h.ans hf (fun k hk e => h.d3 k hk e.symm), by simpa using ho, h.d1, fun k hk hx => ?_, fun k hk hx => ?_, h.ne⟩
  · rcases own_new hat hk with h1 | h1
    · exact h.d2 k h1 hx
    · have := (h.out.foot hx).2.1; omega
  · rcases own_new hat hx with h1 | h1
    · exact h.d3 k hk h1
    · have := (World.ownsRow.lt h.ans k hk).2; omega
theorem RJ.start (hb : Below w0.heap.size w0 w) (hr : Blk w (w0.heap.size + 1) TRW zero5) {cs : List Value} {w2 : World} (hg : Blk w2 g TRW [fv, iv, mv, sv, zv]) (ho : OutW w.heap.size dj fv iv mv sv zv us w1) (hb1 : Below w.heap.size w w1) (hgz : Blk w1 g TRW cs) (hw : w.heap.size ≤ g) (hf : Fr w1 w2 (fun k => k = g)) : RJ w0 dj [] [] g fv iv mv sv zv us (.slice none 0 0) (.slice none 0 0) w2 :=
  have hs0 := hb.size
  have hs1 := hb1.size
  have hr1 : Blk w1 (w0.heap.size + 1) TRW zero5 := (Fr.of_below0 (S := fun _ => False) hb1).blk hr id
  have hlt := hr.lt
  ⟨(hb.trans (hb1.mono hs0)).trans (hf.below (by omega) (fun k hk => by omega)), hf.blk hr1 (by omega), hg, (ho.other hf (fun k hk => ⟨TRW, cs, hk ▸ hgz, by decide, by decide, by decide⟩)).lower hs0,
    World.ownsRow_nil _ _ _ _, World.ownsRow_nil _ _ _ _, fun k hk => by simp [Value.ownBlock] at hk, fun k hk => by simp [Value.ownBlock] at hk, fun k hk => by simp [Value.ownBlock] at hk, by omega⟩
/-- Its end. -/
theorem RJ.fin {d : WD} {l : List ActD} (h : RJ w0 (runD d l).2 (runD d l).1 (kinds l) g fv iv mv sv zv us ov kv w) (hp : playE d l = 0) {wz : World} (hf : Fr w wz (fun k => k = w0.heap.size + 1)) :
    PlayPost w0 d l (.returned (.tuple #[ov, .agg #[fv, iv, mv, sv, zv], kv, .int .i64 0])) wz := by
  have hs0 := h.below.size
  have hlen := runD_length d l
  have hkl : (kinds l).length = l.length := by simp [kinds]
  have hn : ∀ {B e n : Nat} {v : Value} {xs : List Value}, w.ownsRow B e 1 v n xs → e ≠ TRW → wz.ownsRow B e 1 v n xs := fun ho he => owns_fr ho hf (fun k hk e2 => by
    obtain ⟨c, hc⟩ := owns_typed ho k hk
    subst e2
    exact he (hc.inj h.res).1)
  refine ⟨h.below.trans (hf.below hs0 (fun k hk => by omega)), .inr ⟨hp, ov, fv, iv, mv, sv, zv, kv, us, rfl, ?_⟩⟩
  exact ⟨by rw [← hlen]; exact hn h.ans (by decide), h.out.other hf (fun k hk => ⟨TRW, _, hk ▸ h.res, by decide, by decide, by decide⟩), by rw [← hkl]; exact hn h.kin (by decide), h.d1, h.d2, h.d3⟩
end
theorem fail_endR {w w1 : World} {g : Nat} (hb : Blk w1 g TRW zero5) (hB : Below w.heap.size w w1) (hg : w.heap.size ≤ g) (wz : World)
    (e : wz = ((((w1.setCell ⟨g, 0, none⟩ (.slice none 0 0)).setCell ⟨g, 1, none⟩ (.slice none 0 0)).setCell ⟨g, 2, none⟩ (.slice none 0 0)).setCell ⟨g, 3, none⟩ (.slice none 0 0)).setCell ⟨g, 4, none⟩ (.slice none 0 0)) :
    wz.heap[g]? = some (.cells #[.slice none 0 0, .slice none 0 0, .slice none 0 0, .slice none 0 0, .slice none 0 0] TRW (0, 0)) ∧ Below w.heap.size w wz := by
  obtain ⟨h1, h2⟩ := res_endR hb _ _ _ _ _ wz e
  exact ⟨h1, hB.trans (h2.below hB.size (fun k hk => hk ▸ hg))⟩
end Go.Proofs.Ytphhdmopfmelbaa

/- larchref12: Play. -/
namespace Go.Proofs.Ytphhdmopfmelbaa
open Go.RowKit Go.Proofs.YtphhdmopfmelbaaW.PrintWords Go.Proofs.YtphhdmopfmelbaaW.PrintLast
set_option linter.unusedVariables false
set_option linter.unusedSimpArgs false

set_option maxHeartbeats 4000000 in
set_option maxRecDepth 100000 in
theorem ref_Play (w : World) (v : WV) (d : WD) (hv : v.Reads w d) (hl : d.fields.length < 100000000) (hl3 : d.states.length < 100000000) (hr : ∀ r ∈ d.fields, r.length < 100000000) (A : Option Addr) (c : Nat) (l : List ActD) (ha : ActsAt w A l) (hll : l.length < 100000000) :
    Calls Try.prog 20 #[v.val d, .slice A l.length c] w (PlayPost w d l) := by
  refine calls_hide fun Q HQ => ?_
  have HQ' := Lib.hid HQ
  have HV := Lib.hid hv
  have HRr := Lib.hid hr
  have HA := Lib.hid ha
  have hba := ((Below.refl w.heap.size w).alloc (Nat.le_refl _) (.cells (v.cells d).toArray TRW)).alloc (by simp) (.cells #[.slice none 0 0, .slice none 0 0, .slice none 0 0, .slice none 0 0, .slice none 0 0] TRW)
  have hb1 := (Blk.new w TRW (v.cells d)).alloc (.cells #[.slice none 0 0, .slice none 0 0, .slice none 0 0, .slice none 0 0, .slice none 0 0] TRW)
  have hb2 := Blk.new (w.alloc (.cells (v.cells d).toArray TRW)) TRW zero5
  rw [World.size_alloc] at hb2
  have HBA := Lib.hid hba
  have HB1 := Lib.hid hb1
  have HB2 := Lib.hid (show Blk ((w.alloc (.cells (v.cells d).toArray TRW)).alloc (.cells #[.slice none 0 0, .slice none 0 0, .slice none 0 0, .slice none 0 0, .slice none 0 0] TRW)) (w.heap.size + 1) TRW _ from hb2)
  clear HQ hv hr ha hba hb1 hb2
  go_enter Try.func20, Try.ntmps20
  go_wp2_with fail
  have HLIM := Lib.hid (ref_Check _ v d (HV.out.below (HBA.out.mono (Nat.le_refl _))) (by omega) (by omega) (fun r hr => by have := HRr.out r hr; omega))
  generalize (w.alloc (.cells (v.cells d).toArray TRW)).alloc (.cells #[.slice none 0 0, .slice none 0 0, .slice none 0 0, .slice none 0 0, .slice none 0 0] TRW) = wA at *
  refine HLIM.out.mono ?_
  rintro e w1 ⟨rfl, hbl⟩
  have HBW := Lib.hid (HBA.out.trans (hbl.mono HBA.out.size))
  have HB3 := Lib.hid ((Fr.of_below0 (S := fun _ => False) hbl).blk HB1.out id)
  have HB4 := Lib.hid ((Fr.of_below0 (S := fun _ => False) hbl).blk HB2.out id)
  clear HB1 HB2 HBA hbl HLIM
  have hb0 := HB3.out.cell 0
  have hb1 := HB3.out.cell 1
  have hb2 := HB3.out.cell 2
  have hb3 := HB3.out.cell 3
  have hb4 := HB3.out.cell 4
  have hr0 := HB4.out.cell 0
  have hr1 := HB4.out.cell 1
  have hr2 := HB4.out.cell 2
  have hr3 := HB4.out.cell 3
  have hr4 := HB4.out.cell 4
  have hf0 := HB4.out.free ⟨w.heap.size + 1, 0, none⟩ rfl
  have hf1 := HB4.out.free ⟨w.heap.size + 1, 1, none⟩ rfl
  have hf2 := HB4.out.free ⟨w.heap.size + 1, 2, none⟩ rfl
  have hf3 := HB4.out.free ⟨w.heap.size + 1, 3, none⟩ rfl
  have hf4 := HB4.out.free ⟨w.heap.size + 1, 4, none⟩ rfl
  simp only [List.getElem?_cons_zero, List.getElem?_cons_succ] at hr0 hr1 hr2 hr3 hr4 hb0 hb1 hb2 hb3 hb4
  have HEND := Lib.hid (fun wz e => fail_endR HB4.out HBW.out (Nat.le_succ _) wz e)
  by_cases hbig : limitsD d ≠ 0 ∨ l.length > 1000
  · have hp : playE d l = 2 := by unfold playE; rw [if_pos hbig]
    have HPP := Lib.hid (show ∀ wz, Below w.heap.size w wz → PlayPost w d l (.returned (.tuple #[nilV, nilW, nilV, .int .i64 2])) wz from fun wz hb => ⟨hb, .inl ⟨by rw [hp]; decide, by rw [hp]⟩⟩)
    clear hp
    rcases limits_cases d with hL | hL
    · have hll2 : l.length > 1000 := by
        rcases hbig with h | h
        · exact absurd hL h
        · exact h
      have hc : checkD d = formD d := by unfold checkD; rw [if_neg (fun h => h hL)]
      rw [hc]
      clear hbig hL hc
      rcases form_cases d with hF | hF
      all_goals
        rw [hF]
        clear hF
        go_wp2
        (try simp only [Exit.inBlock, Exit.then])
        refine bodyPost_ret (results_tctt rfl _ _ (w.heap.size + 1) TRW _ (0, 0) _ rfl (HEND.out _ rfl).1 Try.underlying43 rfl wsizeR) rfl ?_
        exact HQ'.out _ _ (HPP.out _ (HEND.out _ rfl).2)
    · have hc : checkD d = 2 := by unfold checkD; rw [if_pos (by rw [hL]; decide)]
      rw [hc]
      clear hbig hL hc
      go_wp2
      (try simp only [Exit.inBlock, Exit.then])
      refine bodyPost_ret (results_tctt rfl _ _ (w.heap.size + 1) TRW _ (0, 0) _ rfl (HEND.out _ rfl).1 Try.underlying43 rfl wsizeR) rfl ?_
      exact HQ'.out _ _ (HPP.out _ (HEND.out _ rfl).2)
  have hL : limitsD d = 0 := by rcases limits_cases d with h | h; exact h; exact absurd (.inl (by omega)) hbig
  have hl1000 : l.length ≤ 1000 := by rcases Nat.lt_or_ge 1000 l.length with h | h; exact absurd (.inr h) hbig; exact h
  have hc : checkD d = formD d := by unfold checkD; rw [if_neg (fun h => h hL)]
  rw [hc]
  have HL0 := Lib.hid hL
  clear hL hbig hc
  by_cases hF : formD d = 0
  case neg =>
    have hF3 : formD d = 3 := by rcases form_cases d with h | h; exact absurd h hF; exact h
    have hp : playE d l = 3 := by unfold playE; rw [if_neg (fun h => by rcases h with h | h; exact h HL0.out; omega), if_pos hF, hF3]
    have HPP := Lib.hid (show ∀ wz, Below w.heap.size w wz → PlayPost w d l (.returned (.tuple #[nilV, nilW, nilV, .int .i64 3])) wz from fun wz hb => ⟨hb, .inl ⟨by rw [hp]; decide, by rw [hp]⟩⟩)
    rw [hF3]
    clear hp hF hF3
    go_wp2
    (try simp only [Exit.inBlock, Exit.then])
    refine bodyPost_ret (results_tctt rfl _ _ (w.heap.size + 1) TRW _ (0, 0) _ rfl (HEND.out _ rfl).1 Try.underlying43 rfl wsizeR) rfl ?_
    exact HQ'.out _ _ (HPP.out _ (HEND.out _ rfl).2)
  rw [hF]
  have HFF := Lib.hid (form_of HL0.out hF)
  have HP0 := Lib.hid (show playE d l = refusedD d l by unfold playE; rw [if_neg (fun h => by rcases h with h | h; exact h HL0.out; omega), if_neg (by rw [hF]; decide)])
  clear hF HEND hr0 hr1 hr2 hr3 hr4 hf0 hf1 hf2 hf3 hf4 hb0 hb1 hb2 hb3 hb4
  go_wp2
  go_loopw [9] (fun k wr => ∃ j : Nat, j ≤ l.length ∧ k = .int .i64 j ∧ (∀ i, i < j → ∀ x, l[i]? = some x → refD d x.k x.at_ x.a x.b x.c = 0) ∧ Below w.heap.size w wr ∧ Blk wr w.heap.size TRW (v.cells d) ∧ Blk wr (w.heap.size + 1) TRW zero5) (fun k _ => l.length - (intOf k).toNat)
  case atStart => exact ⟨0, Nat.zero_le _, rfl, fun i hi => absurd hi (Nat.not_lt_zero i), HBW.out, HB3.out, HB4.out⟩
  case round =>
    clear HBW HB3 HB4
    obtain ⟨j, hj, rfl, hok, hB, hk1, hk2⟩ := hrel
    have HOK := Lib.hid hok
    have HBW := Lib.hid hB
    have HB3 := Lib.hid hk1
    have HB4 := Lib.hid hk2
    clear hok hB hk1 hk2
    by_cases hlt : j < l.length
    · obtain ⟨ab, ao, hAd, ha0, ha1, ha2, ha3, ha4⟩ := (HA.out.below HBW.out).at_ hlt
      subst hAd
      have HJ := Lib.hid (List.getElem?_eq_getElem hlt)
      have HHIT := Lib.hid (refusedD_hit d l hlt HOK.out)
      generalize l[j] = x at *
      have hb0 := HB3.out.cell 0
      have hb1 := HB3.out.cell 1
      have hb2 := HB3.out.cell 2
      have hb3 := HB3.out.cell 3
      have hb4 := HB3.out.cell 4
      simp only [List.getElem?_cons_zero, List.getElem?_cons_succ] at hb0 hb1 hb2 hb3 hb4
      have HREF := Lib.hid (ref_fit wr.drew v d (HV.out.below HBW.out.drew) (by omega) (by omega) (fun r hr => by have := HRr.out r hr; omega) x.k x.at_ x.a x.b x.c)
      go_wp2_with fail
      refine wp_region_still_tail 5 (by kernel_rfl) (by kernel_rfl) ?_
      simp only [List.take_succ_cons, List.take_zero, List.drop_succ_cons, List.drop_zero]
      iterate 5 still_step
      refine wpStill_nil ?_
      change wpList _ _ _ _ _ wr.drew
      go_wp2_with fail
      refine HREF.out.mono ?_
      rintro e w2 ⟨rfl, hbl⟩
      have HBW2 := Lib.hid (HBW.out.drew.trans (hbl.mono HBW.out.size))
      have HB7 := Lib.hid ((Fr.of_below0 (S := fun _ => False) hbl).blk (show Blk wr.drew _ _ _ from HB3.out) id)
      have HB8 := Lib.hid ((Fr.of_below0 (S := fun _ => False) hbl).blk (show Blk wr.drew _ _ _ from HB4.out) id)
      clear HBW HB3 HB4 hbl HREF ha0 ha1 ha2 ha3 ha4 hb0 hb1 hb2 hb3 hb4
      have hr0 := HB8.out.cell 0
      have hr1 := HB8.out.cell 1
      have hr2 := HB8.out.cell 2
      have hr3 := HB8.out.cell 3
      have hr4 := HB8.out.cell 4
      have hf0 := HB8.out.free ⟨w.heap.size + 1, 0, none⟩ rfl
      have hf1 := HB8.out.free ⟨w.heap.size + 1, 1, none⟩ rfl
      have hf2 := HB8.out.free ⟨w.heap.size + 1, 2, none⟩ rfl
      have hf3 := HB8.out.free ⟨w.heap.size + 1, 3, none⟩ rfl
      have hf4 := HB8.out.free ⟨w.heap.size + 1, 4, none⟩ rfl
      simp only [List.getElem?_cons_zero, List.getElem?_cons_succ] at hr0 hr1 hr2 hr3 hr4
      have HEND := Lib.hid (fun wz e => fail_endR HB8.out HBW2.out (Nat.le_succ _) wz e)
      by_cases hR : refD d x.k x.at_ x.a x.b x.c = 0
      · have HOK2 := Lib.hid (show ∀ i, i < j + 1 → ∀ y, l[i]? = some y → refD d y.k y.at_ y.a y.b y.c = 0 from fun i hi y hy => by
          rcases Nat.lt_or_ge i j with h | h
          · exact HOK.out i h y hy
          · have : i = j := by omega
            subst this
            rw [HJ.out] at hy; cases hy; exact hR)
        rw [hR]
        clear hR
        go_wp2
        go_roundw
        case rel => exact ⟨j + 1, by omega, by go_num, HOK2.out, HBW2.out, HB7.out, HB8.out⟩
        case measure => simp [intOf]; omega
      · have hp := HHIT.out hR
        have HPP := Lib.hid (show ∀ wz, Below w.heap.size w wz → PlayPost w d l (.returned (.tuple #[nilV, nilW, nilV, .int .i64 (refD d x.k x.at_ x.a x.b x.c)])) wz from fun wz hb => ⟨hb, .inl ⟨by rw [HP0.out, hp]; exact hR, by rw [HP0.out, hp]⟩⟩)
        clear hp
        generalize refD d x.k x.at_ x.a x.b x.c = rr at *
        go_wp2
        (try simp only [Exit.inBlock, Exit.then])
        refine bodyPost_ret (results_tctt rfl _ _ (w.heap.size + 1) TRW _ (0, 0) _ rfl (HEND.out _ rfl).1 Try.underlying43 rfl wsizeR) rfl ?_
        exact HQ'.out _ _ (HPP.out _ (HEND.out _ rfl).2)
    · have hje : j = l.length := by omega
      subst hje
      have HP1 := Lib.hid (show playE d l = 0 by rw [HP0.out]; exact refusedD_none d l HOK.out)
      have HFIT := Lib.hid (show ∀ x ∈ l, d.Fit x.k x.at_ x.a x.b x.c from fun x hx => by
        obtain ⟨i, hi⟩ := List.getElem?_of_mem hx
        exact fit_of (HOK.out i (List.getElem?_eq_some_iff.1 hi).1 x hi))
      have hf := HFF.out
      have hlc : d.fields.length ≤ 1000000000 ∧ d.infos.length * 8 ≤ 140737488351232 ∧ d.marks.length ≤ 140737488351232 ∧ d.states.length * 8 ≤ 140737488351232 ∧ d.frozen.length ≤ 140737488351232 := by
        have := hf.l0; have := hf.l3; have := hf.e1; have := hf.e2; have := hf.e4; omega
      have HCOPY := Lib.hid (ref_Copy wr v d (HV.out.below HBW.out) hlc (fun r hr => by have := hf.l1 r hr; omega))
      have hb0 := HB3.out.cell 0
      have hb1 := HB3.out.cell 1
      have hb2 := HB3.out.cell 2
      have hb3 := HB3.out.cell 3
      have hb4 := HB3.out.cell 4
      simp only [List.getElem?_cons_zero, List.getElem?_cons_succ] at hb0 hb1 hb2 hb3 hb4
      clear hf hlc hlt hj HOK HP0
      go_wp2_with fail
      refine HCOPY.out.mono ?_
      rintro e w1 ⟨fv, iv, mv, sv, zv, us, rfl, hout, hbel⟩
      obtain ⟨Af, cf, ef, _, _⟩ := owns_slice hout.f
      obtain ⟨Ai, ci, ei, _, _⟩ := owns_slice hout.i
      obtain ⟨Am, cm, em, _, _⟩ := owns_slice hout.m
      obtain ⟨As, cs, es, _, _⟩ := owns_slice hout.s
      obtain ⟨Az, cz, ez, _, _⟩ := owns_slice hout.z
      have hsz := hbel.size
      have HST := Lib.hid (RJ.start HBW.out HB4.out (Blk.new w1 TRW [fv, iv, mv, sv, zv]) (hout.below ((Below.refl w1.heap.size w1).alloc (Nat.le_refl _) (.cells [fv, iv, mv, sv, zv].toArray TRW))) (hbel.alloc hsz (.cells [fv, iv, mv, sv, zv].toArray TRW)) (Blk.new w1 TRW [fv, iv, mv, sv, zv]) hsz (Fr.refl _ _))
      have hgz := Blk.new w1 TRW zero5
      subst ef ei em es ez
      have hr0 := hgz.cell 0
      have hr1 := hgz.cell 1
      have hr2 := hgz.cell 2
      have hr3 := hgz.cell 3
      have hr4 := hgz.cell 4
      have hf0 := hgz.free ⟨w1.heap.size, 0, none⟩ rfl
      have hf1 := hgz.free ⟨w1.heap.size, 1, none⟩ rfl
      have hf2 := hgz.free ⟨w1.heap.size, 2, none⟩ rfl
      have hf3 := hgz.free ⟨w1.heap.size, 3, none⟩ rfl
      have hf4 := hgz.free ⟨w1.heap.size, 4, none⟩ rfl
      simp only [List.getElem?_cons_zero, List.getElem?_cons_succ] at hr0 hr1 hr2 hr3 hr4
      clear hout hbel hgz hsz HCOPY HBW HB3 HB4 hb0 hb1 hb2 hb3 hb4
      generalize d.fields.length = n0 at *
      generalize d.infos.length = n1 at *
      generalize d.marks.length = n2 at *
      generalize d.states.length = n3 at *
      generalize d.frozen.length = n4 at *
      go_wp2
      have HRJ := Lib.hid HST.out
      clear HST hr0 hr1 hr2 hr3 hr4 hf0 hf1 hf2 hf3 hf4
      generalize w1.heap.size = g at *
      go_loopw [12, 13, 14] (fun o q k wr => ∃ j : Nat, j ≤ l.length ∧ k = .int .i64 j ∧ RJ w (runD d (l.take j)).2 (runD d (l.take j)).1 (kinds (l.take j)) g (.slice Af n0 cf) (.slice Ai n1 ci) (.slice Am n2 cm) (.slice As n3 cs) (.slice Az n4 cz) us o q wr) (fun _ _ k _ => l.length - (intOf k).toNat)
      case atStart => exact ⟨0, Nat.zero_le _, rfl, HRJ.out⟩
      case round =>
        clear HRJ
        obtain ⟨j, hj, rfl, hP⟩ := hrel
        have HP := Lib.hid hP
        clear hP
        by_cases hlt : j < l.length
        · obtain ⟨ab, ao, hAd, hz0, hz1, hz2, hz3, hz4⟩ := HA.out.at_ hlt
          subst hAd
          have HRS := Lib.hid (runD_step d l j hlt)
          have HKS := Lib.hid (kinds_step l j hlt)
          have hfx := HFIT.out l[j] (List.getElem_mem hlt)
          have HFJ := Lib.hid (runD_form HFF.out (l.take j) (fun x hx => HFIT.out x (List.mem_of_mem_take hx)))
          have hans : (runD d (l.take j)).1.length = j := by rw [runD_length]; simp; omega
          have hks : (kinds (l.take j)).length = j := by simp [kinds]; omega
          generalize l[j] = x at *
          generalize (runD d (l.take j)).2 = dj at *
          generalize (runD d (l.take j)).1 = ans at *
          generalize kinds (l.take j) = ks at *
          have HPD := Lib.hid (HP.out.more (Below.refl wr.heap.size wr).drew)
          have HDO := Lib.hid (ref_Do HPD.out.out HFJ.out.1 x.k x.at_ x.a x.b x.c (Fit_same HFJ.out.2.1 HFJ.out.2.2.1 HFJ.out.2.2.2 hfx))
          have HAN := Lib.hid hans
          have HKN := Lib.hid hks
          have HZ := Lib.hid (show ∀ w', Below w.heap.size w w' → w'.cell? ⟨ab, ao + j * 5, none⟩ = some (.int .i64 x.k) ∧ w'.cell? ⟨ab, ao + j * 5 + 1, none⟩ = some (.int .i64 x.at_) ∧ w'.cell? ⟨ab, ao + j * 5 + 2, none⟩ = some (.int .i64 x.a) ∧ w'.cell? ⟨ab, ao + j * 5 + 3, none⟩ = some (.int .i64 x.b) ∧ w'.cell? ⟨ab, ao + j * 5 + 4, none⟩ = some (.int .i64 x.c) from fun w' hb => ⟨pw_cell_below hb hz0, pw_cell_below hb hz1, pw_cell_below hb hz2, pw_cell_below hb hz3, pw_cell_below hb hz4⟩)
          clear hfx hks hans HP hz0 hz1 hz2 hz3 hz4
          go_wp2_with fail
          have hb0 := HPD.out.box.cell 0
          have hb1 := HPD.out.box.cell 1
          have hb2 := HPD.out.box.cell 2
          have hb3 := HPD.out.box.cell 3
          have hb4 := HPD.out.box.cell 4
          obtain ⟨ha0, ha1, ha2, ha3, ha4⟩ := HZ.out _ HPD.out.below
          simp only [List.getElem?_cons_zero, List.getElem?_cons_succ] at hb0 hb1 hb2 hb3 hb4
          go_region_held3 (fun w' => (w'.cell? ⟨g, 0, none⟩ = some (.slice Af n0 cf) ∧ w'.cell? ⟨g, 1, none⟩ = some (.slice Ai n1 ci) ∧ w'.cell? ⟨g, 2, none⟩ = some (.slice Am n2 cm) ∧ w'.cell? ⟨g, 3, none⟩ = some (.slice As n3 cs) ∧ w'.cell? ⟨g, 4, none⟩ = some (.slice Az n4 cz)) ∧ w'.cell? ⟨ab, ao + j * 5, none⟩ = some (.int .i64 x.k) ∧ w'.cell? ⟨ab, ao + j * 5 + 1, none⟩ = some (.int .i64 x.at_) ∧ w'.cell? ⟨ab, ao + j * 5 + 2, none⟩ = some (.int .i64 x.a) ∧ w'.cell? ⟨ab, ao + j * 5 + 3, none⟩ = some (.int .i64 x.b) ∧ w'.cell? ⟨ab, ao + j * 5 + 4, none⟩ = some (.int .i64 x.c)) (exact ⟨⟨by assumption, by assumption, by assumption, by assumption, by assumption⟩, by assumption, by assumption, by assumption, by assumption, by assumption⟩) (first
            | (go_at_call 46; refine HDO.out.mono ?_; rintro e w3 ⟨rfl, hout, hfr⟩
               have HP1 := Lib.hid (HPD.out.act hout hfr)
               have hb0 := HP1.out.box.cell 0
               have hb1 := HP1.out.box.cell 1
               have hb2 := HP1.out.box.cell 2
               have hb3 := HP1.out.box.cell 3
               have hb4 := HP1.out.box.cell 4
               obtain ⟨ha0, ha1, ha2, ha3, ha4⟩ := HZ.out _ HP1.out.below
               simp only [List.getElem?_cons_zero, List.getElem?_cons_succ] at hb0 hb1 hb2 hb3 hb4
               clear hout hfr))
          generalize (doD dj x.k x.at_ x.a x.b x.c).1 = n at *
          generalize kd x.k = kk at *
          go_wp2_with (first
            | (at_builtin; refine print_append_cells w.heap.size rfl _ _ 23 3 (.int .i64 0) 1 8 rfl Try.underlying23 pinfo_int rfl (by decide) (by decide) u12 ans.length _ [.int .i64 n] rfl rfl rfl (by simp [Value.oneCell']) HP1.out.ans HP1.out.below HP1.out.below.size (by have := HAN.out; omega) ?_; intro a1 w4 hown1 hb1 hg1 hat1; have HP2 := Lib.hid (HP1.out.pushA hg1 hown1 hat1); clear hown1 hb1 hg1 hat1 HP1)
            | (at_builtin; refine print_append_cells w.heap.size rfl _ _ 23 3 (.int .i64 0) 1 8 rfl Try.underlying23 pinfo_int rfl (by decide) (by decide) u13 ks.length _ [.int .i64 kk] rfl rfl rfl (by simp [Value.oneCell']) HP2.out.kin HP2.out.below HP2.out.below.size (by have := HKN.out; omega) ?_; intro a2 w5 hown1 hb1 hg1 hat1; have HP3 := Lib.hid (HP2.out.pushK hg1 hown1 hat1); clear hown1 hb1 hg1 hat1 HP2))
          go_roundw
          case rel => exact ⟨j + 1, by omega, by go_num, by rw [HRS.out, HKS.out]; exact HP3.out⟩
          case measure => simp [intOf]; omega
        · have hje : j = l.length := by omega
          subst hje
          have hp0 := HP.out
          rw [List.take_of_length_le (Nat.le_refl _)] at hp0
          have HPP := Lib.hid hp0
          clear hp0 HP hlt hj
          obtain ⟨Ao, co, eo, _, _⟩ := owns_slice HPP.out.ans
          obtain ⟨Ak, ck, ek, _, _⟩ := owns_slice HPP.out.kin
          subst eo ek
          have HFIN := Lib.hid (fun wz hf => HPP.out.fin HP1.out (wz := wz) hf)
          have HBX := Lib.hid HPP.out.box
          have HRS := Lib.hid HPP.out.res
          clear HPP
          generalize (runD d l).1.length = no at *
          generalize (kinds l).length = nk at *
          go_wp2_with fail
          have HBXD := Lib.hid (show Blk wr.drew g TRW _ from HBX.out)
          have HRSD := Lib.hid (show Blk wr.drew (w.heap.size + 1) TRW zero5 from HRS.out)
          have HFIND := Lib.hid (show ∀ wz, Fr wr.drew wz (fun k => k = w.heap.size + 1) → PlayPost w d l _ wz from fun wz hf => HFIN.out wz ⟨hf.os, hf.tape, hf.output, hf.size, hf.block⟩)
          have hb0 := HBXD.out.cell 0
          have hb1 := HBXD.out.cell 1
          have hb2 := HBXD.out.cell 2
          have hb3 := HBXD.out.cell 3
          have hb4 := HBXD.out.cell 4
          have hr0 := HRSD.out.cell 0
          have hr1 := HRSD.out.cell 1
          have hr2 := HRSD.out.cell 2
          have hr3 := HRSD.out.cell 3
          have hr4 := HRSD.out.cell 4
          have hf0 := HRSD.out.free ⟨w.heap.size + 1, 0, none⟩ rfl
          have hf1 := HRSD.out.free ⟨w.heap.size + 1, 1, none⟩ rfl
          have hf2 := HRSD.out.free ⟨w.heap.size + 1, 2, none⟩ rfl
          have hf3 := HRSD.out.free ⟨w.heap.size + 1, 3, none⟩ rfl
          have hf4 := HRSD.out.free ⟨w.heap.size + 1, 4, none⟩ rfl
          simp only [List.getElem?_cons_zero, List.getElem?_cons_succ] at hb0 hb1 hb2 hb3 hb4 hr0 hr1 hr2 hr3 hr4
          have hr0' : wr.cell? ⟨w.heap.size + 1, 0, none⟩ = some (.slice none 0 0) := hr0
          have hf0' : wr.frozen? ⟨w.heap.size + 1, 0, none⟩ = false := hf0
          have hr1' : wr.cell? ⟨w.heap.size + 1, 1, none⟩ = some (.slice none 0 0) := hr1
          have hf1' : wr.frozen? ⟨w.heap.size + 1, 1, none⟩ = false := hf1
          have hr2' : wr.cell? ⟨w.heap.size + 1, 2, none⟩ = some (.slice none 0 0) := hr2
          have hf2' : wr.frozen? ⟨w.heap.size + 1, 2, none⟩ = false := hf2
          have hr3' : wr.cell? ⟨w.heap.size + 1, 3, none⟩ = some (.slice none 0 0) := hr3
          have hf3' : wr.frozen? ⟨w.heap.size + 1, 3, none⟩ = false := hf3
          have hr4' : wr.cell? ⟨w.heap.size + 1, 4, none⟩ = some (.slice none 0 0) := hr4
          have hf4' : wr.frozen? ⟨w.heap.size + 1, 4, none⟩ = false := hf4
          have HBLK := Lib.hid (fun wz e => res_endR HRS.out (.slice Af n0 cf) (.slice Ai n1 ci) (.slice Am n2 cm) (.slice As n3 cs) (.slice Az n4 cz) wz e)
          clear HBX HBXD HRSD HFIND
          go_region
          go_wp2
          (try simp only [Exit.inBlock, Exit.then])
          refine bodyPost_ret (results_tctt rfl _ _ (w.heap.size + 1) TRW _ (0, 0) _ rfl (show (World.drew _).heap[w.heap.size + 1]? = _ from (HBLK.out _ rfl).1) Try.underlying43 rfl wsizeR) rfl ?_
          exact HQ'.out _ _ (HFIN.out _ (HBLK.out _ rfl).2.drew)
end Go.Proofs.Ytphhdmopfmelbaa
