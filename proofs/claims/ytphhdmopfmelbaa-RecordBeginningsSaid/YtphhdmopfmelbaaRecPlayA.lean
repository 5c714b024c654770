/- record: Play, what it computes; what holds while it goes. No walk but NewTape, Kinds. -/
import Derived.Test.YtphhdmopfmelbaaRecDoB
import Derived.Test.YtphhdmopfmelbaaRecFormB
namespace Go.Proofs.Ytphhdmopfmelbaa
open Go.RowKit Go.Proofs.YtphhdmopfmelbaaW.PrintWords
set_option linter.unusedVariables false
set_option linter.unusedSimpArgs false

/-- An act. -/
structure ActD where
  k : Int
  at_ : Int
  a : Int
  b : Int
  c : Int
abbrev ActD.cells (x : ActD) : List Value := [.int .i64 x.k, .int .i64 x.at_, .int .i64 x.a, .int .i64 x.b, .int .i64 x.c]
abbrev ActD.val (x : ActD) : Value := .agg #[.int .i64 x.k, .int .i64 x.at_, .int .i64 x.a, .int .i64 x.b, .int .i64 x.c]
/-- A slice of acts, as it is read. -/
def ActsAt (w : World) (A : Option Addr) (l : List ActD) : Prop := 0 < l.length → ∃ b o, A = some ⟨b, o, none⟩ ∧ ∀ (j : Nat) x, l[j]? = some x → ∀ (i : Nat) u, x.cells[i]? = some u → w.cell? ⟨b, o + j * 5 + i, none⟩ = some u
theorem ActsAt.below {w w' : World} {A : Option Addr} {l : List ActD} (h : ActsAt w A l) (hb : Below w.heap.size w w') : ActsAt w' A l := fun hl => by
  obtain ⟨b, o, e, hc⟩ := h hl
  exact ⟨b, o, e, fun j x hx i u hu => pw_cell_below hb (hc j x hx i u hu)⟩
theorem ActsAt.at_ {w : World} {A : Option Addr} {l : List ActD} (h : ActsAt w A l) {j : Nat} (hj : j < l.length) : ∃ b o, A = some ⟨b, o, none⟩ ∧ w.cell? ⟨b, o + j * 5, none⟩ = some (.int .i64 l[j].k) ∧ w.cell? ⟨b, o + j * 5 + 1, none⟩ = some (.int .i64 l[j].at_) ∧ w.cell? ⟨b, o + j * 5 + 2, none⟩ = some (.int .i64 l[j].a) ∧ w.cell? ⟨b, o + j * 5 + 3, none⟩ = some (.int .i64 l[j].b) ∧ w.cell? ⟨b, o + j * 5 + 4, none⟩ = some (.int .i64 l[j].c) := by
  obtain ⟨b, o, e, hc⟩ := h (by omega)
  have hx := hc j l[j] (List.getElem?_eq_getElem hj)
  exact ⟨b, o, e, hx 0 _ rfl, hx 1 _ rfl, hx 2 _ rfl, hx 3 _ rfl, hx 4 _ rfl⟩

/-- The acts one behind the other: the answers, the world behind them. -/
def runD : WD → List ActD → List Int × WD
  | d, [] => ([], d)
  | d, x :: l => ((doD d x.k x.at_ x.a x.b x.c).1 :: (runD (doD d x.k x.at_ x.a x.b x.c).2 l).1, (runD (doD d x.k x.at_ x.a x.b x.c).2 l).2)
theorem runD_append (d : WD) (l m : List ActD) : runD d (l ++ m) = ((runD d l).1 ++ (runD (runD d l).2 m).1, (runD (runD d l).2 m).2) := by
  induction l generalizing d with
  | nil => rfl
  | cons x l ih => simp only [List.cons_append, runD, ih]
theorem runD_length (d : WD) (l : List ActD) : (runD d l).1.length = l.length := by
  induction l generalizing d with
  | nil => rfl
  | cons x l ih => simp [runD, ih]
def kinds (l : List ActD) : List Int := l.map fun x => kd x.k
/-- The first act that is refused: its error. -/
def refusedD (d : WD) : List ActD → Int
  | [] => 0
  | x :: l => if refD d x.k x.at_ x.a x.b x.c = 0 then refusedD d l else refD d x.k x.at_ x.a x.b x.c
theorem refusedD_hit (d : WD) (l : List ActD) {j : Nat} (hj : j < l.length) (hn : ∀ i, i < j → ∀ x, l[i]? = some x → refD d x.k x.at_ x.a x.b x.c = 0) (h : refD d l[j].k l[j].at_ l[j].a l[j].b l[j].c ≠ 0) : refusedD d l = refD d l[j].k l[j].at_ l[j].a l[j].b l[j].c := by
  induction l generalizing j with
  | nil => simp at hj
  | cons x l ih =>
    unfold refusedD
    cases j with
    | zero => exact if_neg (show refD d x.k x.at_ x.a x.b x.c ≠ 0 from h)
    | succ j =>
      rw [if_pos (hn 0 (by omega) x rfl)]
      exact ih (by simpa using hj) (fun i hi y hy => hn (i + 1) (by omega) y (by simpa using hy)) h
theorem refusedD_none (d : WD) (l : List ActD) (hn : ∀ i, i < l.length → ∀ x, l[i]? = some x → refD d x.k x.at_ x.a x.b x.c = 0) : refusedD d l = 0 := by
  induction l with
  | nil => rfl
  | cons x l ih =>
    unfold refusedD
    rw [if_pos (hn 0 (by simp) x rfl)]
    exact ih (fun i hi y hy => hn (i + 1) (by simpa using hi) y (by simpa using hy))
/-- Play's error. -/
def playE (d : WD) (l : List ActD) : Int := if limitsD d ≠ 0 ∨ l.length > 1000 then 2 else if formD d ≠ 0 then formD d else refusedD d l

theorem form_of {d : WD} (h1 : limitsD d = 0) (h2 : formD d = 0) : d.Form := by
  have h3 : ¬ (d.fields.length > 64 ∨ d.states.length > 64 ∨ ∃ r ∈ d.fields, r.length > 64) := fun h => by unfold limitsD at h1; rw [if_pos h] at h1; cases h1
  have h4 : formB d := by
    by_cases h : formB d
    · exact h
    · unfold formD at h2; rw [if_neg h] at h2; cases h2
  obtain ⟨e1, e2, e4, hr, hs⟩ := h4
  have hin : ∀ n lo hi, inD n lo hi = true → lo ≤ n ∧ n < hi := fun n lo hi h => by simpa [inD] using h
  refine ⟨by omega, fun r hr => ?_, by omega, e1, e2, e4, fun r hm n hn => ?_, fun n hn => ?_, fun n hn => ?_⟩
  · rcases Nat.lt_or_ge 64 r.length with h | h
    · exact absurd (.inr (.inr ⟨r, hr, h⟩)) h3
    · exact h
  · obtain ⟨i, hi⟩ := List.getElem?_of_mem hm
    have hl := (List.getElem?_eq_some_iff.1 hi).1
    have := (hr i hl).2
    rw [show d.fields.getD i [] = r by simp [List.getD_eq_getElem?_getD, hi]] at this
    unfold rowB at this
    rw [List.any_eq_false] at this
    have := this n hn
    exact hin _ _ _ (by simpa using this)
  · obtain ⟨i, hi⟩ := List.getElem?_of_mem hn
    have hl := (List.getElem?_eq_some_iff.1 hi).1
    have := (hr i (by omega)).1
    unfold infoB at this
    rw [show d.infos.getD i 0 = n by simp [List.getD_eq_getElem?_getD, hi]] at this
    exact hin _ _ _ this
  · rw [List.any_eq_false] at hs
    have := hs n hn
    exact hin _ _ _ (by simpa using this)
theorem fit_of {d : WD} {k at_ a b c : Int} (h : refD d k at_ a b c = 0) : d.Fit k at_ a b c := by
  have hin : ∀ {n lo hi}, inD n lo hi = true → lo ≤ n ∧ n < hi := fun h => by simpa [inD] using h
  unfold refD at h
  cases h1 : inD k 1 12 with
  | false => rw [if_pos h1] at h; cases h
  | true =>
    rw [if_neg (by rw [h1]; decide)] at h
    have hk := hin h1
    by_cases h7 : k ≥ 7
    · rw [if_pos h7] at h
      cases h2 : inD at_ 0 d.states.length with
      | false => rw [h2] at h; cases h
      | true =>
        have := hin h2
        exact ⟨hk.1, by omega, this.1, fun h => by omega, fun _ => this.2, fun h => by omega, fun h => by omega, fun h => by omega⟩
    · rw [if_neg h7] at h
      cases h2 : inD at_ 0 d.fields.length with
      | false => rw [if_pos h2] at h; cases h
      | true =>
        rw [if_neg (by rw [h2]; decide)] at h
        have hat := hin h2
        refine ⟨hk.1, by omega, hat.1, fun _ => hat.2, fun h => by omega, fun hk => ?_, fun hk => ?_, fun hk => ?_⟩
        · rcases hk with rfl | rfl
          · rw [if_pos rfl] at h
            cases h3 : inD a 0 (d.fields.getD at_.toNat []).length with
            | false => rw [h3] at h; cases h
            | true => exact hin h3
          · rw [if_neg (by decide), if_pos rfl] at h
            cases h3 : inD a 0 (d.fields.getD at_.toNat []).length with
            | false => rw [h3] at h; cases h
            | true => exact hin h3
        · subst hk
          rw [if_neg (by decide), if_pos rfl] at h
          cases h3 : inD a 0 (d.fields.getD at_.toNat []).length with
          | false => rw [h3] at h; cases h
          | true =>
            cases h4 : inD b (-1) d.fields.length with
            | false => rw [h3, h4] at h; cases h
            | true =>
              cases h5 : inD c (-1) d.fields.length with
              | false => rw [h3, h4, h5] at h; cases h
              | true => exact ⟨hin h4, hin h5⟩
        · subst hk
          rw [if_neg (by decide), if_neg (by decide), if_pos rfl] at h
          cases h4 : inD b (-1) d.states.length with
          | false => rw [h4] at h; cases h
          | true =>
            cases h5 : inD c 0 d.states.length with
            | false => rw [h4, h5] at h; cases h
            | true => exact ⟨hin h4, hin h5⟩
/-- What does not turn: how many, how many fields. -/
def Shape (d d' : WD) : Prop := d'.fields.length = d.fields.length ∧ d'.states.length = d.states.length ∧ ∀ i, (d'.fields.getD i []).length = (d.fields.getD i []).length
theorem Shape.refl (d : WD) : Shape d d := ⟨rfl, rfl, fun _ => rfl⟩
theorem doD_shape {d : WD} {k at_ a b c : Int} (f : d.Fit k at_ a b c) : Shape d (doD d k at_ a b c).2 := by
  unfold doD
  split
  · exact Shape.refl d
  split
  · split
    · refine ⟨by simp, rfl, fun i => ?_⟩
      rw [getD_set _ _ _ _ _ (f.row (by omega))]
      split
      · rename_i e; subst e; simp
      · rfl
    · exact Shape.refl d
  split
  · exact Shape.refl d
  split
  · split
    · exact ⟨rfl, rfl, fun _ => rfl⟩
    · exact Shape.refl d
  split
  · exact Shape.refl d
  split
  · exact ⟨rfl, rfl, fun _ => rfl⟩
  split
  · exact Shape.refl d
  split
  · exact ⟨rfl, List.length_set, fun _ => rfl⟩
  split
  · exact ⟨rfl, List.length_set, fun _ => rfl⟩
  split
  · exact Shape.refl d
  · exact ⟨rfl, rfl, fun _ => rfl⟩
theorem doD_same {d : WD} (h : d.Form) {k at_ a b c : Int} (f : d.Fit k at_ a b c) : (doD d k at_ a b c).2.fields.length = d.fields.length ∧ (doD d k at_ a b c).2.states.length = d.states.length ∧ ∀ i, ((doD d k at_ a b c).2.fields.getD i []).length = (d.fields.getD i []).length := doD_shape f
theorem Fit_same {d d' : WD} (h0 : d'.fields.length = d.fields.length) (h3 : d'.states.length = d.states.length) (hf : ∀ i, (d'.fields.getD i []).length = (d.fields.getD i []).length) {k at_ a b c : Int} (f : d.Fit k at_ a b c) : d'.Fit k at_ a b c :=
  ⟨f.k0, f.k1, f.at0, fun h => by rw [h0]; exact f.at1 h, fun h => by rw [h3]; exact f.at2 h, fun h => by rw [hf]; exact f.a0 h, fun h => by rw [h0]; exact f.b0 h, fun h => by rw [h3]; exact f.b1 h⟩
/-- While all fit the worlds stay in form. -/
theorem runD_form {d : WD} (h : d.Form) (l : List ActD) (hl : ∀ x ∈ l, d.Fit x.k x.at_ x.a x.b x.c) : (runD d l).2.Form ∧ (runD d l).2.fields.length = d.fields.length ∧ (runD d l).2.states.length = d.states.length ∧ ∀ i, ((runD d l).2.fields.getD i []).length = (d.fields.getD i []).length := by
  induction l generalizing d with
  | nil => exact ⟨h, rfl, rfl, fun _ => rfl⟩
  | cons x l ih =>
    have hx := hl x (by simp)
    obtain ⟨s1, s2, s3⟩ := doD_same h hx
    obtain ⟨r0, r1, r2, r3⟩ := ih (doD_form h hx) (fun y hy => Fit_same s1 s2 s3 (hl y (by simp [hy])))
    exact ⟨r0, r1.trans s1, r2.trans s2, fun i => (r3 i).trans (s3 i)⟩
end Go.Proofs.Ytphhdmopfmelbaa
