/- cell.Ids as plain data: which acts are in form, what they do. No walk. -/
import Derived.Test.YtoeaoeekjabaaaaBase
namespace Go.Proofs.Ytoeaoeekjabaaaa
open Go.RowKit Go.Proofs.YtoeaoeekjabaaaaW.PrintWords
set_option linter.unusedVariables false
set_option linter.unusedSimpArgs false

/-- An act on a cell. -/
structure CA where
  k : Int
  at_ : Int
  a : Int
  b : Int
abbrev CA.cells (x : CA) : List Value := [.int .i64 x.k, .int .i64 x.at_, .int .i64 x.a, .int .i64 x.b]
abbrev CA.val (x : CA) : Value := .agg #[.int .i64 x.k, .int .i64 x.at_, .int .i64 x.a, .int .i64 x.b]
/-- A slice of acts, as it is read. -/
def CAsAt (w : World) (A : Option Addr) (l : List CA) : Prop := 0 < l.length → ∃ b o, A = some ⟨b, o, none⟩ ∧ ∀ (j : Nat) x, l[j]? = some x → ∀ (i : Nat) u, x.cells[i]? = some u → w.cell? ⟨b, o + j * 4 + i, none⟩ = some u
theorem CAsAt.below {w w' : World} {A : Option Addr} {l : List CA} (h : CAsAt w A l) (hb : Below w.heap.size w w') : CAsAt w' A l := fun hl => by
  obtain ⟨b, o, e, hc⟩ := h hl
  exact ⟨b, o, e, fun j x hx i u hu => pw_cell_below hb (hc j x hx i u hu)⟩
theorem CAsAt.at_ {w : World} {A : Option Addr} {l : List CA} (h : CAsAt w A l) {j : Nat} {x : CA} (hx : l[j]? = some x) : ∃ b o, A = some ⟨b, o, none⟩ ∧ w.cell? ⟨b, o + j * 4, none⟩ = some (.int .i64 x.k) ∧ w.cell? ⟨b, o + j * 4 + 1, none⟩ = some (.int .i64 x.at_) ∧ w.cell? ⟨b, o + j * 4 + 2, none⟩ = some (.int .i64 x.a) ∧ w.cell? ⟨b, o + j * 4 + 3, none⟩ = some (.int .i64 x.b) := by
  obtain ⟨b, o, e, hc⟩ := h (by have := (List.getElem?_eq_some_iff.1 hx).1; omega)
  have hx := hc j x hx
  exact ⟨b, o, e, hx 0 _ rfl, hx 1 _ rfl, hx 2 _ rfl, hx 3 _ rfl⟩
theorem CAsAt.take {w : World} {A : Option Addr} {l : List CA} (h : CAsAt w A l) (k : Nat) : CAsAt w A (l.take k) := fun hl => by
  obtain ⟨b, o, e, hc⟩ := h (by have := List.length_take_le' k l; omega)
  exact ⟨b, o, e, fun j x hx => hc j x (by
    rw [List.getElem?_take] at hx
    split at hx
    · exact hx
    · cases hx)⟩

def rightI (t n : Int) : Prop := -1 ≤ n ∧ n < t
instance (t n : Int) : Decidable (rightI t n) := by unfold rightI; infer_instance
def knownI (k : Int) : Prop := k = 1 ∨ k = 2 ∨ k = 4 ∨ k = 5
instance (k : Int) : Decidable (knownI k) := by unfold knownI; infer_instance
def fitsI (t : Int) (x : CA) : Prop := x.k = 1 ∨ (rightI t x.a ∧ (¬ x.k = 5 ∨ rightI t x.b))
instance (t : Int) (x : CA) : Decidable (fitsI t x) := by unfold fitsI; infer_instance
def errX (n : Nat) (t : Int) (x : CA) : Int := if ¬ knownI x.k then 5 else if x.at_ < 0 ∨ (n : Int) ≤ x.at_ ∨ ¬ fitsI t x then 1 else 0
def errL (n : Nat) (t : Int) : List CA → Int
  | [] => 0
  | x :: l => if errX n t x = 0 then errL n t l else errX n t x
def errI (xs : List Int) (t : Int) (l : List CA) : Int :=
  if 64 < xs.length ∨ 64 < t ∨ 1000 < l.length then 2 else if t < 0 ∨ ∃ n ∈ xs, ¬ rightI t n then 1 else errL xs.length t l
theorem errL_zero {n : Nat} {t : Int} : ∀ {l : List CA}, errL n t l = 0 → ∀ x ∈ l, errX n t x = 0 := fun {l} => by
  induction l with
  | nil => intro _ x hx; cases hx
  | cons y l ih =>
    intro h x hx
    unfold errL at h
    by_cases h0 : errX n t y = 0
    · rw [if_pos h0] at h
      rcases List.mem_cons.1 hx with rfl | hx
      · exact h0
      · exact ih h x hx
    · rw [if_neg h0] at h; exact absurd h h0
theorem errX_zero {n : Nat} {t : Int} {x : CA} (h : errX n t x = 0) : knownI x.k ∧ 0 ≤ x.at_ ∧ x.at_ < n ∧ fitsI t x := by
  unfold errX at h
  by_cases h1 : knownI x.k
  · rw [if_neg (fun hn => hn h1)] at h
    by_cases h2 : x.at_ < 0 ∨ (n : Int) ≤ x.at_ ∨ ¬ fitsI t x
    · rw [if_pos h2] at h; cases h
    · exact ⟨h1, by omega, by omega, Decidable.not_not.1 fun h3 => h2 (.inr (.inr h3))⟩
  · rw [if_pos h1] at h; cases h
/-- Up to j all are in form. -/
theorem errL_take {n : Nat} {t : Int} : ∀ {l : List CA} {j : Nat}, (∀ i x, i < j → l[i]? = some x → errX n t x = 0) → (∀ x, l[j]? = some x → errL n t l = if errX n t x = 0 then errL n t (l.drop j) else errX n t x) ∧ (l.length ≤ j → errL n t l = 0) := fun {l} => by
  induction l with
  | nil => intro j _; exact ⟨fun x hx => by simp at hx, fun _ => rfl⟩
  | cons y l ih =>
    intro j h
    cases j with
    | zero =>
      refine ⟨fun x hx => ?_, fun hl => by simp at hl⟩
      simp only [List.getElem?_cons_zero, Option.some.injEq] at hx
      subst hx
      show (if errX n t y = 0 then errL n t l else errX n t y) = _
      by_cases h0 : errX n t y = 0
      · rw [if_pos h0, if_pos h0, List.drop_zero]; show _ = (if errX n t y = 0 then errL n t l else errX n t y); rw [if_pos h0]
      · rw [if_neg h0, if_neg h0]
    | succ j =>
      have h0 : errX n t y = 0 := h 0 y (by omega) rfl
      have ih' := ih (j := j) (fun i x hi hx => h (i + 1) x (by omega) (by simpa using hx))
      have hc : errL n t (y :: l) = errL n t l := by show (if errX n t y = 0 then errL n t l else errX n t y) = _; rw [if_pos h0]
      refine ⟨fun x hx => ?_, fun hl => ?_⟩
      · rw [hc, List.drop_succ_cons]; exact ih'.1 x (by simpa using hx)
      · rw [hc]; exact ih'.2 (by simp at hl; omega)
/-- One act: what is told, the cells behind it. -/
def stepI (d : List Int) (x : CA) : Int × List Int :=
  if x.k = 1 then (d.getD x.at_.toNat 0, d)
  else if x.k = 2 then (0, d.set x.at_.toNat x.a)
  else if x.k = 4 then (d.getD x.at_.toNat 0, d.set x.at_.toNat x.a)
  else (if d.getD x.at_.toNat 0 = x.a then 1 else 0, if d.getD x.at_.toNat 0 = x.a then d.set x.at_.toNat x.b else d)
theorem stepI_length (d : List Int) (x : CA) : (stepI d x).2.length = d.length := by
  unfold stepI
  split
  · rfl
  · split
    · exact List.length_set
    · split
      · exact List.length_set
      · show (if _ then _ else _ : List Int).length = _
        split
        · exact List.length_set
        · rfl
def runI : List Int → List CA → List Int × List Int
  | d, [] => ([], d)
  | d, x :: l => ((stepI d x).1 :: (runI (stepI d x).2 l).1, (runI (stepI d x).2 l).2)
theorem runI_snoc (d : List Int) (l : List CA) (x : CA) : runI d (l ++ [x]) = ((runI d l).1 ++ [(stepI (runI d l).2 x).1], (stepI (runI d l).2 x).2) := by
  induction l generalizing d with
  | nil => rfl
  | cons y l ih => show (_ :: (runI _ (l ++ [x])).1, (runI _ (l ++ [x])).2) = _; rw [ih]; rfl
theorem runI_length (d : List Int) (l : List CA) : (runI d l).1.length = l.length ∧ (runI d l).2.length = d.length := by
  induction l generalizing d with
  | nil => exact ⟨rfl, rfl⟩
  | cons y l ih => exact ⟨by show ((runI _ l).1.length + 1) = l.length + 1; rw [(ih _).1], by show (runI _ l).2.length = _; rw [(ih _).2, stepI_length]⟩
theorem runI_take (d : List Int) (l : List CA) (j : Nat) (x : CA) (hx : l[j]? = some x) : runI d (l.take (j + 1)) = ((runI d (l.take j)).1 ++ [(stepI (runI d (l.take j)).2 x).1], (stepI (runI d (l.take j)).2 x).2) := by
  have h := (List.getElem?_eq_some_iff.1 hx)
  obtain ⟨hl, e⟩ := h
  rw [List.take_succ_eq_append_getElem hl, e, runI_snoc]
theorem runI_pre (d : List Int) (l : List CA) (j : Nat) (x : CA) (hx : l[j]? = some x) : (runI d l).1[j]? = some (stepI (runI d (l.take j)).2 x).1 := by
  induction l generalizing d j with
  | nil => simp at hx
  | cons y l ih =>
    cases j with
    | zero => simp only [List.getElem?_cons_zero, Option.some.injEq] at hx; subst hx; rfl
    | succ j => show ((stepI d y).1 :: (runI (stepI d y).2 l).1)[j + 1]? = _; rw [List.getElem?_cons_succ]; exact ih _ j (by simpa using hx)
/-- All cells hold a thing of the first t, or nothing. -/
def OkC (t : Int) (d : List Int) : Prop := ∀ n ∈ d, rightI t n
theorem OkC.set {t : Int} {d : List Int} (h : OkC t d) (i : Nat) {n : Int} (hn : rightI t n) : OkC t (d.set i n) := fun m hm => by
  rcases List.mem_or_eq_of_mem_set hm with h1 | rfl
  · exact h m h1
  · exact hn
theorem OkC.step {t : Int} {d : List Int} {n : Nat} {x : CA} (h : OkC t d) (hx : errX n t x = 0) : OkC t (stepI d x).2 := by
  obtain ⟨hk, _, _, hf⟩ := errX_zero hx
  unfold stepI
  by_cases h1 : x.k = 1
  · rw [if_pos h1]; exact h
  · have ha : rightI t x.a ∧ (¬ x.k = 5 ∨ rightI t x.b) := by
      rcases hf with h2 | h2
      · exact absurd h2 h1
      · exact h2
    rw [if_neg h1]
    by_cases h2 : x.k = 2
    · rw [if_pos h2]; exact h.set _ ha.1
    · rw [if_neg h2]
      by_cases h4 : x.k = 4
      · rw [if_pos h4]; exact h.set _ ha.1
      · rw [if_neg h4]
        have h5 : x.k = 5 := by rcases hk with h | h | h | h <;> first | exact absurd h h1 | exact absurd h h2 | exact absurd h h4 | exact h
        show OkC t (if _ then _ else _)
        split
        · rcases ha.2 with h6 | h6
          · exact absurd h5 h6
          · exact h.set _ h6
        · exact h
theorem OkC.run {t : Int} {n : Nat} {l : List CA} (hl : ∀ x ∈ l, errX n t x = 0) : ∀ {d : List Int}, OkC t d → OkC t (runI d l).2 := by
  induction l with
  | nil => intro d h; exact h
  | cons y l ih => intro d h; exact ih (fun x hx => hl x (List.mem_cons_of_mem _ hx)) (h.step (hl y (List.mem_cons_self ..)))
def kindsI (l : List CA) : List Int := l.map CA.k
end Go.Proofs.Ytoeaoeekjabaaaa
