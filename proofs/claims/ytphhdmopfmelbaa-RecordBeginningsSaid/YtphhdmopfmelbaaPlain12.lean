/- record's Play in two parts: plain law. -/
import Derived.Test.YtphhdmopfmelbaaRecPlay
namespace Go.Proofs.Ytphhdmopfmelbaa
open Go.RowKit Go.Proofs.YtphhdmopfmelbaaW.PrintWords
set_option linter.unusedVariables false
set_option linter.unusedSimpArgs false

theorem refusedD_all {d : WD} : ∀ {l : List ActD}, refusedD d l = 0 → ∀ x ∈ l, refD d x.k x.at_ x.a x.b x.c = 0
  | [], _, x, hx => by simp at hx
  | y :: l, h, x, hx => by
    unfold refusedD at h
    by_cases hy : refD d y.k y.at_ y.a y.b y.c = 0
    · rw [if_pos hy] at h
      rcases List.mem_cons.1 hx with rfl | hx
      · exact hy
      · exact refusedD_all h x hx
    · rw [if_neg hy] at h
      exact absurd h hy
theorem refusedD_zero {d : WD} : ∀ {l : List ActD}, (∀ x ∈ l, refD d x.k x.at_ x.a x.b x.c = 0) → refusedD d l = 0
  | [], _ => rfl
  | y :: l, h => by
    unfold refusedD
    rw [if_pos (h y (by simp))]
    exact refusedD_zero fun x hx => h x (by simp [hx])
structure Good (d : WD) (l : List ActD) : Prop where
  lim : limitsD d = 0
  len : l.length ≤ 1000
  form : formD d = 0
  ref : ∀ x ∈ l, refD d x.k x.at_ x.a x.b x.c = 0
theorem Good.of {d : WD} {l : List ActD} (h : playE d l = 0) : Good d l := by
  unfold playE at h
  by_cases h1 : limitsD d ≠ 0 ∨ l.length > 1000
  · rw [if_pos h1] at h; cases h
  · rw [if_neg h1] at h
    have hlim : limitsD d = 0 := by
      rcases limits_cases d with h2 | h2
      · exact h2
      · exact absurd (.inl (by rw [h2]; decide)) h1
    have hlen : l.length ≤ 1000 := by
      rcases Nat.lt_or_ge 1000 l.length with h2 | h2
      · exact absurd (.inr h2) h1
      · exact h2
    by_cases h2 : formD d ≠ 0
    · rw [if_pos h2] at h; exact absurd h h2
    · rw [if_neg h2] at h
      exact ⟨hlim, hlen, by rcases form_cases d with h3 | h3; exact h3; exact absurd (by rw [h3]; decide) h2, refusedD_all h⟩
theorem Good.play {d : WD} {l : List ActD} (h : Good d l) : playE d l = 0 := by
  unfold playE
  rw [if_neg (fun hx => by
    rcases hx with hx | hx
    · exact hx h.lim
    · have := h.len; omega), if_neg (by rw [h.form]; decide)]
  exact refusedD_zero h.ref
theorem Good.Form {d : WD} {l : List ActD} (h : Good d l) : d.Form := form_of h.lim h.form
theorem Good.fits {d : WD} {l : List ActD} (h : Good d l) : ∀ x ∈ l, d.Fit x.k x.at_ x.a x.b x.c := fun x hx => fit_of (h.ref x hx)
theorem refD_shape {d d' : WD} (h0 : d'.fields.length = d.fields.length) (h3 : d'.states.length = d.states.length) (hf : ∀ i, (d'.fields.getD i []).length = (d.fields.getD i []).length) (k at_ a b c : Int) : refD d' k at_ a b c = refD d k at_ a b c := by
  unfold refD
  rw [h0, h3, hf]
theorem inD_of {n lo hi : Int} (h1 : lo ≤ n) (h2 : n < hi) : inD n lo hi = true := by simp [inD, h1, h2]
theorem Form.lim {d : WD} (h : d.Form) : limitsD d = 0 := by
  unfold limitsD
  rw [if_neg]
  rintro (h1 | h1 | ⟨r, hr, h1⟩)
  · have := h.l0; omega
  · have := h.l3; omega
  · have := h.l1 r hr; omega
theorem Form.form {d : WD} (h : d.Form) : formD d = 0 := by
  unfold formD
  rw [if_pos]
  refine ⟨h.e1, h.e2, h.e4, fun i hi => ⟨?_, ?_⟩, ?_⟩
  · unfold infoB
    have hi' : i < d.infos.length := by rw [h.e1]; exact hi
    have hm : d.infos.getD i 0 ∈ d.infos := by
      rw [List.getD_eq_getElem?_getD, List.getElem?_eq_getElem hi']
      exact List.getElem_mem hi'
    have := h.hI _ hm
    exact inD_of this.1 this.2
  · unfold rowB
    rw [List.any_eq_false]
    intro n hn
    have hm : d.fields.getD i [] ∈ d.fields := by
      rw [List.getD_eq_getElem?_getD, List.getElem?_eq_getElem hi]
      exact List.getElem_mem hi
    have := h.hF _ hm n hn
    simp [inD_of this.1 this.2]
  · rw [List.any_eq_false]
    intro n hn
    have := h.hS n hn
    simp [inD_of this.1 this.2]
/-- Acts in two parts. -/
theorem Good.take {d : WD} {l : List ActD} (h : Good d l) (k : Nat) : Good d (l.take k) :=
  ⟨h.lim, Nat.le_trans (List.length_take_le' k l) h.len, h.form, fun x hx => h.ref x (List.mem_of_mem_take hx)⟩
theorem Good.drop {d : WD} {l : List ActD} (h : Good d l) (k : Nat) : Good (runD d (l.take k)).2 (l.drop k) := by
  obtain ⟨f1, f2, f3, f4⟩ := runD_form h.Form (l.take k) (fun x hx => h.fits x (List.mem_of_mem_take hx))
  refine ⟨Form.lim f1, by have := h.len; simp; omega, Form.form f1, fun x hx => ?_⟩
  rw [refD_shape f2 f3 f4]
  exact h.ref x (List.mem_of_mem_drop hx)
theorem runD_two (d : WD) (l : List ActD) (k : Nat) : runD d l = ((runD d (l.take k)).1 ++ (runD (runD d (l.take k)).2 (l.drop k)).1, (runD (runD d (l.take k)).2 (l.drop k)).2) := by
  have := runD_append d (l.take k) (l.drop k)
  rwa [List.take_append_drop] at this
theorem kinds_two (l : List ActD) (k : Nat) : kinds l = kinds (l.take k) ++ kinds (l.drop k) := by
  unfold kinds
  rw [← List.map_append, List.take_append_drop]
theorem k_of (N : Int) (L : Nat) (hL : 0 < L) (hL2 : L ≤ 1100) : ∃ kk : Nat, kk < L ∧ (wrap64 (N.tmod L + L)).tmod L = kk := by
  have h1 : N.tmod L < L := Int.tmod_lt_of_pos N (by omega)
  have h2 : -(L : Int) < N.tmod L := by
    have := Int.tmod_lt_of_pos (-N) (show (0 : Int) < L by omega)
    rw [Int.neg_tmod] at this
    omega
  have hw : wrap64 (N.tmod L + L) = N.tmod L + L := by unfold wrap64; omega
  rw [hw]
  have h3 : 0 ≤ N.tmod L + L := by omega
  have h4 := Int.tmod_nonneg (L : Int) h3
  have h5 := Int.tmod_lt_of_pos (N.tmod L + L) (show (0 : Int) < L by omega)
  exact ⟨((N.tmod L + L).tmod L).toNat, by omega, by omega⟩
end Go.Proofs.Ytphhdmopfmelbaa
